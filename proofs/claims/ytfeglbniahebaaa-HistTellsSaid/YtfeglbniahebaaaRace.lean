/- Contracts of race.Find, race.Known and of the reference Find and Ahead. No condition beyond the hypotheses that each theorem states. -/
import Derived.Test.YtfeglbniahebaaaTxt
set_option linter.unusedSimpArgs false
set_option linter.unusedVariables false
namespace Go.Proofs.Ytfeglbniahebaaa
open Go Go.Den
set_option linter.unusedSimpArgs false
theorem ia_arr {len sz b o : Nat} {k : IntKind} {i : Nat} (hi : i < len) : iaV (some (some len, sz)) (.pointer (some ⟨b, o, none⟩)) (.int k i) = some (.pointer (some ⟨b, o + i * sz, none⟩)) := by
  have : (i : Int) < len := by omega
  simp [iaV, this]
/-- A row of ints of which the first n count. -/
abbrev Clk := Nat → Int
def rowI (n : Nat) (k : Clk) : List Value := (List.range n).map fun i => .int .i64 (k i)
abbrev clkC (k : Clk) : List Value := rowI 10 k
theorem rowI_len (n : Nat) (k : Clk) : (rowI n k).length = n := by simp [rowI]
theorem rowI_get (n : Nat) (k : Clk) {i : Nat} (hi : i < n) : (rowI n k)[i]? = some (.int .i64 (k i)) := by simp [rowI, hi]
theorem rowI_one (n : Nat) (k : Clk) : ∀ u ∈ (Value.agg (rowI n k).toArray).cells.toList, u.oneCell' = true := by
  intro u hu
  simp only [Value.cells, rowI, List.mem_map] at hu
  obtain ⟨x, _, rfl⟩ := hu
  rfl
def cset1 (k : Clk) (i : Nat) (v : Int) : Clk := fun j => if j = i then v else k j
theorem rowI_set (n : Nat) (k : Clk) (i : Nat) (v : Int) : (rowI n k).set i (.int .i64 v) = rowI n (cset1 k i v) := by
  apply List.ext_getElem?
  intro j
  by_cases hj : j < n
  · rw [rowI_get _ _ hj, List.getElem?_set]
    by_cases hij : i = j
    · subst hij; simp [rowI_len, hj, cset1]
    · have : ¬ j = i := fun e => hij e.symm
      simp [hij, rowI_get _ _ hj, cset1, this]
  · rw [List.getElem?_eq_none (by simp [rowI_len]; omega), List.getElem?_eq_none (by simp [rowI_len]; omega)]
theorem rowI_ext {n : Nat} {k k' : Clk} (h : ∀ i, i < n → k i = k' i) : rowI n k = rowI n k' := by
  apply List.ext_getElem?
  intro j
  by_cases hj : j < n
  · rw [rowI_get _ _ hj, rowI_get _ _ hj, h j hj]
  · rw [List.getElem?_eq_none (by simp [rowI_len]; omega), List.getElem?_eq_none (by simp [rowI_len]; omega)]
def joinL (a b : Clk) : Clk := fun i => max (a i) (b i)
theorem zcClock : zc P ty_race_clock = some (clkC (fun _ => 0)).toArray := by kernel_rfl
theorem cel_row {h : Heap} {b n : Nat} {k : Clk} {e : TypeId} {f : Nat × Nat} (hb : h b = some (.cells (rowI n k).toArray e f)) {i : Nat} (hi : i < n) : cel h b i = some (.int .i64 (k i)) := by
  simp [cel, hb, rowI, hi]
theorem ld_clk {h : Heap} {b : Nat} {k : Clk} {e : TypeId} {f : Nat × Nat} (hb : h b = some (.cells (clkC k).toArray e f)) : ldV (some (some 10)) (.pointer (some ⟨b, 0, none⟩)) h = some (.agg (clkC k).toArray) :=
  ldV_n (cels_of hb (by rw [List.drop_zero, List.take_of_length_le (by simp [rowI_len])]) (rowI_len _ _))
/-- Half joined. -/
def half (a b : Clk) (i : Nat) : Clk := fun j => if j < i then max (a j) (b j) else a j
theorem half_s (a b : Clk) (i : Nat) : cset1 (half a b i) i (max (a i) (b i)) = half a b (i + 1) := by
  funext j
  simp only [cset1, half]
  by_cases h1 : j = i
  · subst h1; simp
  · by_cases h2 : j < i
    · simp [h1, h2, show j < i + 1 by omega]
    · simp [h1, h2, show ¬ j < i + 1 by omega]
set_option maxHeartbeats 1000000 in
theorem join_ok (a b : Clk) {h : Heap} {K : Value → Heap → Prop} (hk : ∀ h', Ext h h' → K (.agg (clkC (joinL a b)).toArray) h') :
    callM P fn_race_join #[.agg (clkC a).toArray, .agg (clkC b).toArray] h K := by
  apply c_race_join
  unfold b_race_join
  refine nw_intro fun b1 h1 hb1 he1 hc1 => nw_intro fun b2 h2 hb2 he2 hc2 => ?_
  rw [zcClock]
  refine nw_intro fun b3 h3 hb3 he3 hc3 => ?_
  have hn1 : h b1 = none := hb1
  have hn3 : h b3 = none := by
    cases hh : h b3 with
    | none => rfl
    | some o => rw [he2 _ _ (he1 _ _ hh)] at hb3; cases hb3
  have hd12 : b1 ≠ b2 := fun e => by subst e; rw [hc1] at hb2; cases hb2
  have hd13 : b1 ≠ b3 := fun e => by subst e; rw [he2 _ _ hc1] at hb3; cases hb3
  refine seq_cut (fun mm s h' => mm = [] ∧ Ext h h' ∧ s 2 = .pointer (some ⟨b1, 0, none⟩) ∧ s 4 = .pointer (some ⟨b3, 0, none⟩) ∧ h' b1 = some (.cells (clkC (joinL a b)).toArray ty_race_clock (0, 0)) ∧
    h' b3 = some (.cells (clkC (fun _ => 0)).toArray ty_race_clock (0, 0))) (fun J hJ _ _ => ?_) ?_
  rotate_left
  · rintro mm s h4 ⟨rfl, he4, hs2, hs4, hc4, hc4'⟩
    simp only [hs2, hs4, ld_clk hc4, ov_s]
    refine st_intro hc4' (by simp [Value.cells, rowI_len]) (by simp [rowI_len]) (rowI_one _ _) fun h5 ho5 hc5 => ?_
    rw [over_all _ _ (by simp [Value.cells, rowI_len])] at hc5
    have hkp : Keep (some b3) h4 h5 := fun k' o e n => (ho5 k' (fun e => n (by rw [e]))).trans e
    have hld := ld_clk (k := joinL a b) (h := h5) (b := b3) (e := ty_race_clock) (f := (0, 0)) (by rw [hc5]; rfl)
    have htg : tagg P 67 = some (some 10) := by kernel_rfl
    simp only [retM, mkM, resL, puts_lk, lk]
    simp [hs4, htg, hld]
    exact hk h5 (he4.keep hkp (fun b' e => by cases e; exact hn3))
  refine loop_intro (fun mm s h' => mm = [] ∧ Ext h h' ∧ ∃ i : Nat, i ≤ 10 ∧ s 2 = .pointer (some ⟨b1, 0, none⟩) ∧ s 3 = .pointer (some ⟨b2, 0, none⟩) ∧ s 4 = .pointer (some ⟨b3, 0, none⟩) ∧ s 6 = .int .i64 i ∧
      h' b1 = some (.cells (clkC (half a b i)).toArray ty_race_clock (0, 0)) ∧ h' b2 = some (.cells (clkC b).toArray ty_race_clock (0, 0)) ∧ h' b3 = some (.cells (clkC (fun _ => 0)).toArray ty_race_clock (0, 0)))
    (fun s _ => (10 - num (s 6)).toNat) ⟨rfl, he1.trans (he2.trans he3), 0, by omega, rfl, rfl, rfl, rfl, he3 _ _ (he2 _ _ hc1), he3 _ _ hc2, hc3⟩ ?_
  rintro mm s h4 ⟨rfl, he4, i, hi, hs2, hs3, hs4, hs6, hc1', hc2', hc3'⟩
  simp only [hs6, bin_lss, ov_s, cd_b]
  refine ⟨fun hc => ?_, fun hc => ?_⟩
  rotate_left
  · have : ¬ ((i : Int) < 10) := by simpa using hc
    have hi' : i = 10 := by omega
    subst hi'
    simp only [lpM_e, blkM_e, if_true]
    have e10 : clkC (half a b 10) = clkC (joinL a b) := rowI_ext fun j hj => by simp [half, joinL, hj]
    rw [e10] at hc1'
    exact hJ _ _ _ ⟨rfl, he4, by simp [hs2], by simp [hs4], hc1', hc3'⟩
  have hlt : i < 10 := by have : ((i : Int) < 10) := by simpa using hc
                          omega
  have hw : IntKind.i64.wrap ((i : Int) + 1) = i + 1 := wrap64_id (by omega) (by omega)
  have hg1 := cel_row hc1' hlt
  have hgh : half a b i i = a i := by simp [half]
  rw [hgh] at hg1
  have hg2 := cel_row hc2' hlt
  simp only [hs2, hs3, ia_arr hlt, ov_s, ldV_c, Nat.zero_add, Nat.mul_one, hg1, hg2]
  refine vv_max ?_
  refine st_intro hc1' rfl (by simp [rowI_len]; omega) (by simp [Value.cells, Value.oneCell']) fun h5 ho5 hc5 => ?_
  simp only [bin_add, ov_s, hw, lpM_n]
  have hkp : Keep (some b1) h4 h5 := fun k' o e n => (ho5 k' (fun e => n (by rw [e]))).trans e
  refine ⟨⟨trivial, he4.keep hkp (fun b' e => by cases e; exact hn1), i + 1, by omega, by simp [hs2], by simp [hs3], by simp [hs4], by simp, ?_, ?_, ?_⟩, ?_⟩
  · rw [hc5]
    congr 2
    simp only [Value.cells, over]
    rw [← half_s]; unfold clkC; rw [← rowI_set]
    simp
  · rw [ho5 _ (Ne.symm hd12)]; exact hc2'
  · rw [ho5 _ (Ne.symm hd13)]; exact hc3'
  · simp [hs6]; omega
end Go.Proofs.Ytfeglbniahebaaa

namespace Go.Proofs.Ytfeglbniahebaaa
open Go Go.Den Go.MapKept
set_option linter.unusedSimpArgs false
def finC (kn : Nat → Clk) (tl : List Value) : List Value := (List.range 100).map (fun j => Value.int .i64 (kn (j / 10) (j % 10))) ++ tl
theorem finC_len (kn : Nat → Clk) (tl : List Value) : (finC kn tl).length = 100 + tl.length := by simp [finC]
theorem fin_get (kn : Nat → Clk) (tl : List Value) (j : Nat) : (finC kn tl)[j]? = if j < 100 then some (.int .i64 (kn (j / 10) (j % 10))) else tl[j - 100]? := by
  by_cases h : j < 100
  · rw [if_pos h]; unfold finC; rw [List.getElem?_append_left (by simpa using h)]; simp [h]
  · rw [if_neg h]; unfold finC; rw [List.getElem?_append_right (by simp; omega)]; simp
theorem cel_fin {h : Heap} {b : Nat} {kn : Nat → Clk} {tl : List Value} {e : TypeId} {f : Nat × Nat} (hb : h b = some (.cells (finC kn tl).toArray e f)) {w v : Nat} (hw : w < 10) (hv : v < 10) : cel h b (w * 10 + v) = some (.int .i64 (kn w v)) := by
  have h1 : (w * 10 + v) / 10 = w := by omega
  have h2 : (w * 10 + v) % 10 = v := by omega
  simp only [cel, hb, List.getElem?_toArray]
  rw [fin_get, if_pos (by omega), h1, h2]
theorem cel_tl {h : Heap} {b : Nat} {kn : Nat → Clk} {tl : List Value} {e : TypeId} {f : Nat × Nat} (hb : h b = some (.cells (finC kn tl).toArray e f)) (i : Nat) : cel h b (100 + i) = tl[i]? := by
  simp only [cel, hb, List.getElem?_toArray]
  rw [fin_get, if_neg (by omega)]
  congr 1; omega
theorem cels_mk {h : Heap} {b : Nat} {F : Nat → Value} : ∀ {n o : Nat}, (∀ i, i < n → cel h b (o + i) = some (F i)) → cels h b o n = some ((List.range n).map F)
  | 0, _, _ => rfl
  | n + 1, o, hc => by
    have h0 := hc 0 (by omega)
    have hr := cels_mk (F := fun i => F (i + 1)) (n := n) (o := o + 1) (fun i hi => by rw [show o + 1 + i = o + (i + 1) by omega]; exact hc (i + 1) (by omega))
    simp only [Nat.add_zero] at h0
    simp only [cels, h0, hr]
    rw [List.range_succ_eq_map]; simp [Function.comp_def]
theorem ld_fin {h : Heap} {b : Nat} {kn : Nat → Clk} {tl : List Value} {e : TypeId} {f : Nat × Nat} (hb : h b = some (.cells (finC kn tl).toArray e f)) {w : Nat} (hw : w < 10) :
    ldV (some (some 10)) (.pointer (some ⟨b, w * 10, none⟩)) h = some (.agg (clkC (kn w)).toArray) :=
  ldV_n (cels_mk fun i hi => cel_fin hb hw hi)
def kset (kn : Nat → Clk) (w : Nat) (c : Clk) : Nat → Clk := fun j => if j = w then c else kn j
theorem over_fin (kn : Nat → Clk) (tl : List Value) (w : Nat) (c : Clk) (hw : w < 10) : over (finC kn tl).toArray (w * 10) (clkC c) = (finC (kset kn w c) tl).toArray := by
  apply Array.ext_getElem?
  intro j
  rw [over_get _ _ _ (by simp [finC_len, rowI_len]; omega)]
  simp only [List.getElem?_toArray, rowI_len]
  rw [fin_get, fin_get]
  by_cases h1 : w * 10 ≤ j ∧ j < w * 10 + 10
  · have h2 : j / 10 = w := by omega
    have h3 : j % 10 = j - w * 10 := by omega
    rw [if_pos h1, if_pos (by omega), rowI_get _ _ (by omega), h2, h3]; simp [kset]
  · rw [if_neg h1]
    by_cases h4 : j < 100
    · have h2 : ¬ j / 10 = w := by omega
      rw [if_pos h4, if_pos h4]; simp [kset, h2]
    · rw [if_neg h4, if_neg h4]
theorem over_fin1 (kn : Nat → Clk) (tl : List Value) (w v : Nat) (x : Int) (hw : w < 10) (hv : v < 10) : over (finC kn tl).toArray (w * 10 + v) [.int .i64 x] = (finC (kset kn w (cset1 (kn w) v x)) tl).toArray := by
  apply Array.ext_getElem?
  intro j
  rw [over_get _ _ _ (by simp [finC_len]; omega)]
  simp only [List.getElem?_toArray, List.length_singleton]
  rw [fin_get, fin_get]
  by_cases h1 : w * 10 + v ≤ j ∧ j < w * 10 + v + 1
  · have hj : j = w * 10 + v := by omega
    subst hj
    have h2 : (w * 10 + v) / 10 = w := by omega
    have h3 : (w * 10 + v) % 10 = v := by omega
    rw [if_pos h1, if_pos (by omega), h2, h3]; simp [kset, cset1]
  · rw [if_neg h1]
    by_cases h4 : j < 100
    · rw [if_pos h4, if_pos h4]
      by_cases h2 : j / 10 = w
      · have h3 : ¬ j % 10 = v := by omega
        simp [kset, h2, cset1, h3]
      · simp [kset, h2]
    · rw [if_neg h4, if_neg h4]
theorem fset_fin (kn : Nat → Clk) (tl : List Value) (i : Nat) (x : Value) : (finC kn tl).set (100 + i) x = finC kn (tl.set i x) := by
  unfold finC
  rw [List.set_append_right _ _ (by simp)]
  simp
structure Act where
  who : Int
  kind : Int
  place : Int
def actC (a : Act) : List Value := [.int .i64 a.who, .int .i64 a.kind, .int .i64 a.place]
def ActR (_ : Heap) (c : List Value) (a : Act) : Prop := c = actC a
theorem ActR.ext {h h' : Heap} {c : List Value} {x : Act} (_ : Ext h h') (r : ActR h c x) : ActR h' c x := r
/-- What was left at a place, as the map holds it. -/
abbrev Left := Int → Option Clk
def LeftR (h : Heap) (r : Nat) (L : Left) : Prop := ∃ f, MapR (.int .i64) h r f ∧ ∀ n, f (.int .i64 n) = (L n).map fun c => .agg (clkC c).toArray
def got (L : Left) (n : Int) : Clk := (L n).getD fun _ => 0
theorem mpLeft : mpC P ty_Map_int_race_clock = some (ty_int, .int .i64, .agg (clkC (fun _ => 0)).toArray) := by kernel_rfl
theorem left_lk {h : Heap} {r : Nat} {L : Left} {n : Int} {K : Value → Prop} (hl : LeftR h r L) (hk : K (.agg (clkC (got L n)).toArray)) : lkM P (Instr.lookup ty_Map_int_race_clock (.map (some r)) (.int .i64 n) false) h K := by
  obtain ⟨f, hm, hf⟩ := hl
  refine lookup_lk mpLeft rfl hm ?_
  rw [hf]
  cases hL : L n <;> simpa [got, hL, lkA] using hk
open Classical in
def lset (L : Left) (n : Int) (c : Clk) : Left := fun m => if m = n then some c else L m
theorem left_up {h : Heap} {r : Nat} {L : Left} {n : Int} {c : Clk} {K : Heap → Prop} (hl : LeftR h r L) (hk : ∀ h', (∀ b, b ≠ r → h' b = h b) → LeftR h' r (lset L n c) → K h') :
    uM P (Instr.mapUpdate ty_Map_int_race_clock (.map (some r)) (.int .i64 n) (.agg (clkC c).toArray)) h K := by
  obtain ⟨f, hm, hf⟩ := hl
  refine mapUpdate_u mpLeft rfl hm fun h' ho hm' => hk h' ho ⟨_, hm', fun m => ?_⟩
  by_cases he : m = n
  · subst he; simp [mset_same, lset]
  · rw [mset_ne _ _ _ (by simpa using he), hf]; simp [lset, he]
theorem LeftR.of {h h' : Heap} {r : Nat} {L : Left} (hl : LeftR h r L) (e : h' r = h r) : LeftR h' r L := let ⟨f, hm, hf⟩ := hl; ⟨f, hm.of e, hf⟩
theorem LeftR.ext {h h' : Heap} {r : Nat} {L : Left} (hl : LeftR h r L) (e : Ext h h') : LeftR h' r L := let ⟨f, hm, hf⟩ := hl; ⟨f, hm.ext e, hf⟩
end Go.Proofs.Ytfeglbniahebaaa

namespace Go.Proofs.Ytfeglbniahebaaa
open Go Go.Den Go.MapKept
set_option linter.unusedSimpArgs false
/-- What an act lets know and leaves. -/
def mvK (kn : Nat → Clk) (L : Left) (w : Nat) (a : Act) : Nat → Clk := if a.kind = 3 ∨ a.kind = 5 ∨ a.kind = 4 then kset kn w (joinL (kn w) (got L a.place)) else kn
def mvL (kn : Nat → Clk) (L : Left) (w : Nat) (a : Act) : Left := if a.kind = 4 ∨ a.kind = 6 then lset L a.place (joinL (kn w) (got L a.place)) else L
/-- All blocks but some stay as they were. -/
def KeepL (r : List Nat) (h h' : Heap) : Prop := ∀ b o, h b = some o → b ∉ r → h' b = some o
theorem KeepL.of_ext {r : List Nat} {h h' : Heap} (e : Ext h h') : KeepL r h h' := fun b o x _ => e b o x
theorem KeepL.trans {r : List Nat} {a b c : Heap} (x : KeepL r a b) (y : KeepL r b c) : KeepL r a c := fun k o e n => y k o (x k o e n) n
theorem KeepL.mono {r r' : List Nat} {h h' : Heap} (x : KeepL r h h') (s : ∀ b, b ∈ r → b ∈ r') : KeepL r' h h' := fun k o e n => x k o e fun m => n (s k m)
theorem KeepL.one {b : Nat} {r : List Nat} {h h' : Heap} (x : ∀ k, k ≠ b → h' k = h k) (hb : b ∈ r) : KeepL r h h' := fun k o e n => (x k fun e => n (e ▸ hb)).trans e
set_option maxHeartbeats 2000000 in
theorem moves_ok (b r w : Nat) (kn : Nat → Clk) (L : Left) (tl : List Value) (a : Act) {h : Heap} {K : Value → Heap → Prop} (hw : w < 10) (haw : a.who = w) (hbr : b ≠ r)
    (hb : h b = some (.cells (finC kn (.map (some r) :: tl)).toArray ty_race_finder (0, 0))) (hl : LeftR h r L)
    (hk : ∀ h', KeepL [b, r] h h' → h' b = some (.cells (finC (mvK kn L w a) (.map (some r) :: tl)).toArray ty_race_finder (0, 0)) → LeftR h' r (mvL kn L w a) → K (.tuple #[]) h') :
    callM P fn_race_finder_moves #[.pointer (some ⟨b, 0, none⟩), .agg (actC a).toArray] h K := by
  apply c_race_finder_moves
  unfold b_race_finder_moves
  refine nw_intro fun v1 h1 hv1 he1 hc1 => ?_
  have hb1 := he1 _ _ hb
  have hl1 := hl.ext he1
  have a0 : cel h1 v1 0 = some (.int .i64 a.who) := by simp [cel, hc1, Value.cells, actC]
  have a1 : cel h1 v1 1 = some (.int .i64 a.kind) := by simp [cel, hc1, Value.cells, actC]
  have a2 : cel h1 v1 2 = some (.int .i64 a.place) := by simp [cel, hc1, Value.cells, actC]
  have t0 : cel h1 b 100 = some (.map (some r)) := by simpa using cel_tl hb1 0
  have hdb : v1 ≠ b := fun e => by subst e; rw [hb] at hv1; cases hv1
  have hdr : v1 ≠ r := fun e => by
    obtain ⟨f, hm, _⟩ := hl; obtain ⟨o, ho⟩ := hm.lt; subst e; rw [ho] at hv1; cases hv1
  simp only [faV_p, ov_s, ldV_c, Nat.zero_add, a0, a1, ncV_p, haw, ia_arr hw]
  refine seq_cut (fun mm s h' => mm = [] ∧ h' = h1 ∧ s 0 = .pointer (some ⟨b, 0, none⟩) ∧ s 3 = .pointer (some ⟨v1, 0, none⟩) ∧ s 4 = .pointer (some ⟨b, w * 10, none⟩) ∧ s 12 = .int .i64 a.kind ∧
    s 13 = .bool (a.kind == 3 || a.kind == 5)) (fun J hJ _ _ => ?_) ?_
  · simp only [bin_eql, ov_s, cd_b]
    refine ⟨fun hc => hJ _ _ _ ⟨rfl, rfl, rfl, rfl, rfl, rfl, by simp [hc]⟩, fun hc => hJ _ _ _ ⟨rfl, rfl, rfl, rfl, rfl, rfl, by simp [hc]⟩⟩
  rintro mm s h' ⟨rfl, rfl, hs0, hs3, hs4, hs12, hs13⟩
  have hml : ∀ h2, Ext h' h2 → ldV (some (some 10)) (.pointer (some ⟨b, w * 10, none⟩)) h2 = some (.agg (clkC (kn w)).toArray) := fun h2 e => ld_fin (e _ _ hb1) hw
  simp only [hs13, cd_b]
  refine ⟨fun hc => ?_, fun hc => ?_⟩
  · have hkd : a.kind = 3 ∨ a.kind = 5 := by simpa using hc
    simp only [hs4, hs0, hs3, ncV_p, ov_s, hml _ (Ext.refl _), faV_p, Nat.zero_add, ldV_c, t0, a2]
    refine left_lk hl1 ?_
    refine join_ok _ _ fun h2 he2 => ?_
    have hb2 := he2 _ _ hb1
    refine st_intro hb2 (by simp [Value.cells, rowI_len]) (by simp [finC_len, rowI_len]; omega) (rowI_one _ _) fun h3 ho3 hc3 => ?_
    simp only [Value.cells] at hc3
    rw [over_fin _ _ _ _ hw] at hc3
    have hL : mvL kn L w a = L := by unfold mvL; rw [if_neg (by omega)]
    have hK2 : mvK kn L w a = kset kn w (joinL (kn w) (got L a.place)) := by unfold mvK; rw [if_pos (by omega)]
    have := hk h3 ((KeepL.of_ext (he1.trans he2)).trans (KeepL.one ho3 (by simp))) (by rw [hK2]; exact hc3) (by rw [hL]; exact (hl1.ext he2).of (ho3 r (Ne.symm hbr)))
    simpa using this
  · have hkd : ¬ (a.kind = 3 ∨ a.kind = 5) := by simpa using hc
    simp only [hs12, bin_eql, ov_s, cd_b]
    refine ⟨fun hc2 => ?_, fun hc2 => ?_⟩
    · have hk4 : a.kind = 4 := by simpa using hc2
      simp only [hs4, hs0, hs3, ncV_p, ov_s, hml _ (Ext.refl _), faV_p, Nat.zero_add, ldV_c, t0, a2]
      refine left_lk hl1 ?_
      refine join_ok _ _ fun h2 he2 => ?_
      have hb2 := he2 _ _ hb1
      refine st_intro hb2 (by simp [Value.cells, rowI_len]) (by simp [finC_len, rowI_len]; omega) (rowI_one _ _) fun h3 ho3 hc3 => ?_
      simp only [Value.cells] at hc3
      rw [over_fin _ _ _ _ hw] at hc3
      have t03 : cel h3 b 100 = some (.map (some r)) := by simpa using cel_tl hc3 0
      have a23 : cel h3 v1 2 = some (.int .i64 a.place) := by
        have : h3 v1 = h2 v1 := ho3 v1 hdb
        simp only [cel, this]; exact cel_ext he2 a2
      have hm3 := ld_fin hc3 hw
      have hks : kset kn w (joinL (kn w) (got L a.place)) w = joinL (kn w) (got L a.place) := by simp [kset]
      rw [hks] at hm3
      simp only [t03, a23, hm3, ov_s]
      refine left_up ((hl1.ext he2).of (ho3 r (Ne.symm hbr))) fun h4 ho4 hl4 => ?_
      have hL : mvL kn L w a = lset L a.place (joinL (kn w) (got L a.place)) := by unfold mvL; rw [if_pos (by omega)]
      have hK2 : mvK kn L w a = kset kn w (joinL (kn w) (got L a.place)) := by unfold mvK; rw [if_pos (by omega)]
      have := hk h4 (((KeepL.of_ext (he1.trans he2)).trans (KeepL.one ho3 (by simp))).trans (KeepL.one ho4 (by simp))) (by rw [hK2, ho4 b hbr]; exact hc3) (by rw [hL]; exact hl4)
      simpa using this
    · have hn4 : ¬ a.kind = 4 := by simpa using hc2
      refine ⟨fun hc3 => ?_, fun hc3 => ?_⟩
      · have hk6 : a.kind = 6 := by simpa using hc3
        simp only [hs4, hs0, hs3, ncV_p, ov_s, hml _ (Ext.refl _), faV_p, Nat.zero_add, ldV_c, t0, a2]
        refine left_lk hl1 ?_
        refine join_ok _ _ fun h2 he2 => ⟨cel_ext he2 t0, cel_ext he2 a2, ?_⟩
        refine left_up (hl1.ext he2) fun h4 ho4 hl4 => ?_
        have hL : mvL kn L w a = lset L a.place (joinL (kn w) (got L a.place)) := by unfold mvL; rw [if_pos (by omega)]
        have hK2 : mvK kn L w a = kn := by unfold mvK; rw [if_neg (by omega)]
        have := hk h4 ((KeepL.of_ext (he1.trans he2)).trans (KeepL.one ho4 (by simp))) (by rw [hK2, ho4 b hbr]; exact he2 _ _ hb1) (by rw [hL]; exact hl4)
        simpa using this
      · have hn6 : ¬ a.kind = 6 := by simpa using hc3
        have hL : mvL kn L w a = L := by unfold mvL; rw [if_neg (by omega)]
        have hK2 : mvK kn L w a = kn := by unfold mvK; rw [if_neg (by omega)]
        have := hk h' (KeepL.of_ext he1) (by rw [hK2]; exact hb1) (by rw [hL]; exact hl1)
        simpa using this
end Go.Proofs.Ytfeglbniahebaaa

namespace Go.Proofs.Ytfeglbniahebaaa
open Go Go.Den Go.MapKept
set_option linter.unusedSimpArgs false
theorem zcAct : zc P ty_api_Act = some #[.int .i64 0, .int .i64 0, .int .i64 0] := by kernel_rfl
theorem plain_ok (a : Act) {h : Heap} {K : Value → Heap → Prop} (hk : ∀ h', Ext h h' → K (.bool (decide (a.kind = 1) || decide (a.kind = 2))) h') :
    callM P fn_race_plain #[.agg (actC a).toArray] h K := by
  apply c_race_plain
  unfold b_race_plain
  refine nw_agg fun v1 h1 hv1 he1 hc1 => ?_
  simp +contextual -implicitDefEqProofs [cel_of hc1, Value.cells, actC]
  exact hk _ he1
theorem counts_ok (a : Act) {h : Heap} {K : Value → Heap → Prop} (hk : ∀ h', Ext h h' → K (.bool (decide (0 ≤ a.who) && decide (a.who ≤ 9))) h') :
    callM P fn_doormanref22_counts #[.agg (actC a).toArray] h K := by
  apply c_doormanref22_counts
  unfold b_doormanref22_counts
  refine nw_agg fun v1 h1 hv1 he1 hc1 => ?_
  simp +contextual -implicitDefEqProofs [cel_of hc1, Value.cells, actC]
  exact hk _ he1
def cntB (a : Act) : Bool := decide (0 ≤ a.who) && decide (a.who ≤ 9)
def racesB (a b : Act) : Bool := cntB a && cntB b && !decide (a.who = b.who) && decide (a.place = b.place) && (decide (a.kind = 1) || decide (a.kind = 2)) && (decide (b.kind = 1) || decide (b.kind = 2)) && decide (2 < IntKind.i64.wrap (a.kind + b.kind))
theorem races_ok (a b : Act) {h : Heap} {K : Value → Heap → Prop} (hk : ∀ h', Ext h h' → K (.bool (racesB a b)) h') :
    callM P fn_doormanref22_Races #[.agg (actC a).toArray, .agg (actC b).toArray] h K := by
  apply c_doormanref22_Races
  unfold b_doormanref22_Races
  refine nw_agg fun v1 h1 hv1 he1 hc1 => nw_agg fun v2 h2 hv2 he2 hc2 => ?_
  have hc1' := he2 _ _ hc1
  simp only [ld_box (n := 3) hc1' rfl, ov_s]
  refine counts_ok a fun h3 he3 => ?_
  simp +contextual -implicitDefEqProofs only [ld_box (n := 3) (he3 _ _ hc2) rfl, ov_s, isB_b, gM_gdv, beq_true]
  refine gM_call' (a := .bool (cntB b)) (fun hc K' hk' => ?_) fun h4 he4 => ?_
  · simp only [gdv_t]; exact counts_ok b hk'
  have q1 := he4 _ _ (he3 _ _ hc1')
  have q2 := he4 _ _ (he3 _ _ hc2)
  simp +contextual -implicitDefEqProofs [cel_of q1, cel_of q2, Value.cells, actC]
  simpa [racesB, cntB] using hk h4 (he1.trans (he2.trans (he3.trans he4)))
def edgeB (a b : Act) : Bool := cntB a && cntB b && (decide (a.who = b.who) || (decide (a.place = b.place) && (decide (a.kind = 4) || decide (a.kind = 6)) && (decide (b.kind = 3) || decide (b.kind = 4) || decide (b.kind = 5))))
theorem edge_ok (a b : Act) {h : Heap} {K : Value → Heap → Prop} (hk : ∀ h', Ext h h' → K (.bool (edgeB a b)) h') :
    callM P fn_doormanref22_edge #[.agg (actC a).toArray, .agg (actC b).toArray] h K := by
  apply c_doormanref22_edge
  unfold b_doormanref22_edge
  refine nw_agg fun v1 h1 hv1 he1 hc1 => nw_agg fun v2 h2 hv2 he2 hc2 => ?_
  have hc1' := he2 _ _ hc1
  simp only [ld_box (n := 3) hc1' rfl, ov_s]
  refine counts_ok a fun h3 he3 => ?_
  simp +contextual -implicitDefEqProofs only [ld_box (n := 3) (he3 _ _ hc2) rfl, ov_s, isB_b, gM_gdv, beq_true, unV_n, beq_false, Bool.not_not]
  refine gM_call' (a := .bool (cntB b)) (fun hc K' hk' => ?_) fun h4 he4 => ?_
  · simp only [gdv_t]; exact counts_ok b hk'
  have q1 := he4 _ _ (he3 _ _ hc1')
  have q2 := he4 _ _ (he3 _ _ hc2)
  have hk' := hk h4 (he1.trans (he2.trans (he3.trans he4)))
  simp +contextual -implicitDefEqProofs [cel_of q1, cel_of q2, Value.cells, actC]
  refine ⟨fun x => ?_, fun x y z => ⟨fun w => ?_, fun w => ?_⟩⟩
  · have : edgeB a b = false := by
      rcases x with (x | x) | x
      · have : ¬ 0 ≤ a.who := by omega
        simp [edgeB, cntB, this]
      · have : ¬ a.who ≤ 9 := by omega
        simp [edgeB, cntB, this]
      · simp [edgeB, x]
    rw [← this]; exact hk'
  · have e : cntB a = true := by simp [cntB, x, y]
    simpa [edgeB, e, z, w] using hk'
  · have e : cntB a = true := by simp [cntB, x, y]
    simpa [edgeB, e, z, w] using hk'
end Go.Proofs.Ytfeglbniahebaaa

namespace Go.Proofs.Ytfeglbniahebaaa
open Go Go.Den Go.MapKept
set_option linter.unusedSimpArgs false
def act (xs : List Act) (i : Nat) : Act := xs.getD i ⟨0, 0, 0⟩
theorem act_at {h : Heap} {v : Value} {xs : List Act} (x : Sl 3 ActR h v xs) {i : Nat} (hi : i < xs.length) {k : IntKind} : ∃ b o, iaV (some (none, 3)) v (.int k i) = some (.pointer (some ⟨b, o, none⟩)) ∧
    ∀ h', Ext h h' → ldV (some (some 3)) (.pointer (some ⟨b, o, none⟩)) h' = some (.agg (actC (act xs i)).toArray) := by
  obtain ⟨b, o, c, h1, h2, h3⟩ := x.at (k := k) (i := i) (by omega) (by omega)
  refine ⟨b, o, h1, fun h' e => ?_⟩
  have : c = actC (act xs i) := by rw [show c = actC (xs[(i : Int).toNat]'(by omega)) from h3]; simp [act, hi]
  subst this
  exact ldV_n (cels_ext e h2)
def mixH (f g : Nat → Bool) (i k' : Nat) : Nat → Bool := fun k => if k = i then true else if k < k' then f k || g k else f k
def arow (xs : List Act) (out : Nat → Nat → Bool) (j : Nat) : Nat → (Nat → Bool)
  | 0 => fun _ => false
  | i + 1 => if edgeB (act xs i) (act xs j) then mixH (arow xs out j i) (out i) i i else arow xs out j i
def atab (xs : List Act) : Nat → (Nat → Nat → Bool)
  | 0 => fun _ _ => false
  | j + 1 => fun r => if r = j then arow xs (atab xs j) j j else atab xs j r
def bF (f : Nat → Bool) : Nat → List Value := fun k => [.bool (f k)]
abbrev RowB (h : Heap) (v : Value) (n : Nat) (f : Nat → Bool) : Prop := Row 1 ty_bool h v n (seqF n (bF f))
theorem rowB_at {h : Heap} {v : Value} {n : Nat} {f : Nat → Bool} (r : RowB h v n f) {k : IntKind} {i : Nat} (hi : i < n) : ∃ g, rowOf v = some g ∧ iaV (some (none, 1)) v (.int k i) = some (.pointer (some ⟨g, i, none⟩)) ∧ cel h g i = some (.bool (f i)) := by
  obtain ⟨g, h1, h2⟩ := r.ia (k := k) hi
  rw [Nat.mul_one] at h2
  refine ⟨g, h1, h2, ?_⟩
  have h3 := r.cels h1 (o := i * 1) (m := 1) (by omega)
  rw [seqF_at (F := bF f) (fun _ _ => rfl) hi, Nat.mul_one] at h3
  have := (cels_get h3).2 0 (by simp [bF])
  simpa [bF] using this
theorem rowB_st {h : Heap} {v : Value} {n : Nat} {f : Nat → Bool} (r : RowB h v n f) {g i : Nat} (hg : rowOf v = some g) (hi : i < n) {b : Bool} {K : Heap → Prop}
    (hk : ∀ h', (∀ k, k ≠ g → h' k = h k) → RowB h' v n (fun k => if k = i then b else f k) → K h') : stM (some 1) (.pointer (some ⟨g, i, none⟩)) (.bool b) h K := by
  refine r.st hg rfl (by omega) (by simp [Value.cells, Value.oneCell']) fun h' ho hr => hk h' ho ?_
  have e := seqF_spl (sz := 1) (F := bF f) (n := n) (fun _ _ => rfl) (i := i) (off := 0) (l := [.bool b]) hi (by simp)
  rw [Nat.mul_one, Nat.add_zero] at e
  have e2 : ((Value.bool b).cells.toList) = [.bool b] := rfl
  rw [e2, e] at hr
  have : seqF n (fset (bF f) i (spl (bF f i) 0 [.bool b])) = seqF n (bF fun k => if k = i then b else f k) := seqF_congr fun k _ => by
    by_cases hk : k = i <;> simp [fset, bF, hk, spl]
  rwa [this] at hr
theorem rowB_congr {h : Heap} {v : Value} {n : Nat} {f g : Nat → Bool} (r : RowB h v n f) (e : ∀ i, i < n → f i = g i) : RowB h v n g := by
  have : seqF n (bF f) = seqF n (bF g) := seqF_congr fun i hi => by simp [bF, e i hi]
  unfold RowB at *; rwa [this] at r
def TabR (h : Heap) (v : Value) (m n : Nat) (tab : Nat → Nat → Bool) : Prop := ∃ rv : Nat → Value, Row 1 ty_Sl_bool h v m (seqF m fun r => [rv r]) ∧ ∀ r, r < m → RowB h (rv r) n (tab r)
theorem row_ne {sz sz' : Nat} {e e' : TypeId} {h : Heap} {v v' : Value} {n n' : Nat} {xs xs' : List Value} (r : Row sz e h v n xs) (r' : Row sz' e' h v' n' xs') (he : e ≠ e') {g : Nat} (hg : rowOf v = some g) : rowOf v' ≠ some g := by
  intro hg'
  rcases r.2 with ⟨rfl, _⟩ | ⟨g1, cap, cur, rfl, hb, _⟩
  · simp [rowOf] at hg
  rcases r'.2 with ⟨rfl, _⟩ | ⟨g2, cap', cur', rfl, hb', _⟩
  · simp [rowOf] at hg'
  simp only [rowOf, Option.some.injEq] at hg hg'
  subst hg hg'
  rw [hb] at hb'
  cases hb'
  exact he rfl
theorem TabR.ext {h h' : Heap} {v : Value} {m n : Nat} {tab : Nat → Nat → Bool} (t : TabR h v m n tab) (e : Ext h h') : TabR h' v m n tab := let ⟨rv, h1, h2⟩ := t; ⟨rv, h1.ext e, fun r hr => (h2 r hr).ext e⟩
theorem TabR.keep {h h' : Heap} {v : Value} {m n : Nat} {q : Option Nat} {tab : Nat → Nat → Bool} (t : TabR h v m n tab) (k : Keep q h h') (hq : ∀ g, q = some g → (h g = none ∨ ∃ c e f, h g = some (.cells c e f) ∧ e ≠ ty_bool ∧ e ≠ ty_Sl_bool)) : TabR h' v m n tab := by
  obtain ⟨rv, h1, h2⟩ := t
  have hx : ∀ {e : TypeId} {v' : Value} {k' : Nat} {xs : List Value}, (e = ty_bool ∨ e = ty_Sl_bool) → Row 1 e h v' k' xs → Row 1 e h' v' k' xs := fun {e v' k' xs} he r => r.keep k (by
    by_cases hr : rowOf v' = q
    · by_cases hn : rowOf v' = none
      · exact .inr hn
      · obtain ⟨g, hg⟩ := Option.ne_none_iff_exists'.1 hn
        exfalso
        rcases hq g (hr ▸ hg) with h3 | ⟨c, e2, f, h3, h4, h5⟩
        · obtain ⟨o, ho⟩ := r.lt g hg; rw [h3] at ho; cases ho
        · rcases r.2 with ⟨rfl, _⟩ | ⟨g1, cap, cur, rfl, hb, _⟩
          · simp [rowOf] at hg
          · simp only [rowOf, Option.some.injEq] at hg; subst hg; rw [h3] at hb; cases hb; rcases he with he | he <;> contradiction
    · exact .inl hr)
  exact ⟨rv, hx (.inr rfl) h1, fun r hr => hx (.inl rfl) (h2 r hr)⟩
theorem TabR.at {h : Heap} {v : Value} {m n : Nat} {tab : Nat → Nat → Bool} (t : TabR h v m n tab) {k k' : IntKind} {i j : Nat} (hi : i < m) (hj : j < n) : ∃ g u g', iaV (some (none, 1)) v (.int k i) = some (.pointer (some ⟨g, i, none⟩)) ∧ cel h g i = some u ∧ rowOf u = some g' ∧ iaV (some (none, 1)) u (.int k' j) = some (.pointer (some ⟨g', j, none⟩)) ∧ cel h g' j = some (.bool (tab i j)) := by
  obtain ⟨rv, h1, h2⟩ := t
  obtain ⟨g, h3, h4⟩ := h1.ia (k := k) hi
  rw [Nat.mul_one] at h4
  have h5 := h1.cels h3 (o := i * 1) (m := 1) (by omega)
  rw [seqF_at (F := fun r => [rv r]) (fun _ _ => rfl) hi, Nat.mul_one] at h5
  have h6 := (cels_get h5).2 0 (by simp)
  obtain ⟨g', h7, h8, h9⟩ := rowB_at (k := k') (h2 i hi) hj
  exact ⟨g, rv i, g', h4, by simpa using h6, h7, h8, h9⟩
theorem apSl : apC P ty_Sl_bool = some (1, 24, 1) := by kernel_rfl
theorem apB : apC P ty_bool = some (1, 1, 1) := by kernel_rfl
theorem bsSl : bsI P ty_Sl_Sl_bool = some (ty_Sl_bool, 1, #[.slice none 0 0]) := by kernel_rfl
theorem unSlSl : P.underlying ty_Sl_Sl_bool = some (.slice ty_Sl_bool) := by kernel_rfl
theorem unSlB : P.underlying ty_Sl_bool = some (.slice ty_bool) := by kernel_rfl
theorem zcB : zc P ty_bool = some #[.bool false] := by kernel_rfl
end Go.Proofs.Ytfeglbniahebaaa

namespace Go.Proofs.Ytfeglbniahebaaa
open Go Go.Den Go.MapKept
set_option linter.unusedSimpArgs false
set_option maxHeartbeats 2000000 in
theorem ahead_ok (xs : List Act) (hl : xs.length ≤ 1000) {h : Heap} {v : Value} (x : Sl 3 ActR h v xs) {K : Value → Heap → Prop} (hk : ∀ h' v', Ext h h' → TabR h' v' xs.length xs.length (atab xs xs.length) → K v' h') :
    callM P fn_doormanref22_Ahead #[v] h K := by
  apply c_doormanref22_Ahead
  unfold b_doormanref22_Ahead
  rw [seqM_eq]
  refine loop_on [0] (fun s h' => Ext h h' ∧ ∃ j : Nat, j ≤ xs.length ∧ s 4 = .int .i64 j ∧ TabR h' (s 3) j xs.length (atab xs j) ∧ ∀ g, rowOf (s 3) = some g → h g = none) (fun s _ => (xs.length - num (s 4)).toNat)
    ⟨Ext.refl _, 0, by omega, rfl, ⟨fun _ => .bool false, ⟨rfl, .inl ⟨rfl, rfl⟩⟩, fun r hr => by omega⟩, by simp [rowOf]⟩ ?_
  rintro s h1 hf ⟨he, j, hj, hs4, ht, hfr⟩
  have hs0 : s 0 = v := by simpa using hf 0 (by simp)
  simp only [hs0, x.len, ov_s, hs4, bin_lss, cd_b]
  refine ⟨fun hc => ?_, fun hc => ?_⟩
  rotate_left
  · have hc' : ¬ ((j : Int) < xs.length) := by simpa using hc
    have : j = xs.length := by omega
    subst this
    simp only [lpM_e, blkM_e, if_true, thenM_n]
    simpa using hk _ _ he ht
  have hlt : j < xs.length := by have : ((j : Int) < xs.length) := by simpa using hc
                                 omega
  rw [seqM_eq]
  refine makeSlice_vv unSlB apB zcB (by omega) (by omega) (by unfold maxLen; omega) fun g5 h2 hg5 he2 hc2 => ?_
  rw [seqM_eq]
  have hgh : h g5 = none := by
    cases hh : h g5 with
    | none => rfl
    | some o => rw [he _ _ hh] at hg5; cases hg5
  have ht2 := ht.ext he2
  refine loop_on [0, 3, 4, 5] (fun s' h' => Keep (some g5) h2 h' ∧ ∃ i : Nat, i ≤ j ∧ s' 6 = .int .i64 i ∧ RowB h' (.slice (some ⟨g5, 0, none⟩) xs.length xs.length) xs.length (arow xs (atab xs j) j i)) (fun s' _ => (j - num (s' 6)).toNat)
    ⟨fun _ _ e _ => e, 0, by omega, rfl, ?_⟩ ?_
  · refine ⟨by rw [seqF_len (sz := 1) (fun _ _ => rfl)], .inr ⟨g5, _, _, rfl, hc2, Nat.le_refl _, by unfold maxLen; omega, by simp [made_one], ?_⟩⟩
    rw [made_one]
    apply List.ext_getElem?
    intro i
    by_cases hi : i < xs.length
    · have := seqF_get (F := bF (arow xs (atab xs j) j 0)) (n := xs.length) (sz := 1) (fun _ _ => rfl) (i := i) (j := 0) hi (by omega)
      simp only [Nat.mul_one, Nat.add_zero] at this
      rw [this]; simp [hi, bF, arow]
    · rw [List.getElem?_eq_none (by simp; omega), List.getElem?_eq_none (by rw [seqF_len (sz := 1) (fun _ _ => rfl)]; omega)]
  rintro s3 h3 hf3 ⟨hk3, i, hi, hs6, hr⟩
  have e0 : s3 0 = v := by simpa [hs0] using hf3 0 (by simp)
  have e3 : s3 3 = s 3 := by simpa using hf3 3 (by simp)
  have e4 : s3 4 = .int .i64 j := by simpa [hs4] using hf3 4 (by simp)
  have e5 : s3 5 = .slice (some ⟨g5, 0, none⟩) xs.length xs.length := by simpa using hf3 5 (by simp)
  have hext3 : Ext h h3 := (he.trans he2).keep hk3 (by rintro b ⟨rfl⟩; exact hgh)
  simp only [e0, e4, hs6, bin_lss, ov_s, cd_b]
  refine ⟨fun hc3 => ?_, fun hc3 => ?_⟩
  rotate_left
  · have hc' : ¬ ((i : Int) < j) := by simpa using hc3
    have : i = j := by omega
    subst this
    simp only [lpM_e, blkM_e, if_true, thenM_n]
    have ht3 : TabR h3 (s3 3) i xs.length (atab xs i) := by
      rw [e3]
      obtain ⟨rv, q1, q2⟩ := ht2
      have hkp : ∀ {e : TypeId} {v' : Value} {k' : Nat} {ys : List Value}, Row 1 e h1 v' k' ys → Row 1 e h3 v' k' ys := fun {e v' k' ys} r => (r.ext he2).keep hk3 (.inl fun e => by obtain ⟨o, ho⟩ := r.lt g5 e; rw [ho] at hg5; cases hg5)
      obtain ⟨rv, q1, q2⟩ := ht
      exact ⟨rv, hkp q1, fun r hr => hkp (q2 r hr)⟩
    obtain ⟨rv, q1, q2⟩ := ht3
    simp [e5]
    refine app_one bsSl unSlSl apSl (by omega) rfl (by simp [Value.cells, Value.oneCell']) q1 (by unfold maxLen; omega) (by omega) (by omega) fun a v' h4 hr4 hk4 ha => ?_
    have hne : rowOf (s3 3) ≠ some g5 := fun e => row_ne q1 hr (by decide) e rfl
    have hfr3 : ∀ g, rowOf (s3 3) = some g → h g = none := by rw [e3]; exact hfr
    have hkp4 : ∀ {ys : List Value} {v' : Value} {k' : Nat}, Row 1 ty_bool h3 v' k' ys → Row 1 ty_bool h4 v' k' ys := fun {ys v' k'} r => r.keep hk4 (by
      by_cases hn : rowOf v' = none
      · exact .inr hn
      · obtain ⟨g, hg⟩ := Option.ne_none_iff_exists'.1 hn
        exact .inl fun e => row_ne r q1 (by decide) hg (by rw [← e]; exact hg))
    have hw : IntKind.i64.wrap ((i : Int) + 1) = i + 1 := wrap64_id (by omega) (by omega)
    have hext4 : Ext h h4 := hext3.keep hk4 hfr3

    simp [e4, hs0, e0, hw]
    refine ⟨⟨hext4, i + 1, by omega, by simp, ⟨fun r => if r = i then .slice (some ⟨g5, 0, none⟩) xs.length xs.length else rv r, ?_, fun r hr' => ?_⟩, ?_⟩, ?_⟩
    · have : (seqF i fun r => [rv r]) ++ [Value.slice (some ⟨g5, 0, none⟩) xs.length xs.length] = seqF (i + 1) fun r => [if r = i then .slice (some ⟨g5, 0, none⟩) xs.length xs.length else rv r] := by
        rw [seqF_succ]
        congr 1
        · exact seqF_congr fun r hr => by simp [Nat.ne_of_lt hr]
        · simp
      rw [← this]; simpa [Value.cells] using hr4
    · by_cases hri : r = i
      · subst hri; simpa [atab] using hkp4 hr
      · simpa [atab, hri] using hkp4 (q2 r (by omega))
    · intro g hg
      rcases ha with ha | ⟨b, hb, hn⟩
      · exact hfr3 g (ha ▸ hg)
      · rw [hb] at hg; cases hg
        cases hh : h g with
        | none => rfl
        | some o => rw [hext3 _ _ hh] at hn; cases hn
    · simp [hs4]; omega
  have hlt3 : i < j := by have : ((i : Int) < j) := by simpa using hc3
                          omega
  have hw : IntKind.i64.wrap ((i : Int) + 1) = i + 1 := wrap64_id (by omega) (by omega)
  refine seq_cut (fun m' s' h' => m' = [] ∧ (∀ k ∈ [0, 3, 4, 5, 6], s' k = s3 k) ∧ Keep (some g5) h2 h' ∧ RowB h' (.slice (some ⟨g5, 0, none⟩) xs.length xs.length) xs.length (arow xs (atab xs j) j (i + 1))) (fun J hJ _ _ => ?_) ?_
  rotate_left
  · rintro m' s' h' ⟨rfl, hf', hk', hr'⟩
    have f0 := hf' 0 (by simp)
    have f3 := hf' 3 (by simp)
    have f4 := hf' 4 (by simp)
    have f5 := hf' 5 (by simp)
    have f6 := hf' 6 (by simp)
    simp [f6, hs6, hw, e0, e3, e4, e5, hs0, hs4, f0, f3, f4, f5]
    exact ⟨⟨hk', i + 1, by omega, by simp, hr'⟩, by omega⟩
  obtain ⟨b1, o1, i1, l1⟩ := act_at (k := .i64) x (i := i) (by omega)
  obtain ⟨b2, o2, i2, l2⟩ := act_at (k := .i64) x (i := j) (by omega)
  simp only [hs6, i1, i2, l1 _ hext3, l2 _ hext3, ov_s]
  refine edge_ok _ _ fun h4 he4 => ?_
  have hk4 : Keep (some g5) h2 h4 := hk3.trans (Keep.of_ext he4)
  have hr4 := hr.ext he4
  simp only [unV_n, ov_s, cd_b]
  refine ⟨fun hb => ?_, fun hb => ?_⟩
  · have hb' : edgeB (act xs i) (act xs j) = false := by simpa using hb
    exact hJ _ _ _ ⟨rfl, by simp, hk4, by simpa [arow, hb'] using hr4⟩
  have hb' : edgeB (act xs i) (act xs j) = true := by simpa using hb
  obtain ⟨g, hg1, hg2, _⟩ := rowB_at (k := .i64) hr4 (i := i) (by omega)
  simp only [rowOf, Option.some.injEq] at hg1
  subst hg1
  simp only [e5, hg2, ov_s]
  refine rowB_st hr4 rfl (by omega) fun h5 ho5 hr5 => ?_
  have hk5 : Keep (some g5) h2 h5 := hk4.trans fun b o e n => by rw [ho5 b (fun e => n (by rw [e]))]; exact e
  refine loop_on [0, 3, 4, 5, 6] (fun s' h' => Keep (some g5) h2 h' ∧ ∃ k : Nat, k ≤ i ∧ s' 7 = .int .i64 k ∧ RowB h' (.slice (some ⟨g5, 0, none⟩) xs.length xs.length) xs.length (mixH (arow xs (atab xs j) j i) (atab xs j i) i k)) (fun s' _ => (i - num (s' 7)).toNat)
    ⟨hk5, 0, by omega, rfl, rowB_congr hr5 fun k _ => by by_cases hk : k = i <;> simp [mixH, hk]⟩ ?_
  rintro s6 h6 hf6 ⟨hk6, k, hk, hs7, hr6⟩
  have f0 : s6 0 = v := by simpa [e0] using hf6 0 (by simp)
  have f3 : s6 3 = s 3 := by simpa [e3] using hf6 3 (by simp)
  have f4 : s6 4 = .int .i64 j := by simpa [e4] using hf6 4 (by simp)
  have f5 : s6 5 = .slice (some ⟨g5, 0, none⟩) xs.length xs.length := by simpa [e5] using hf6 5 (by simp)
  have f6 : s6 6 = .int .i64 i := by simpa [hs6] using hf6 6 (by simp)
  simp only [f6, hs7, bin_lss, ov_s, cd_b]
  refine ⟨fun hc7 => ?_, fun hc7 => ?_⟩
  rotate_left
  · have hc' : ¬ ((k : Int) < i) := by simpa using hc7
    have : k = i := by omega
    subst this
    simp
    exact hJ _ _ _ ⟨rfl, by simp [f0, f3, f4, f5, f6, e0, e3, e4, e5, hs6], hk6, by simpa [arow, hb'] using hr6⟩
  have hlt7 : k < i := by have : ((k : Int) < i) := by simpa using hc7
                          omega
  have hw7 : IntKind.i64.wrap ((k : Int) + 1) = k + 1 := wrap64_id (by omega) (by omega)
  obtain ⟨g, hg1, hg2, hg3⟩ := rowB_at (k := .i64) hr6 (i := k) (by omega)
  simp only [rowOf, Option.some.injEq] at hg1
  subst hg1
  have ht6 : TabR h6 (s 3) j xs.length (atab xs j) := by
    have hkp : ∀ {e : TypeId} {v' : Value} {k' : Nat} {ys : List Value}, Row 1 e h1 v' k' ys → Row 1 e h6 v' k' ys := fun {e v' k' ys} r => (r.ext he2).keep hk6 (.inl fun e => by obtain ⟨o, ho⟩ := r.lt g5 e; rw [ho] at hg5; cases hg5)
    obtain ⟨rv, q1, q2⟩ := ht
    exact ⟨rv, hkp q1, fun r hr => hkp (q2 r hr)⟩
  obtain ⟨ga, u, gb, t1, t2, t3, t4, t5⟩ := ht6.at (k := .i64) (k' := .i64) (i := i) (j := k) (by omega) (by omega)
  simp +contextual -implicitDefEqProofs [f5, hg2, hg3, f3, f6, t1, t2, t4, t5]
  refine rowB_st hr6 rfl (by omega) fun h7 ho7 hr7 => ?_
  simp [f0, f3, f4, f5, f6, hs7, hw7, e0, e3, e4, e5, hs6]
  refine ⟨⟨hk6.trans fun b o e n => by rw [ho7 b (fun e => n (by rw [e]))]; exact e, k + 1, by omega, by simp, rowB_congr hr7 fun r _ => ?_⟩, by omega⟩
  by_cases h1 : r = i
  · simp [mixH, h1]
    omega
  · by_cases h2 : r = k
    · subst h2; simp [mixH, h1]
    · by_cases h3 : r < k
      · simp [mixH, h1, h2, h3, show r < k + 1 by omega]
      · simp [mixH, h1, h2, h3, show ¬ r < k + 1 by omega]
end Go.Proofs.Ytfeglbniahebaaa

namespace Go.Proofs.Ytfeglbniahebaaa
open Go Go.Den Go.MapKept
set_option linter.unusedSimpArgs false
def IsFirst (R : Nat → Nat → Bool) (n : Nat) : Option (Nat × Nat) → Prop
  | some (i, j) => i < j ∧ j < n ∧ R i j = true ∧ (∀ i', i' < i → R i' j = false) ∧ ∀ j', j' < j → ∀ i', i' < j' → R i' j' = false
  | none => ∀ j, j < n → ∀ i, i < j → R i j = false
def refR (xs : List Act) (i j : Nat) : Bool := racesB (act xs i) (act xs j) && !atab xs xs.length j i
def pairV : Option (Nat × Nat) → Value
  | some (i, j) => .tuple #[.int .i64 i, .int .i64 j]
  | none => .tuple #[.int .i64 (-1), .int .i64 (-1)]
set_option maxHeartbeats 1000000 in
theorem refFind_ok (xs : List Act) (hl : xs.length ≤ 1000) {h : Heap} {v : Value} (x : Sl 3 ActR h v xs) {K : Value → Heap → Prop} (hk : ∀ h' o, Ext h h' → IsFirst (refR xs) xs.length o → K (pairV o) h') :
    callM P fn_doormanref22_Find #[v] h K := by
  apply c_doormanref22_Find
  unfold b_doormanref22_Find
  refine ahead_ok xs hl x fun h1 v1 he1 ht => ?_
  rw [seqM_eq]
  refine loop_on [0, 4] (fun s h' => Ext h1 h' ∧ ∃ j : Nat, j ≤ xs.length ∧ s 5 = .int .i64 j ∧ ∀ j', j' < j → ∀ i', i' < j' → refR xs i' j' = false) (fun s _ => (xs.length - num (s 5)).toNat)
    ⟨Ext.refl _, 0, by omega, rfl, fun j' hj' => by omega⟩ ?_
  rintro s h2 hf ⟨he, j, hj, hs5, hno⟩
  have hs0 : s 0 = v := by simpa using hf 0 (by simp)
  have hs4 : s 4 = v1 := by simpa using hf 4 (by simp)
  simp only [hs0, x.len, ov_s, hs5, bin_lss, cd_b]
  refine ⟨fun hc => ?_, fun hc => ?_⟩
  rotate_left
  · have hc' : ¬ ((j : Int) < xs.length) := by simpa using hc
    have : j = xs.length := by omega
    subst this
    simp
    exact hk _ none (he1.trans he) hno
  have hlt : j < xs.length := by have : ((j : Int) < xs.length) := by simpa using hc
                                 omega
  rw [seqM_eq]
  refine loop_on [0, 4, 5] (fun s' h' => Ext h2 h' ∧ ∃ i : Nat, i ≤ j ∧ s' 6 = .int .i64 i ∧ ∀ i', i' < i → refR xs i' j = false) (fun s' _ => (j - num (s' 6)).toNat)
    ⟨Ext.refl _, 0, by omega, rfl, fun i' hi' => by omega⟩ ?_
  rintro s3 h3 hf3 ⟨he3, i, hi, hs6, hno3⟩
  have e0 : s3 0 = v := by simpa [hs0] using hf3 0 (by simp)
  have e4 : s3 4 = v1 := by simpa [hs4] using hf3 4 (by simp)
  have e5 : s3 5 = .int .i64 j := by simpa [hs5] using hf3 5 (by simp)
  have hext3 : Ext h h3 := he1.trans (he.trans he3)
  simp only [e0, e4, e5, hs6, bin_lss, ov_s, cd_b]
  have hwj : IntKind.i64.wrap ((j : Int) + 1) = j + 1 := wrap64_id (by omega) (by omega)
  have hwi : IntKind.i64.wrap ((i : Int) + 1) = i + 1 := wrap64_id (by omega) (by omega)
  refine ⟨fun hc3 => ?_, fun hc3 => ?_⟩
  rotate_left
  · have hc' : ¬ ((i : Int) < j) := by simpa using hc3
    have : i = j := by omega
    subst this
    simp [e5, e0, e4, hs0, hs4, hs5, hwj]
    refine ⟨⟨he.trans he3, i + 1, by omega, by simp, fun j' hj' => ?_⟩, by omega⟩
    by_cases hji : j' = i
    · subst hji; exact hno3
    · exact hno j' (by omega)
  have hlt3 : i < j := by have : ((i : Int) < j) := by simpa using hc3
                          omega
  obtain ⟨b1, o1, i1, l1⟩ := act_at (k := .i64) x (i := i) (by omega)
  obtain ⟨b2, o2, i2, l2⟩ := act_at (k := .i64) x (i := j) (by omega)
  simp only [i1, i2, l1 _ hext3, l2 _ hext3, ov_s]
  refine races_ok _ _ fun h4 he4 => ?_
  have ht4 := ht.ext (he.trans (he3.trans he4))
  obtain ⟨ga, u, gb, t1, t2, t3, t4, t5⟩ := ht4.at (k := .i64) (k' := .i64) (i := j) (j := i) (by omega) (by omega)
  simp +contextual -implicitDefEqProofs [t1, t2, t4, t5]
  refine ⟨fun ha hb => ?_, fun hc4 => ?_⟩
  · have := hk h4 (some (i, j)) (hext3.trans he4) ⟨hlt3, hlt, by simp [refR, ha, hb], hno3, hno⟩
    simpa [pairV] using this
  · simp [hwi, e0, e4, e5, hs6, hs0, hs4, hs5]
    refine ⟨⟨he3.trans he4, i + 1, by omega, by simp, fun i' hi' => ?_⟩, by omega⟩
    by_cases hii : i' = i
    · subst hii
      cases hr : racesB (act xs i') (act xs j)
      · simp [refR, hr]
      · simp [refR, hr, hc4 hr]
    · exact hno3 i' (by omega)
end Go.Proofs.Ytfeglbniahebaaa

namespace Go.Proofs.Ytfeglbniahebaaa
open Go Go.Den Go.MapKept
set_option linter.unusedSimpArgs false
def intsC (l : List Nat) : List Value := l.map fun (k : Nat) => .int .i64 (k : Int)
theorem intsC_len (l : List Nat) : (intsC l).length = l.length := by simp [intsC]
abbrev RowN (h : Heap) (v : Value) (l : List Nat) : Prop := Row 1 ty_int h v l.length (intsC l)
/-- The acts that aren't atomic, by their places: h0 is the memory ahead, g0 a block apart. -/
def PlR (h0 : Heap) (g0 : Option Nat) (h : Heap) (r : Nat) (pl : Int → List Nat) : Prop :=
  ∃ f : Value → Option Value, MapR (.int .i64) h r f ∧
    (∀ n : Int, (f (.int .i64 n) = none ∧ pl n = []) ∨ ∃ v, f (.int .i64 n) = some v ∧ RowN h v (pl n)) ∧
    (∀ (n : Int) v, f (.int .i64 n) = some v → ∀ g, rowOf v = some g → h0 g = none ∧ g0 ≠ some g) ∧
    (∀ (n m : Int) v u, n ≠ m → f (.int .i64 n) = some v → f (.int .i64 m) = some u → ∀ g, rowOf v = some g → rowOf u ≠ some g)
theorem mpPl : mpC P ty_Map_int_Sl_int = some (ty_int, .int .i64, .slice none 0 0) := by kernel_rfl
theorem PlR.get {h0 h : Heap} {g0 : Option Nat} {r : Nat} {pl : Int → List Nat} (p : PlR h0 g0 h r pl) (n : Int) : ∃ v, RowN h v (pl n) ∧ (∀ h' (K : Value → Prop), Ext h h' → K v → lkM P (Instr.lookup ty_Map_int_Sl_int (.map (some r)) (.int .i64 n) false) h' K) ∧
    (∀ h', (∀ o, h r = some o → h' r = some o) → rdP P (Instr.lookup ty_Map_int_Sl_int (.map (some r)) (.int .i64 n) false) h' v) := by
  obtain ⟨f, hm, hf, _⟩ := p
  rcases hf n with ⟨h1, h2⟩ | ⟨v, h1, h2⟩
  · refine ⟨.slice none 0 0, by rw [h2]; exact ⟨rfl, .inl ⟨rfl, rfl⟩⟩, fun h' K e hk => ?_, fun h' e => ?_⟩
    · exact lookup_lk mpPl rfl (hm.ext e) (by rw [h1]; exact hk)
    · have := lookup_run (P := P) (ok := false) mpPl (k := .int .i64 n) rfl (hm.of (h' := h') (by obtain ⟨o, ho⟩ := hm.lt; rw [ho, e o ho]))
      rw [h1] at this; exact this
  · refine ⟨v, h2, fun h' K e hk => ?_, fun h' e => ?_⟩
    · exact lookup_lk mpPl rfl (hm.ext e) (by rw [h1]; exact hk)
    · have := lookup_run (P := P) (ok := false) mpPl (k := .int .i64 n) rfl (hm.of (h' := h') (by obtain ⟨o, ho⟩ := hm.lt; rw [ho, e o ho]))
      rw [h1] at this; exact this
/-- An act that stands ahead and races with one. -/
def confB (kn : Nat → Clk) (own : Nat → Int) (xs : List Act) (i k : Nat) : Bool :=
  !decide ((act xs k).who = (act xs i).who) && (decide ((act xs i).kind = 2) || decide ((act xs k).kind = 2)) && decide (kn (act xs i).who.toNat (act xs k).who.toNat < own k)
theorem rowN_at {h : Heap} {v : Value} {l : List Nat} (r : RowN h v l) {k : IntKind} {i : Nat} (hi : i < l.length) : ∃ g, rowOf v = some g ∧ iaV (some (none, 1)) v (.int k i) = some (.pointer (some ⟨g, i, none⟩)) ∧ cel h g i = some (.int .i64 l[i]) := by
  obtain ⟨g, h1, h2⟩ := r.ia (k := k) hi
  rw [Nat.mul_one] at h2
  refine ⟨g, h1, h2, ?_⟩
  have h3 := r.cels h1 (o := i) (m := 1) (by omega)
  have := (cels_get h3).2 0 (by simp [intsC_len]; omega)
  simpa [intsC] using this
theorem ia_arr2 {b o : Nat} {k : IntKind} {a : Int} (hw : 0 ≤ a ∧ a ≤ 9) {sz : Nat} : iaV (some (some 10, sz)) (.pointer (some ⟨b, o, none⟩)) (.int k a) = some (.pointer (some ⟨b, o + a.toNat * sz, none⟩)) := by
  have : (0 : Int) ≤ a ∧ a < 10 := by omega
  simp [iaV, this]
set_option maxHeartbeats 1000000 in
theorem against_ok (xs : List Act) (hl : xs.length ≤ 1000) {h h0 : Heap} {g0 : Option Nat} {b r r2 i : Nat} {kn : Nat → Clk} {ow ac : Value} {own : Nat → Int} {pl : Int → List Nat} (x : Sl 3 ActR h ac xs)
    (hb : h b = some (.cells (finC kn [.map (some r), ow, ac, .map (some r2)]).toArray ty_race_finder (0, 0))) (ho : Row 1 ty_int h ow xs.length (seqF xs.length fun k => [.int .i64 (own k)])) (hp : PlR h0 g0 h r2 pl)
    (hi : i < xs.length) (hcnt : cntB (act xs i) = true) (hpl : ∀ n k, k ∈ pl n → k < xs.length ∧ cntB (act xs k) = true)
    {K : Value → Heap → Prop} (hk : ∀ h', Ext h h' → K (match (pl (act xs i).place).find? (confB kn own xs i) with | some k => .tuple #[.int .i64 k, .bool true] | none => .tuple #[.int .i64 0, .bool false]) h') :
    callM P fn_race_finder_against #[.pointer (some ⟨b, 0, none⟩), .int .i64 i] h K := by
  apply c_race_finder_against
  unfold b_race_finder_against
  have hw0 : 0 ≤ (act xs i).who ∧ (act xs i).who ≤ 9 := by simpa [cntB] using hcnt
  obtain ⟨b1, o1, i1, l1⟩ := act_at (k := .i64) x hi
  have t2 : ∀ h', Ext h h' → cel h' b 102 = some ac := fun h' e => by simpa using cel_tl (e _ _ hb) 2
  have t1 : ∀ h', Ext h h' → cel h' b 101 = some ow := fun h' e => by simpa using cel_tl (e _ _ hb) 1
  have t3 : ∀ h', Ext h h' → cel h' b 103 = some (.map (some r2)) := fun h' e => by simpa using cel_tl (e _ _ hb) 3
  simp only [ncV_p, ov_s, faV_p, ldV_c, Nat.zero_add, t2 _ (Ext.refl _), i1, l1 _ (Ext.refl _), zcAct]
  refine nw_st rfl rfl (by simp [Value.cells, actC, Value.oneCell']) fun bx h1 hbx he1 hc1 => ?_
  rw [seqM_eq]
  obtain ⟨v, hv, hlk, _⟩ := hp.get (act xs i).place
  have hvl : lnV 7 v = some (.int .i64 (pl (act xs i).place).length) := by
    rcases hv.2 with ⟨rfl, h0⟩ | ⟨g, cap, cur, rfl, _⟩
    · rw [h0]; rfl
    · rfl
  simp only [ncV_p, ov_s, faV_p, ldV_c, Nat.zero_add, t3 _ he1, cel_of hc1]
  simp only [cells_agg, actC, List.getElem?_toArray, List.getElem?_cons_succ, List.getElem?_cons_zero, ov_s]
  refine hlk _ _ he1 ?_
  simp only [hvl, ov_s]
  generalize hL : pl (act xs i).place = L at *
  refine loop_on [0, 1, 6, 23, 24] (fun s h' => Ext h1 h' ∧ ∃ j : Nat, j ≤ L.length ∧ s 25 = .int .i64 j ∧ ∀ j' (hj' : j' < L.length), j' < j → confB kn own xs i L[j'] = false) (fun s _ => (L.length - num (s 25)).toNat)
    ⟨Ext.refl _, 0, by omega, rfl, fun j' _ hj' => by omega⟩ ?_
  rintro s h2 hf ⟨he2, j, hj, hs25, hno⟩
  have s0 : s 0 = .pointer (some ⟨b, 0, none⟩) := by simpa using hf 0 (by simp)
  have s1 : s 1 = .int .i64 i := by simpa using hf 1 (by simp)
  have s6 : s 6 = .pointer (some ⟨bx, 0, none⟩) := by simpa using hf 6 (by simp)
  have s23 : s 23 = v := by simpa using hf 23 (by simp)
  have s24 : s 24 = .int .i64 L.length := by simpa using hf 24 (by simp)
  have hx2 : Ext h h2 := he1.trans he2
  simp only [hs25, s24, bin_lss, ov_s, cd_b]
  refine ⟨fun hc => ?_, fun hc => ?_⟩
  rotate_left
  · have hc' : ¬ ((j : Int) < L.length) := by simpa using hc
    have : j = L.length := by omega
    subst this
    have hnone : L.find? (confB kn own xs i) = none := by
      rw [List.find?_eq_none]
      intro k hk
      obtain ⟨j', hj', rfl⟩ := List.getElem_of_mem hk
      simp [hno j' hj' hj']
    have := hk h2 hx2
    rw [hnone] at this
    simpa using this
  have hlt : j < L.length := by have : ((j : Int) < L.length) := by simpa using hc
                                omega
  have hmem : L[j] ∈ pl (act xs i).place := by rw [hL]; exact List.getElem_mem _
  obtain ⟨hkl, hkc⟩ := hpl _ _ hmem
  have hw1 : 0 ≤ (act xs L[j]).who ∧ (act xs L[j]).who ≤ 9 := by simpa [cntB] using hkc
  have hw : IntKind.i64.wrap ((j : Int) + 1) = j + 1 := wrap64_id (by omega) (by have := hv.1; have : L.length ≤ maxLen := by
                                                                                  rcases hv.2 with ⟨_, h0⟩ | ⟨g, cap, cur, _, _, q1, q2, _⟩
                                                                                  · omega
                                                                                  · omega
                                                                                 unfold maxLen at this; omega)
  obtain ⟨g, g1, g2, g3⟩ := rowN_at (k := .i64) (hv.ext hx2) hlt
  obtain ⟨b2, o2, i2, l2⟩ := act_at (k := .i64) x hkl
  simp only [s0, s23, g2, g3, ov_s, ldV_c, ncV_p, faV_p, Nat.zero_add, t2 _ hx2, i2, l2 _ hx2, zcAct]
  refine nw_st rfl rfl (by simp [Value.cells, actC, Value.oneCell']) fun by' h3 hby he3 hc3 => ?_
  have hx3 := hx2.trans he3
  have hc1' : h3 bx = some (.cells (actC (act xs i)).toArray ty_api_Act (0, 0)) := he3 _ _ (he2 _ _ hc1)
  obtain ⟨go, q1, q2⟩ := (ho.ext hx3).ia (k := .i64) hkl
  rw [Nat.mul_one] at q2
  have q3 := (cels_get ((ho.ext hx3).cels q1 (o := L[j] * 1) (m := 1) (by omega))).2 0 (by simp [seqF_len (sz := 1)]; omega)
  have hq := seqF_at (F := fun k => [Value.int .i64 (own k)]) (sz := 1) (n := xs.length) (fun _ _ => rfl) hkl
  simp only [Nat.mul_one] at hq q3
  have q4 : cel h3 go L[j] = some (.int .i64 (own L[j])) := by rw [show go = go from rfl]; simpa [hq] using q3
  have hcf := cel_fin (hx3 _ _ hb) (w := (act xs i).who.toNat) (v := (act xs L[j]).who.toNat) (by omega) (by omega)
  simp +contextual -implicitDefEqProofs [cel_of hc3, cel_of hc1', actC, s6, ia_arr2 hw0, ia_arr2 hw1, t1 _ hx3, q2, q4, hcf]
  refine ⟨fun a1 a2 a3 => ?_, fun hn => ?_⟩
  · have hcf : confB kn own xs i L[j] = true := by simp [confB, a1, a2, a3]
    have hfind : L.find? (confB kn own xs i) = some L[j] := by
      rw [List.find?_eq_some_iff_getElem]
      exact ⟨hcf, j, hlt, rfl, fun j' hj' => by simp [hno j' (by omega) hj']⟩
    have := hk h3 hx3
    rw [hfind] at this
    exact this
  · have hcf : confB kn own xs i L[j] = false := by
      by_cases a1 : (act xs L[j]).who = (act xs i).who
      · simp [confB, a1]
      · by_cases a2 : (act xs i).kind = 2 ∨ (act xs L[j]).kind = 2
        · have := hn a1 a2; simp [confB]; intro _ _; omega
        · have : ¬ (act xs i).kind = 2 ∧ ¬ (act xs L[j]).kind = 2 := by omega
          simp [confB, this]
    rw [hw]
    refine ⟨⟨⟨s0, s1, s23, s24⟩, he2.trans he3, j + 1, by omega, by simp, fun j' hj' hjj => ?_⟩, ?_⟩
    · by_cases e : j' = j
      · subst e; exact hcf
      · exact hno j' hj' (by omega)
    · rw [hs25]; simp; omega
end Go.Proofs.Ytfeglbniahebaaa

namespace Go.Proofs.Ytfeglbniahebaaa
open Go Go.Den Go.MapKept
set_option linter.unusedSimpArgs false
structure VC where
  kn : Nat → Clk
  left : Left
def bump (kn : Nat → Clk) (w : Nat) : Nat → Clk := kset kn w (cset1 (kn w) w (IntKind.i64.wrap (kn w w + 1)))
def vstep (xs : List Act) (s : VC) (i : Nat) : VC :=
  if cntB (act xs i) then ⟨mvK (bump s.kn (act xs i).who.toNat) s.left (act xs i).who.toNat (act xs i), mvL (bump s.kn (act xs i).who.toNat) s.left (act xs i).who.toNat (act xs i)⟩ else s
def vst (xs : List Act) : Nat → VC
  | 0 => ⟨fun _ _ => 0, fun _ => none⟩
  | i + 1 => vstep xs (vst xs i) i
def ownAt (xs : List Act) (i : Nat) : Int := if cntB (act xs i) then IntKind.i64.wrap ((vst xs i).kn (act xs i).who.toNat (act xs i).who.toNat + 1) else 0
def plainB (a : Act) : Bool := decide (a.kind = 1) || decide (a.kind = 2)
def plAt (xs : List Act) : Nat → Int → List Nat
  | 0 => fun _ => []
  | i + 1 => fun n => if cntB (act xs i) && plainB (act xs i) && decide ((act xs i).place = n) then plAt xs i n ++ [i] else plAt xs i n
def findR (xs : List Act) (k i : Nat) : Bool := cntB (act xs i) && plainB (act xs i) && cntB (act xs k) && plainB (act xs k) && decide ((act xs k).place = (act xs i).place) && confB (vst xs (i + 1)).kn (ownAt xs) xs i k
theorem plAt_mem {xs : List Act} : ∀ {i : Nat} {n : Int} {k : Nat}, k ∈ plAt xs i n ↔ k < i ∧ cntB (act xs k) = true ∧ plainB (act xs k) = true ∧ (act xs k).place = n
  | 0, n, k => by simp [plAt]
  | i + 1, n, k => by
    unfold plAt
    split
    · rename_i h
      simp only [Bool.and_eq_true, decide_eq_true_eq] at h
      rw [List.mem_append, List.mem_singleton, plAt_mem]
      constructor
      · rintro (h1 | rfl)
        · exact ⟨by omega, h1.2⟩
        · exact ⟨by omega, h.1.1, h.1.2, h.2⟩
      · intro h1
        by_cases e : k = i
        · exact .inr e
        · exact .inl ⟨by omega, h1.2⟩
    · rename_i h
      simp only [Bool.and_eq_true, decide_eq_true_eq] at h
      rw [plAt_mem]
      constructor
      · intro h1; exact ⟨by omega, h1.2⟩
      · intro h1
        refine ⟨?_, h1.2⟩
        by_cases e : k = i
        · subst e; exact absurd ⟨⟨h1.2.1, h1.2.2.1⟩, h1.2.2.2⟩ h
        · omega
theorem plAt_sorted {xs : List Act} : ∀ {i : Nat} {n : Int}, (plAt xs i n).Pairwise (· < ·)
  | 0, n => by simp [plAt]
  | i + 1, n => by
    unfold plAt
    split
    · rw [List.pairwise_append]
      exact ⟨plAt_sorted, by simp, fun a ha b hb => by rw [List.mem_singleton] at hb; subst hb; exact (plAt_mem.1 ha).1⟩
    · exact plAt_sorted
structure FI (xs : List Act) (h0 : Heap) (ac ow : Value) (bp b r1 r2 i : Nat) (h : Heap) : Prop where
  ext : Ext h0 h
  hb : h b = some (.cells (finC (vst xs i).kn [.map (some r1), ow, ac, .map (some r2)]).toArray ty_race_finder (0, 0))
  hl : LeftR h r1 (vst xs i).left
  ho : Row 1 ty_int h ow xs.length (seqF xs.length fun k => [.int .i64 (if k < i then ownAt xs k else 0)])
  hp : PlR h0 (rowOf ow) h r2 (plAt xs i)
  hbp : h bp = some (.cells #[.int .i64 0, .int .i64 0] ty_race_Pair (0, 0))
theorem PlR.ext {h0 h h' : Heap} {g0 : Option Nat} {r : Nat} {pl : Int → List Nat} (p : PlR h0 g0 h r pl) (e : Ext h h') : PlR h0 g0 h' r pl := by
  obtain ⟨f, h1, h2, h3, h4⟩ := p
  exact ⟨f, h1.ext e, fun n => (h2 n).imp_right fun ⟨v, a, b⟩ => ⟨v, a, b.ext e⟩, h3, h4⟩
theorem FI.mono {xs : List Act} {h0 : Heap} {ac ow : Value} {bp b r1 r2 i : Nat} {h h' : Heap} (f : FI xs h0 ac ow bp b r1 r2 i h) (e : Ext h h') : FI xs h0 ac ow bp b r1 r2 i h' :=
  ⟨f.ext.trans e, e _ _ f.hb, f.hl.ext e, f.ho.ext e, f.hp.ext e, e _ _ f.hbp⟩
theorem FI.skip {xs : List Act} {h0 : Heap} {ac ow : Value} {bp b r1 r2 i : Nat} {h : Heap} (f : FI xs h0 ac ow bp b r1 r2 i h) (hc : cntB (act xs i) = false) : FI xs h0 ac ow bp b r1 r2 (i + 1) h := by
  have e1 : vst xs (i + 1) = vst xs i := by simp [vst, vstep, hc]
  have e2 : plAt xs (i + 1) = plAt xs i := by funext n; simp [plAt, hc]
  refine ⟨f.ext, by rw [e1]; exact f.hb, by rw [e1]; exact f.hl, row1_congr f.ho fun k _ => ?_, by rw [e2]; exact f.hp, f.hbp⟩
  by_cases h1 : k < i
  · simp [h1, show k < i + 1 by omega]
  · by_cases h2 : k = i
    · subst h2; simp [ownAt, hc]
    · simp [h1, show ¬ k < i + 1 by omega]
theorem zcPair : zc P ty_race_Pair = some #[.int .i64 0, .int .i64 0] := by kernel_rfl
theorem apI : apC P ty_int = some (1, 8, 1) := by kernel_rfl
theorem unI : P.underlying ty_Sl_int = some (.slice ty_int) := by kernel_rfl
theorem zcI : zc P ty_int = some #[.int .i64 0] := by kernel_rfl
theorem bsSlI : bsI P ty_Sl_int = some (ty_int, 1, #[.int .i64 0]) := by kernel_rfl
theorem bdFin (r1 r2 : Nat) (a a' : Option Addr) (n c n' c' : Nat) : bdV (binf P ty_race_finder) [(1, .map (some r1)), (4, .map (some r2)), (3, .slice a n c), (2, .slice a' n' c')] = some (.agg (finC (fun _ _ => 0) [.map (some r1), .slice a' n' c', .slice a n c, .map (some r2)]).toArray) := by kernel_rfl
theorem bdKn (r1 : Nat) (a : Option Addr) (n c : Nat) : bdV (binf P ty_race_finder) [(1, .map (some r1)), (3, .slice a n c)] = some (.agg (finC (fun _ _ => 0) [.map (some r1), .slice none 0 0, .slice a n c, .map none]).toArray) := by kernel_rfl
theorem bdPair (x y : Int) : bdV (binf P ty_race_Pair) [(0, .int .i64 x), (1, .int .i64 y)] = some (.agg #[.int .i64 x, .int .i64 y]) := by kernel_rfl
theorem bdPair0 : bdV (binf P ty_race_Pair) [] = some (.agg #[.int .i64 0, .int .i64 0]) := by kernel_rfl
end Go.Proofs.Ytfeglbniahebaaa

namespace Go.Proofs.Ytfeglbniahebaaa
open Go Go.Den Go.MapKept
set_option linter.unusedSimpArgs false
set_option linter.unusedVariables false
theorem Sl.isS {α : Type} {sz : Nat} {R : Heap → List Value → α → Prop} {h : Heap} {v : Value} {xs : List α} (x : Sl sz R h v xs) : ∃ a n c, v = .slice a n c := by
  rcases x with ⟨_, a, c, rfl⟩ | ⟨b, o, cap, rfl, _⟩ <;> exact ⟨_, _, _, rfl⟩
/-- One act more: what is known, and left, behind it. -/
theorem vst_s {xs : List Act} {i : Nat} (hc : cntB (act xs i) = true) : (vst xs (i + 1)).kn = mvK (bump (vst xs i).kn (act xs i).who.toNat) (vst xs i).left (act xs i).who.toNat (act xs i) ∧ (vst xs (i + 1)).left = mvL (bump (vst xs i).kn (act xs i).who.toNat) (vst xs i).left (act xs i).who.toNat (act xs i) := by
  simp [vst, vstep, hc]
theorem Row.keepL {sz : Nat} {e : TypeId} {h h' : Heap} {v : Value} {n : Nat} {xs : List Value} {l : List Nat} (r : Row sz e h v n xs) (k : KeepL l h h') (hl : ∀ g, rowOf v = some g → g ∉ l) : Row sz e h' v n xs := by
  refine ⟨r.1, ?_⟩
  rcases r.2 with h1 | ⟨g, cap, cur, rfl, h2, h3⟩
  · exact .inl h1
  · exact .inr ⟨g, cap, cur, rfl, k _ _ h2 (hl g rfl), h3⟩
theorem Row.cells {sz : Nat} {e : TypeId} {h : Heap} {v : Value} {n : Nat} {xs : List Value} (r : Row sz e h v n xs) {g : Nat} (hg : rowOf v = some g) : ∃ c, h g = some (.cells c e (0, 0)) := by
  rcases r.2 with ⟨rfl, _⟩ | ⟨g', cap, cur, rfl, hb, _⟩
  · simp [rowOf] at hg
  · simp only [rowOf, Option.some.injEq] at hg; subst hg; exact ⟨_, hb⟩
/-- The blocks of a map's rows stay, if but others change. -/
theorem PlR.keepL {h0 h h' : Heap} {g0 : Option Nat} {r : Nat} {pl : Int → List Nat} {l : List Nat} (p : PlR h0 g0 h r pl) (k : KeepL l h h') (hr : r ∉ l) (hl : ∀ g ∈ l, (∀ c, h g = some (.cells c ty_int (0, 0)) → g0 = some g)) : PlR h0 g0 h' r pl := by
  obtain ⟨f, h1, h2, h3, h4⟩ := p
  refine ⟨f, ?_, fun n => (h2 n).imp_right fun ⟨v, a, b⟩ => ⟨v, a, Row.keepL b k fun g hg hm => ?_⟩, h3, h4⟩
  · obtain ⟨o, ho⟩ := h1.lt
    exact h1.of (by rw [k _ _ ho hr, ho])
  · obtain ⟨c, hc⟩ := Row.cells b hg
    exact (h3 n v a g hg).2 (hl g hm c hc)
theorem RowN.app {h' : Heap} {v' : Value} {l : List Nat} {k : Nat} (r : Row 1 ty_int h' v' (l.length + 1) (intsC l ++ [.int .i64 k])) : RowN h' v' (l ++ [k]) := by
  have e1 : (l ++ [k]).length = l.length + 1 := by simp
  have e2 : intsC (l ++ [k]) = intsC l ++ [.int .i64 k] := by simp [intsC]
  unfold RowN; rw [e1, e2]; exact r
/-- Another act at a place. -/
theorem PlR.push {h0 h h' : Heap} {g0 : Option Nat} {r : Nat} {pl : Int → List Nat} {f f' : Value → Option Value} {n : Int} {k : Nat} {v v' : Value}
    (h2 : ∀ n : Int, (f (.int .i64 n) = none ∧ pl n = []) ∨ ∃ v, f (.int .i64 n) = some v ∧ RowN h v (pl n))
    (h3 : ∀ (n : Int) v, f (.int .i64 n) = some v → ∀ g, rowOf v = some g → h0 g = none ∧ g0 ≠ some g)
    (h4 : ∀ (n m : Int) v u, n ≠ m → f (.int .i64 n) = some v → f (.int .i64 m) = some u → ∀ g, rowOf v = some g → rowOf u ≠ some g)
    (hv : f (.int .i64 n) = some v ∨ v = .slice none 0 0) (hf' : ∀ m : Int, f' (.int .i64 m) = if m = n then some v' else f (.int .i64 m)) (hm : MapR (.int .i64) h' r f')
    (hr : RowN h' v' (pl n ++ [k])) (hkp : ∀ q c, h q = some (.cells c ty_int (0, 0)) → rowOf v ≠ some q → h' q = some (.cells c ty_int (0, 0))) (hx : Ext h0 h) (hg0 : ∀ g, g0 = some g → ∃ o, h g = some o) (ha : rowOf v' = rowOf v ∨ ∃ b, rowOf v' = some b ∧ h b = none) :
    PlR h0 g0 h' r (fun m => if n = m then pl m ++ [k] else pl m) := by
  have hvne : ∀ m u, m ≠ n → f (.int .i64 m) = some u → ∀ g, rowOf u = some g → rowOf v ≠ some g := fun m u hmn hu g hg hv' => by
    rcases hv with hv | rfl
    · exact h4 m n u v hmn hu hv g hg hv'
    · simp [rowOf] at hv'
  have hrow : ∀ m u, m ≠ n → f (.int .i64 m) = some u → ∃ l, RowN h u l := fun m u hmn hu => by
    rcases h2 m with ⟨h5, _⟩ | ⟨w, h5, h6⟩
    · rw [hu] at h5; cases h5
    · rw [hu] at h5; cases h5; exact ⟨_, h6⟩
  have hall : ∀ m u, m ≠ n → f (.int .i64 m) = some u → ∀ g, rowOf u = some g → rowOf v' ≠ some g := fun m u hmn hu g hg => by
    rcases ha with ha | ⟨b, hb, hn⟩
    · rw [ha]; exact hvne m u hmn hu g hg
    · rw [hb]; intro e; cases e
      obtain ⟨l, hl⟩ := hrow m u hmn hu
      obtain ⟨o, ho⟩ := hl.lt g hg
      rw [hn] at ho; cases ho
  refine ⟨f', hm, fun m => ?_, fun m u hu g hg => ?_, fun m m' u u' hmm hu hu' g hg => ?_⟩
  · rw [hf' m]
    by_cases e : m = n
    · subst e; simp only [if_pos]; exact .inr ⟨v', rfl, hr⟩
    · rw [if_neg e]; simp only [if_neg (Ne.symm e)]
      refine (h2 m).imp_right fun ⟨u, a, b⟩ => ⟨u, a, b.of_at fun g hg => ?_⟩
      obtain ⟨c, hc⟩ := Row.cells b hg
      rw [hkp g c hc (hvne m u e a g hg), hc]
  · rw [hf' m] at hu
    by_cases e : m = n
    · subst e
      simp only [if_pos, Option.some.injEq] at hu
      subst hu
      rcases ha with ha | ⟨b, hb, hn⟩
      · rw [ha] at hg
        rcases hv with hv | rfl
        · exact h3 _ _ hv g hg
        · simp [rowOf] at hg
      · rw [hb] at hg; cases hg
        exact ⟨fresh_of hx hn, fun e => by obtain ⟨o, ho⟩ := hg0 _ e; rw [hn] at ho; cases ho⟩
    · rw [if_neg e] at hu; exact h3 _ _ hu g hg
  · rw [hf' m] at hu
    rw [hf' m'] at hu'
    by_cases e : m = n
    · subst e
      rw [if_neg (Ne.symm hmm)] at hu'
      simp only [if_pos, Option.some.injEq] at hu
      subst hu
      intro hg'
      exact hall m' u' (Ne.symm hmm) hu' g hg' hg
    · rw [if_neg e] at hu
      by_cases e' : m' = n
      · subst e'
        simp only [if_pos, Option.some.injEq] at hu'
        subst hu'
        exact hall m u hmm hu g hg
      · rw [if_neg e'] at hu'; exact h4 _ _ _ _ hmm hu hu' g hg
theorem plAt_len {xs : List Act} : ∀ {i : Nat} {n : Int}, (plAt xs i n).length ≤ i
  | 0, n => by simp [plAt]
  | i + 1, n => by
    have := plAt_len (xs := xs) (i := i) (n := n)
    unfold plAt
    split
    · simp; omega
    · omega
theorem who_rng {a : Act} (h : cntB a = true) : 0 ≤ a.who ∧ a.who ≤ 9 := by simpa [cntB] using h
def oPair : Option (Nat × Nat) → Value
  | some (i, j) => .tuple #[.agg #[.int .i64 i, .int .i64 j], .bool true]
  | none => .tuple #[.agg #[.int .i64 0, .int .i64 0], .bool false]
set_option maxHeartbeats 4000000 in
theorem find_ok (xs : List Act) (hl : xs.length ≤ 1000) {h0 : Heap} {v : Value} (x : Sl 3 ActR h0 v xs) {K : Value → Heap → Prop} (hk : ∀ h' o, Ext h0 h' → IsFirst (findR xs) xs.length o → K (oPair o) h') :
    callM P fn_race_Find #[v] h0 K := by
  apply c_race_Find
  unfold b_race_Find
  obtain ⟨va, vn, vc, rfl⟩ := Sl.isS x
  have hlen := x.len
  simp only [lnV_s, Option.some.injEq, Value.int.injEq, true_and] at hlen
  have hvn : vn = xs.length := by omega
  subst hvn
  rw [zcPair]
  refine nw_intro fun bp h1 hbp he1 hc1 => ?_
  refine makeMap_vv mpLeft fun r1 h2 hr1 he2 hm1 => ?_
  refine makeMap_vv mpPl fun r2 h3 hr2 he3 hm2 => ?_
  simp only [lnV_s, ov_s]
  refine makeSlice_vv unI apI zcI (by omega) (by omega) (by unfold maxLen; omega) fun go h4 hgo he4 hc4 => ?_
  rw [bdFin]
  simp only [ov_s]
  refine nw_agg fun b h5 hb he5 hc5 => ?_
  rw [seqM_eq]
  have hrow := made_row (by unfold maxLen; omega) hc4
  have hf0 : FI xs h0 (.slice va xs.length vc) (.slice (some ⟨go, 0, none⟩) xs.length xs.length) bp b r1 r2 0 h5 := by
    refine ⟨he1.trans (he2.trans (he3.trans (he4.trans he5))), hc5, ⟨_, hm1.ext (he3.trans (he4.trans he5)), fun n => rfl⟩, ?_, ⟨_, hm2.ext (he4.trans he5), fun n => .inl ⟨rfl, rfl⟩, (fun n v e => by cases e), (fun n m v u _ e => by cases e)⟩, he5 _ _ (he4 _ _ (he3 _ _ (he2 _ _ hc1)))⟩
    exact row1_congr (hrow.ext he5) fun k _ => by simp
  have fb : h0 b = none := fresh_of (he1.trans (he2.trans (he3.trans he4))) hb
  have fr1 : h0 r1 = none := fresh_of he1 hr1
  have fr2 : h0 r2 = none := fresh_of (he1.trans he2) hr2
  have fgo : h0 go = none := fresh_of (he1.trans (he2.trans he3)) hgo
  have fbp : h0 bp = none := hbp
  have h12 : r1 ≠ r2 := by obtain ⟨o, ho⟩ := hm1.lt; exact ne_fresh ho hr2
  generalize how : Value.slice (some ⟨go, 0, none⟩) xs.length xs.length = ow at *
  have hrow' : rowOf ow = some go := by rw [← how]; rfl
  clear he1 he2 he3 he4 he5 hm1 hm2 hc1 hc4 hc5 hb hr1 hr2 hgo hrow
  refine loop_on [2, 4, 17, 18] (fun s h' => ∃ i : Nat, i ≤ xs.length ∧ s 19 = .int .i64 i ∧ s 3 = .bool false ∧ FI xs h0 (.slice va xs.length vc) ow bp b r1 r2 i h' ∧ ∀ j, j < i → ∀ k, k < j → findR xs k j = false) (fun s _ => (xs.length - num (s 19)).toNat)
    ⟨0, by omega, rfl, rfl, hf0, fun j hj => by omega⟩ ?_
  rintro s h' hf ⟨i, hi, hs19, hs3, fi, hno⟩
  have s2 : s 2 = .pointer (some ⟨bp, 0, none⟩) := by simpa using hf 2 (by simp)
  have s4 : s 4 = .pointer (some ⟨b, 0, none⟩) := by simpa using hf 4 (by simp)
  have s17 : s 17 = .slice va xs.length vc := by simpa using hf 17 (by simp)
  have s18 : s 18 = .int .i64 xs.length := by simpa using hf 18 (by simp)
  have hw : IntKind.i64.wrap ((i : Int) + 1) = i + 1 := wrap64_id (by omega) (by omega)
  simp only [hs19, s18, bin_lss, ov_s, cd_b]
  refine ⟨fun hc => ?_, fun hc => ?_⟩
  rotate_left
  · have hc' : ¬ ((i : Int) < xs.length) := by simpa using hc
    have : i = xs.length := by omega
    subst this
    simp [s2, bdPair0]
    refine st_intro fi.hbp rfl (by simp [Value.cells]) (by simp [Value.cells, Value.oneCell']) fun h6 ho6 hc6 => ?_
    have htg : tagg P 25 = some (some 2) := by kernel_rfl
    simp [s2, htg, retM, mkM, resL, ld_box (n := 2) hc6 rfl, over]
    exact hk h6 none (fun q o e => (ho6 q (ne_fresh e fbp)).trans (fi.ext _ _ e)) hno
  have hlt : i < xs.length := by have : ((i : Int) < xs.length) := by simpa using hc
                                 omega
  refine seq_cut (fun m' s' hh => m' = [] ∧ (∀ k ∈ [2, 3, 4, 17, 18, 19], s' k = s k) ∧ FI xs h0 (.slice va xs.length vc) ow bp b r1 r2 (i + 1) hh ∧ ∀ k, k < i → findR xs k i = false) (fun J hJ _ hJr => ?_) ?_
  rotate_left
  · rintro m' s' hh ⟨rfl, hf', fi', hno'⟩
    simp [hf' 19 (by simp), hf' 2 (by simp), hf' 3 (by simp), hf' 4 (by simp), hf' 17 (by simp), hf' 18 (by simp), hs19, hw, s2, s4, s17, s18, hs3]
    refine ⟨⟨i + 1, by omega, by simp, fi', fun j hj => ?_⟩, by omega⟩
    by_cases e : j = i
    · subst e; exact hno'
    · exact hno j (by omega)
  obtain ⟨b1, o1, i1, l1⟩ := act_at (k := .i64) x (i := i) hlt
  simp only [s17, i1, l1 _ fi.ext, ov_s, zcAct]
  refine nw_st rfl rfl (by simp [Value.cells, actC, Value.oneCell']) fun bx h6 hbx he6 hc6 => ?_
  have f6 := fi.mono he6
  simp +contextual -implicitDefEqProofs [cel_of hc6, actC]
  have cnt_iff : cntB (act xs i) = (decide (0 ≤ (act xs i).who) && decide ((act xs i).who ≤ 9)) := rfl
  refine ⟨fun hout => ?_, fun hge hle => ?_⟩
  · have hcf : cntB (act xs i) = false := by
      rw [cnt_iff]; simp; omega
    exact hJ _ _ _ ⟨rfl, by simp, f6.skip hcf, fun k _ => by simp [findR, hcf]⟩
  have hct : cntB (act xs i) = true := by rw [cnt_iff]; simp; omega
  have hrg := who_rng hct
  obtain ⟨w, hw0⟩ : ∃ w : Nat, (act xs i).who = w := ⟨(act xs i).who.toNat, by omega⟩
  have hw9 : w < 10 := by omega
  have hwn : (act xs i).who.toNat = w := by omega
  obtain ⟨ek, el⟩ := vst_s hct
  rw [hwn] at ek el
  have hdb : b ≠ bp := ne_type f6.hb f6.hbp (by decide)
  have hbr1 : b ≠ r1 := by obtain ⟨f, hm, _⟩ := f6.hl; obtain ⟨es, ck, ho⟩ := hm.obj; intro e; have := f6.hb; rw [e, ho] at this; cases this
  have hbr2 : b ≠ r2 := by obtain ⟨f, hm, _⟩ := f6.hp; obtain ⟨es, ck, ho⟩ := hm.obj; intro e; have := f6.hb; rw [e, ho] at this; cases this
  obtain ⟨cgo, hcgo⟩ := Row.cells f6.ho hrow'
  have hbgo : b ≠ go := ne_type f6.hb hcgo (by decide)
  have hpgo : bp ≠ go := ne_type f6.hbp hcgo (by decide)
  have hbxb : bx ≠ b := ne_type hc6 f6.hb (by decide)
  have hbxgo : bx ≠ go := ne_type hc6 hcgo (by decide)
  have hbxr1 : bx ≠ r1 := by obtain ⟨f, hm, _⟩ := f6.hl; obtain ⟨es, ck, ho⟩ := hm.obj; intro e; have := hc6; rw [e, ho] at this; cases this
  have hpr1 : bp ≠ r1 := by obtain ⟨f, hm, _⟩ := f6.hl; obtain ⟨es, ck, ho⟩ := hm.obj; intro e; have := f6.hbp; rw [e, ho] at this; cases this
  have hgor1 : go ≠ r1 := by obtain ⟨f, hm, _⟩ := f6.hl; obtain ⟨es, ck, ho⟩ := hm.obj; intro e; rw [e, ho] at hcgo; cases hcgo
  have hgor2 : go ≠ r2 := by obtain ⟨f, hm, _⟩ := f6.hp; obtain ⟨es, ck, ho⟩ := hm.obj; intro e; rw [e, ho] at hcgo; cases hcgo
  have hpr2 : bp ≠ r2 := by obtain ⟨f, hm, _⟩ := f6.hp; obtain ⟨es, ck, ho⟩ := hm.obj; intro e; have := f6.hbp; rw [e, ho] at this; cases this
  simp only [s4, ncV_p, ov_s, faV_p, ia_arr2 hrg, hwn, Nat.zero_add, Nat.mul_one, ldV_c, cel_fin f6.hb hw9 hw9, bin_add]
  refine st_intro f6.hb rfl (by simp [finC_len, Value.cells]; omega) (by simp [Value.cells, Value.oneCell']) fun h7 ho7 hc7 => ?_
  rw [show (Value.int .i64 (IntKind.i64.wrap ((vst xs i).kn w w + 1))).cells.toList = [.int .i64 (IntKind.i64.wrap ((vst xs i).kn w w + 1))] from rfl, over_fin1 _ _ _ _ _ hw9 hw9] at hc7
  have hbump : kset (vst xs i).kn w (cset1 ((vst xs i).kn w) w (IntKind.i64.wrap ((vst xs i).kn w w + 1))) = bump (vst xs i).kn w := rfl
  rw [hbump] at hc7
  have t7 : cel h7 b 101 = some ow := by simpa using cel_tl hc7 1
  have hbx7 : h7 bx = some (.cells (actC (act xs i)).toArray ty_api_Act (0, 0)) := by rw [ho7 _ hbxb]; exact hc6
  have k7 : KeepL [b, go, r1] h6 h7 := KeepL.one ho7 (by simp)
  have ro7 := f6.ho.of_at (h' := h7) fun g hg => ho7 g (by rw [hrow'] at hg; cases hg; exact Ne.symm hbgo)
  obtain ⟨g, q1, q2, q3⟩ := row1_at (k := .i64) ro7 hlt
  rw [hrow'] at q1
  cases q1
  have kw := cel_fin hc7 hw9 hw9
  simp [cel_of hbx7, actC, s4, ia_arr2 hrg, hwn, t7, q2, kw]
  refine row1_st ro7 hrow' hlt rfl rfl fun h8 ho8 ro8 => ?_
  have hbx8 : h8 bx = some (.cells (actC (act xs i)).toArray ty_api_Act (0, 0)) := by rw [ho8 _ hbxgo]; exact hbx7
  have hb8 : h8 b = some (.cells (finC (bump (vst xs i).kn w) [.map (some r1), ow, .slice va xs.length vc, .map (some r2)]).toArray ty_race_finder (0, 0)) := by rw [ho8 _ hbgo]; exact hc7
  have k8 : KeepL [b, go, r1] h6 h8 := k7.trans (KeepL.one ho8 (by simp))
  have hl8 : LeftR h8 r1 (vst xs i).left := (f6.hl.of (h' := h7) (ho7 _ (Ne.symm hbr1))).of (ho8 _ (Ne.symm hgor1))
  simp only [ld_box (n := 3) hbx8 rfl, ov_s]
  refine moves_ok b r1 w (bump (vst xs i).kn w) (vst xs i).left _ (act xs i) hw9 hw0 hbr1 hb8 hl8 fun h9 kp9 hb9 hl9 => ?_
  have k9 : KeepL [b, go, r1] h6 h9 := k8.trans (kp9.mono (by simp))
  have hbx9 : h9 bx = some (.cells (actC (act xs i)).toArray ty_api_Act (0, 0)) := kp9 _ _ hbx8 (by simp [hbxb, hbxr1])
  rw [← ek] at hb9
  rw [← el] at hl9
  have ro9 : Row 1 ty_int h9 ow xs.length (seqF xs.length fun k => [.int .i64 (if k < i + 1 then ownAt xs k else 0)]) := by
    refine row1_congr (Row.keepL ro8 kp9 (fun g hg => by rw [hrow'] at hg; cases hg; simp [Ne.symm hbgo, hgor1])) fun k _ => ?_
    have how : ownAt xs i = IntKind.i64.wrap ((vst xs i).kn w w + 1) := by simp [ownAt, hct, hwn]
    by_cases e1 : k = i
    · subst e1; simp [how, bump, kset, cset1]
    · by_cases e2 : k < i
      · simp [e1, e2, show k < i + 1 by omega]
      · simp [e1, e2, show ¬ k < i + 1 by omega]
  have hp9 : PlR h0 (rowOf ow) h9 r2 (plAt xs i) := PlR.keepL f6.hp k9 (by simp [Ne.symm hbr2, Ne.symm hgor2, Ne.symm h12]) (by
    intro g hg c hgc
    simp only [List.mem_cons, List.not_mem_nil, or_false] at hg
    rcases hg with rfl | rfl | rfl
    · exact absurd rfl (ne_type hgc f6.hb (by decide))
    · exact hrow'
    · obtain ⟨f, hm, _⟩ := f6.hl; obtain ⟨es, ck, ho⟩ := hm.obj; rw [ho] at hgc; cases hgc)
  have hbp9 : h9 bp = some (.cells #[.int .i64 0, .int .i64 0] ty_race_Pair (0, 0)) := k9 _ _ f6.hbp (by simp [Ne.symm hdb, hpgo, hpr1])
  have hx9 : Ext h0 h9 := fun q o e => k9 _ _ (f6.ext _ _ e) (by simp [ne_fresh e fb, ne_fresh e fgo, ne_fresh e fr1])
  clear ho7 ho8 k7 k8 ro7 ro8 hb8 hl8 kp9
  simp only [ld_box (n := 3) hbx9 rfl, ov_s]
  refine plain_ok _ fun h10 he10 => ?_
  have hb10 := he10 _ _ hb9
  have hl10 := hl9.ext he10
  have ro10 := ro9.ext he10
  have hp10 := hp9.ext he10
  have hx10 := hx9.trans he10
  have hbp10 := he10 _ _ hbp9
  have hbx10 := he10 _ _ hbx9
  simp only [unV_n, ov_s, cd_b]
  refine ⟨fun hpl => ?_, fun hpl => ?_⟩
  · have hpf : plainB (act xs i) = false := by simpa [plainB] using hpl
    refine hJ _ _ _ ⟨rfl, by simp, ⟨hx10, hb10, hl10, ro10, ?_, hbp10⟩, fun k _ => by simp [findR, hpf]⟩
    have : plAt xs (i + 1) = plAt xs i := by funext n; simp [plAt, hpf]
    rw [this]; exact hp10
  have hpt : plainB (act xs i) = true := by cases hh : plainB (act xs i) <;> simp_all [plainB]
  refine against_ok xs hl (own := fun k => if k < i + 1 then ownAt xs k else 0) (Sl.ext (R := ActR) (fun _ r => r) hx10 x) hb10 ro10 hp10 hlt hct (fun n k hk => by have := plAt_mem.1 hk; exact ⟨by omega, this.2.1⟩) fun h11 he11 => ?_
  have hconf : ∀ k, k < i → confB (vst xs (i + 1)).kn (fun k => if k < i + 1 then ownAt xs k else 0) xs i k = confB (vst xs (i + 1)).kn (ownAt xs) xs i k := fun k hk => by simp [confB, show k < i + 1 by omega]
  have hLs := plAt_sorted (xs := xs) (i := i) (n := (act xs i).place)
  cases hfd : (plAt xs i (act xs i).place).find? (confB (vst xs (i + 1)).kn (fun k => if k < i + 1 then ownAt xs k else 0) xs i) with
  | some k =>
    rw [List.find?_eq_some_iff_getElem] at hfd
    obtain ⟨hck, ix, hix, hke, hbef⟩ := hfd
    have hkm := plAt_mem.1 (hke ▸ List.getElem_mem hix)
    simp [bdPair, s2]
    refine st_intro (he11 _ _ hbp10) rfl (by simp [Value.cells]) (by simp [Value.cells, Value.oneCell']) fun h12' ho12 hc12 => ?_
    rw [hJr]
    have htg : tagg P 25 = some (some 2) := by kernel_rfl
    simp [s2, htg, retM, mkM, resL, ld_box (n := 2) hc12 rfl, over]
    refine hk h12' (some (k, i)) (fun q o e => (ho12 q (ne_fresh e fbp)).trans (he11 _ _ (hx10 _ _ e))) ⟨hkm.1, hlt, ?_, fun k' hk' => ?_, hno⟩
    · rw [hconf k hkm.1] at hck
      simp [findR, hct, hpt, hkm.2.1, hkm.2.2.1, hkm.2.2.2, hck]
    · cases hfr : findR xs k' i with
      | false => rfl
      | true =>
        exfalso
        simp only [findR, Bool.and_eq_true, decide_eq_true_eq] at hfr
        obtain ⟨⟨⟨⟨⟨_, _⟩, a1⟩, a2⟩, a3⟩, a4⟩ := hfr
        have hm' : k' ∈ plAt xs i (act xs i).place := plAt_mem.2 ⟨by omega, a1, a2, a3⟩
        obtain ⟨ix', hix', he'⟩ := List.getElem_of_mem hm'
        have : ix' < ix := by
          rcases Nat.lt_or_ge ix' ix with h | h
          · exact h
          · exfalso
            rcases Nat.lt_or_ge ix ix' with h' | h'
            · have := (List.pairwise_iff_getElem.1 hLs) ix ix' hix hix' h'
              omega
            · have : ix = ix' := by omega
              subst this; omega
        have := hbef ix' this
        rw [he', hconf k' (by omega)] at this
        simp [a4] at this
  | none =>
    rw [List.find?_eq_none] at hfd
    have hno' : ∀ k, k < i → findR xs k i = false := fun k hk => by
      cases hfr : findR xs k i with
      | false => rfl
      | true =>
        exfalso
        simp only [findR, Bool.and_eq_true, decide_eq_true_eq] at hfr
        obtain ⟨⟨⟨⟨⟨_, _⟩, a1⟩, a2⟩, a3⟩, a4⟩ := hfr
        have := hfd k (plAt_mem.2 ⟨hk, a1, a2, a3⟩)
        rw [hconf k hk] at this
        exact this a4
    have hb11 := he11 _ _ hb10
    have hp11 := hp10.ext he11
    have hbx11 := he11 _ _ hbx10
    have t11 : ∀ h', Ext h11 h' → cel h' b 103 = some (.map (some r2)) := fun h' e => by simpa using cel_tl (e _ _ hb11) 3
    have x11 : ∀ h', Ext h11 h' → cel h' bx 2 = some (.int .i64 (act xs i).place) := fun h' e => by simp [cel_of (e _ _ hbx11), actC]
    simp only [exV_0, exV_1, ov_s, cd_b]
    refine ⟨fun hh => (by cases hh), fun _ => ?_⟩
    obtain ⟨f, fm, f2, f3, f4⟩ := hp11
    obtain ⟨u, hu1, hu2⟩ : ∃ u, (f (.int .i64 (act xs i).place) = some u ∨ u = .slice none 0 0) ∧ RowN h11 u (plAt xs i (act xs i).place) ∧ (lkA (.slice none 0 0) false (f (.int .i64 (act xs i).place)) = u) := by
      rcases f2 (act xs i).place with ⟨a1, a2⟩ | ⟨u, a1, a2⟩
      · exact ⟨.slice none 0 0, .inr rfl, by rw [a2]; exact ⟨rfl, .inl ⟨rfl, rfl⟩⟩, by rw [a1]; rfl⟩
      · exact ⟨u, .inl a1, a2, by rw [a1]; rfl⟩
    obtain ⟨hur, hul⟩ := hu2
    simp only [t11 _ (Ext.refl _), x11 _ (Ext.refl _), ov_s]
    refine lookup_lk mpPl rfl fm ?_
    rw [hul]
    refine bs_one bsSlI rfl (by omega) fun nb h13 hnb he13 hc13 => ?_
    refine ⟨t11 _ he13, x11 _ he13, t11 _ he13, x11 _ he13, ?_, ?_⟩
    · have := lookup_run (P := P) (ok := false) mpPl (k := .int .i64 (act xs i).place) rfl (fm.ext he13)
      rw [hul] at this; exact this
    have hpll : (plAt xs i (act xs i).place).length ≤ 1000 := by
      have := plAt_len (xs := xs) (i := i) (n := (act xs i).place)
      omega
    refine app_intro unI apI (by omega) (hur.ext he13) (cels_one hc13 rfl) (by simp [Value.cells, Value.oneCell']) (by unfold maxLen; omega) (by omega) fun v' h14 hr14 hk14 ha14 => ?_
    have hub : ∀ q o, h13 q = some o → (∀ c, o ≠ .cells c ty_int (0, 0)) → h14 q = some o := fun q o hq hne => hk14 _ _ hq fun e => by
      obtain ⟨c, hc⟩ := Row.cells (hur.ext he13) e.symm
      rw [hq] at hc; cases hc; exact hne _ rfl
    have hugo : ∀ q, rowOf u = some q → h0 q = none ∧ rowOf ow ≠ some q := fun q hq => by
      rcases hu1 with hu1 | rfl
      · exact f3 _ _ hu1 q hq
      · simp [rowOf] at hq
    have hx13 : Ext h0 h13 := hx10.trans (he11.trans he13)
    have hx14 : Ext h0 h14 := hx13.keep hk14 fun q hq => (hugo q hq).1
    have b14 := hub b _ (he13 _ _ hb11) (by intro c e; cases e)
    have bx14 := hub bx _ (he13 _ _ hbx11) (by intro c e; cases e)
    have bp14 := hub bp _ (he13 _ _ (he11 _ _ hbp10)) (by intro c e; cases e)
    have t14 : cel h14 b 103 = some (.map (some r2)) := by simpa using cel_tl b14 3
    have x14 : cel h14 bx 2 = some (.int .i64 (act xs i).place) := by simp [cel_of bx14, actC]
    obtain ⟨es2, ck2, hm2⟩ := (fm.ext he13).obj
    have fm14 := (fm.ext he13).of (h' := h14) (by rw [hub r2 _ hm2 (by intro c e; cases e), hm2])
    have hl14 : LeftR h14 r1 (vst xs (i + 1)).left := by
      have hh := (hl10.ext he11).ext he13
      refine hh.of ?_
      obtain ⟨fl, hm, _⟩ := hh
      obtain ⟨es, ck, ho⟩ := hm.obj
      rw [hub r1 _ ho (by intro c e; cases e), ho]
    have ro14 : Row 1 ty_int h14 ow xs.length _ := ((ro10.ext he11).ext he13).keep hk14 (.inl fun e => (hugo go (by rw [← e]; exact hrow')).2 hrow')
    refine ⟨t14, x14, ?_⟩
    refine mapUpdate_u mpPl rfl fm14 fun h15 ho15 fm15 => ?_
    refine hJ _ _ _ ⟨rfl, by simp, ⟨fun q o e => (ho15 q (ne_fresh e fr2)).trans (hx14 _ _ e), (ho15 b hbr2).trans b14, hl14.of (ho15 r1 h12), ro14.of_at fun g hg => ho15 g (by rw [hrow'] at hg; cases hg; exact hgor2), ?_, (ho15 bp hpr2).trans bp14⟩, hno'⟩
    have hpl' : plAt xs (i + 1) = fun m => if (act xs i).place = m then plAt xs i m ++ [i] else plAt xs i m := by
      funext m
      by_cases e : (act xs i).place = m <;> simp [plAt, hct, hpt, e]
    rw [hpl']
    obtain ⟨cgo', hcgo'⟩ := Row.cells ro14 hrow'
    have f2' : ∀ n : Int, (f (.int .i64 n) = none ∧ plAt xs i n = []) ∨ ∃ v, f (.int .i64 n) = some v ∧ RowN h13 v (plAt xs i n) := fun n => (f2 n).imp_right fun ⟨w, a1, a2⟩ => ⟨w, a1, a2.ext he13⟩
    have hr14' : RowN h14 v' (plAt xs i (act xs i).place ++ [i]) := RowN.app (by simpa [Value.cells] using hr14)
    refine PlR.push (v := u) (v' := v') (k := i) f2' f3 f4 hu1 (fun m => ?_) fm15 (hr14'.of_at fun g hg => ho15 g fun e => ?_) (fun q c e n => ?_) hx13 (fun g hg => ?_) ha14
    · by_cases e : m = (act xs i).place
      · subst e; rw [mset_same]; simp
      · rw [mset_ne _ _ _ (by simpa using e), if_neg e]
    · obtain ⟨c, hc⟩ := Row.cells hr14' hg
      obtain ⟨es, ck, ho⟩ := fm14.obj
      rw [e, ho] at hc; cases hc
    · have e2 : q ≠ r2 := fun e2 => by subst e2; rw [hm2] at e; cases e
      exact (ho15 q e2).trans (hk14 _ _ e (fun h => n h.symm))
    · obtain ⟨c, hc⟩ := Row.cells ((ro10.ext he11).ext he13) hg
      exact ⟨_, hc⟩
end Go.Proofs.Ytfeglbniahebaaa

namespace Go.Proofs.Ytfeglbniahebaaa
open Go Go.Den Go.MapKept
set_option linter.unusedSimpArgs false
set_option linter.unusedVariables false
/-- What is told of each act of the first n. -/
def KnR (xs : List Act) (h : Heap) (v : Value) (m : Nat) (kv : Nat → Value) : Prop :=
  Row 1 ty_Sl_int h v xs.length (seqF xs.length fun k => [if k < m then kv k else .slice none 0 0]) ∧
  ∀ k, k < m → (cntB (act xs k) = true → Row 1 ty_int h (kv k) 10 (seqF 10 fun w => [.int .i64 ((vst xs (k + 1)).kn (act xs k).who.toNat w)])) ∧ (cntB (act xs k) = false → kv k = .slice none 0 0)
theorem KnR.ext {xs : List Act} {h h' : Heap} {v : Value} {m : Nat} {kv : Nat → Value} (r : KnR xs h v m kv) (e : Ext h h') : KnR xs h' v m kv := ⟨r.1.ext e, fun k hk => ⟨fun hc => ((r.2 k hk).1 hc).ext e, (r.2 k hk).2⟩⟩
theorem apSlI : apC P ty_Sl_int = some (1, 24, 1) := by kernel_rfl
theorem unSlSlI : P.underlying ty_Sl_Sl_int = some (.slice ty_Sl_int) := by kernel_rfl
theorem zcSlI : zc P ty_Sl_int = some #[.slice none 0 0] := by kernel_rfl
theorem slArr (b o : Nat) : slV (some (some 10, 1)) (.pointer (some ⟨b, o, none⟩)) none none = some (.slice (some ⟨b, o, none⟩) 10 10) := by
  simp [slV, bnd, Addr.add]
theorem bs_none {P : Program} {t e : TypeId} {sz : Nat} {z : Array Value} {h : Heap} {K : Value → Heap → Prop} (hb : bsI P t = some (e, sz, z))
    (hk : ∀ v h', Ext h h' → Row sz e h' v 0 [] → rowOf v ≠ none → (∀ g, rowOf v = some g → h g = none) → K v h') : bsM (bsI P t) 0 [] h K := by
  rw [hb]
  simp only [bsM, Instr.fill]
  refine ⟨by omega, fun b hbn => hk _ _ (Ext.upd hbn _) ⟨by simp, .inr ⟨b, 0, _, rfl, upd_same _ _ _, Nat.le_refl _, by unfold maxLen; omega, by simp [zrow_size], by simp⟩⟩ (by simp [rowOf]) (fun g hg => by simp [rowOf] at hg; subst hg; exact hbn)⟩
set_option maxHeartbeats 4000000 in
theorem known_ok (xs : List Act) (hl : xs.length ≤ 1000) {h0 : Heap} {v : Value} (x : Sl 3 ActR h0 v xs) {K : Value → Heap → Prop} (hk : ∀ h' v' kv, Ext h0 h' → KnR xs h' v' xs.length kv → K v' h') :
    callM P fn_race_Known #[v] h0 K := by
  apply c_race_Known
  unfold b_race_Known
  obtain ⟨va, vn, vc, rfl⟩ := Sl.isS x
  have hlen := x.len
  simp only [lnV_s, Option.some.injEq, Value.int.injEq, true_and] at hlen
  have hvn : vn = xs.length := by omega
  subst hvn
  refine makeMap_vv mpLeft fun r1 h2 hr1 he2 hm1 => ?_
  rw [bdKn]
  simp only [ov_s]
  refine nw_agg fun b h3 hb he3 hc3 => ?_
  simp only [lnV_s, ov_s]
  refine makeSlice_vv unSlSlI apSlI zcSlI (by omega) (by omega) (by unfold maxLen; omega) fun go h4 hgo he4 hc4 => ?_
  rw [seqM_eq]
  have hrow := made_row (by unfold maxLen; omega) hc4
  have fb : h0 b = none := fresh_of he2 hb
  have fgo : h0 go = none := fresh_of (he2.trans he3) hgo
  have fr1 : h0 r1 = none := hr1
  generalize how : Value.slice (some ⟨go, 0, none⟩) xs.length xs.length = ow at *
  have hrow' : rowOf ow = some go := by rw [← how]; rfl
  refine loop_on [3, 4, 14, 15] (fun s h' => ∃ (i : Nat) (kv : Nat → Value), i ≤ xs.length ∧ s 16 = .int .i64 i ∧ Ext h0 h' ∧ h' b = some (.cells (finC (vst xs i).kn [.map (some r1), .slice none 0 0, .slice va xs.length vc, .map none]).toArray ty_race_finder (0, 0)) ∧
      LeftR h' r1 (vst xs i).left ∧ KnR xs h' ow i kv) (fun s _ => (xs.length - num (s 16)).toNat)
    ⟨0, fun _ => .slice none 0 0, by omega, rfl, he2.trans (he3.trans he4), he4 _ _ hc3, ⟨_, hm1.ext (he3.trans he4), fun n => rfl⟩, row1_congr hrow fun k _ => by simp, fun k hk => by omega⟩ ?_
  rintro s h' hf ⟨i, kv, hi, hs16, hx, hb', hl', hkn⟩
  have s3 : s 3 = .pointer (some ⟨b, 0, none⟩) := by simpa using hf 3 (by simp)
  have s4 : s 4 = ow := by simpa using hf 4 (by simp)
  have s14 : s 14 = .slice va xs.length vc := by simpa using hf 14 (by simp)
  have s15 : s 15 = .int .i64 xs.length := by simpa using hf 15 (by simp)
  have hw : IntKind.i64.wrap ((i : Int) + 1) = i + 1 := wrap64_id (by omega) (by omega)
  simp only [hs16, s15, bin_lss, ov_s, cd_b]
  refine ⟨fun hc => ?_, fun hc => ?_⟩
  rotate_left
  · have hc' : ¬ ((i : Int) < xs.length) := by simpa using hc
    have : i = xs.length := by omega
    subst this
    simp [s4]
    exact hk h' ow kv hx hkn
  have hlt : i < xs.length := by have : ((i : Int) < xs.length) := by simpa using hc
                                 omega
  refine seq_cut (fun m' s' hh => m' = [] ∧ (∀ k ∈ [3, 4, 14, 15, 16], s' k = s k) ∧ ∃ kv : Nat → Value, Ext h0 hh ∧ hh b = some (.cells (finC (vst xs (i + 1)).kn [.map (some r1), .slice none 0 0, .slice va xs.length vc, .map none]).toArray ty_race_finder (0, 0)) ∧
      LeftR hh r1 (vst xs (i + 1)).left ∧ KnR xs hh ow (i + 1) kv) (fun J hJ _ hJr => ?_) ?_
  rotate_left
  · rintro m' s' hh ⟨rfl, hf', kv', hx', hb'', hl'', hkn'⟩
    simp [hf' 3 (by simp), hf' 4 (by simp), hf' 14 (by simp), hf' 15 (by simp), hf' 16 (by simp), hs16, hw, s3, s4, s14, s15]
    exact ⟨⟨i + 1, by omega, by simp, hx', hb'', hl'', kv', hkn'⟩, by omega⟩
  obtain ⟨b1, o1, i1, l1⟩ := act_at (k := .i64) x (i := i) hlt
  simp only [s14, i1, l1 _ hx, ov_s, zcAct]
  refine nw_st rfl rfl (by simp [Value.cells, actC, Value.oneCell']) fun bx h6 hbx he6 hc6 => ?_
  have hb6 := he6 _ _ hb'
  have hl6 := hl'.ext he6
  have hkn6 := hkn.ext he6
  have hx6 := hx.trans he6
  simp +contextual -implicitDefEqProofs [cel_of hc6, actC]
  have cnt_iff : cntB (act xs i) = (decide (0 ≤ (act xs i).who) && decide ((act xs i).who ≤ 9)) := rfl
  refine ⟨fun hout => ?_, fun hge hle => ?_⟩
  · have hcf : cntB (act xs i) = false := by
      rw [cnt_iff]; simp; omega
    have e1 : vst xs (i + 1) = vst xs i := by simp [vst, vstep, hcf]
    refine hJ _ _ _ ⟨rfl, by simp, fun k => if k = i then .slice none 0 0 else kv k, hx6, by rw [e1]; exact hb6, by rw [e1]; exact hl6, row1_congr hkn6.1 fun k _ => ?_, fun k hk => ?_⟩
    · by_cases h1 : k < i
      · simp [h1, show k < i + 1 by omega, show k ≠ i by omega]
      · by_cases h2 : k = i
        · simp [h2]
        · simp [h1, show ¬ k < i + 1 by omega]
    · by_cases h2 : k = i
      · subst h2; simp [hcf]
      · simp [h2]; exact hkn6.2 k (by omega)
  have hct : cntB (act xs i) = true := by rw [cnt_iff]; simp; omega
  have hrg := who_rng hct
  obtain ⟨w, hw0⟩ : ∃ w : Nat, (act xs i).who = w := ⟨(act xs i).who.toNat, by omega⟩
  have hw9 : w < 10 := by omega
  have hwn : (act xs i).who.toNat = w := by omega
  obtain ⟨ek, el⟩ := vst_s hct
  rw [hwn] at ek el
  obtain ⟨cgo, hcgo⟩ := Row.cells hkn6.1 hrow'
  have hbr1 : b ≠ r1 := by obtain ⟨f, hm, _⟩ := hl6; obtain ⟨es, ck, ho⟩ := hm.obj; intro e; have := hb6; rw [e, ho] at this; cases this
  have hgor1 : go ≠ r1 := by obtain ⟨f, hm, _⟩ := hl6; obtain ⟨es, ck, ho⟩ := hm.obj; intro e; rw [e, ho] at hcgo; cases hcgo
  have hbgo : b ≠ go := ne_type hb6 hcgo (by decide)
  have hbxb : bx ≠ b := ne_type hc6 hb6 (by decide)
  have hbxr1 : bx ≠ r1 := by obtain ⟨f, hm, _⟩ := hl6; obtain ⟨es, ck, ho⟩ := hm.obj; intro e; have := hc6; rw [e, ho] at this; cases this
  simp only [s3, ncV_p, ov_s, faV_p, ia_arr2 hrg, hwn, Nat.zero_add, Nat.mul_one, ldV_c, cel_fin hb6 hw9 hw9, bin_add]
  refine st_intro hb6 rfl (by simp [finC_len, Value.cells]; omega) (by simp [Value.cells, Value.oneCell']) fun h7 ho7 hc7 => ?_
  rw [show (Value.int .i64 (IntKind.i64.wrap ((vst xs i).kn w w + 1))).cells.toList = [.int .i64 (IntKind.i64.wrap ((vst xs i).kn w w + 1))] from rfl, over_fin1 _ _ _ _ _ hw9 hw9] at hc7
  have hbump : kset (vst xs i).kn w (cset1 ((vst xs i).kn w) w (IntKind.i64.wrap ((vst xs i).kn w w + 1))) = bump (vst xs i).kn w := rfl
  rw [hbump] at hc7
  have hbx7 : h7 bx = some (.cells (actC (act xs i)).toArray ty_api_Act (0, 0)) := by rw [ho7 _ hbxb]; exact hc6
  have hl7 : LeftR h7 r1 (vst xs i).left := hl6.of (ho7 _ (Ne.symm hbr1))
  have k7 : KeepL [b, r1] h6 h7 := KeepL.one ho7 (by simp)
  simp only [ld_box (n := 3) hbx7 rfl, ov_s]
  refine moves_ok b r1 w (bump (vst xs i).kn w) (vst xs i).left _ (act xs i) hw9 hw0 hbr1 hc7 hl7 fun h9 kp9 hb9 hl9 => ?_
  have k9 : KeepL [b, r1] h6 h9 := k7.trans kp9
  have hbx9 : h9 bx = some (.cells (actC (act xs i)).toArray ty_api_Act (0, 0)) := kp9 _ _ hbx7 (by simp [hbxb, hbxr1])
  rw [← ek] at hb9
  rw [← el] at hl9
  have hx9 : Ext h0 h9 := fun q o e => k9 _ _ (hx6 _ _ e) (by simp [ne_fresh e fb, ne_fresh e fr1])
  have hkr : ∀ {e : TypeId} {u : Value} {n : Nat} {ys : List Value}, (e = ty_int ∨ e = ty_Sl_int) → Row 1 e h6 u n ys → Row 1 e h9 u n ys := fun {e u n ys} he r => Row.keepL r k9 fun g hg hm => by
    obtain ⟨c, hcg⟩ := Row.cells r hg
    simp only [List.mem_cons, List.not_mem_nil, or_false] at hm
    rcases hm with rfl | rfl
    · exact absurd rfl (ne_type hcg hb6 (by rcases he with rfl | rfl <;> decide))
    · obtain ⟨f, hm, _⟩ := hl6; obtain ⟨es, ck, ho⟩ := hm.obj; rw [ho] at hcg; cases hcg
  have x9 : ∀ h', Ext h9 h' → cel h' bx 0 = some (.int .i64 (act xs i).who) := fun h' e => by simp [cel_of (e _ _ hbx9), actC]
  simp only [x9 _ (Ext.refl _), ov_s, ncV_p, s3, faV_p, Nat.zero_add, ia_arr2 hrg, hwn, slArr, faV_p, ldV_c]
  refine bs_none bsSlI fun ev h10 he10 hr10 hen hef => ?_
  refine ⟨x9 _ he10, ?_⟩
  have hn : cels h10 b (w * 10) (10 * 1) = some (rowI 10 ((vst xs (i + 1)).kn w)) := cels_mk fun k hk => cel_fin (he10 _ _ hb9) hw9 hk
  refine app_intro unI apI (by omega) hr10 hn (by simp [rowI, Value.oneCell']) (by unfold maxLen; omega) (by omega) fun v' h11 hr11 hk11 ha11 => ?_
  have hfr : ∀ g, rowOf v' = some g → h9 g = none := fun g hg => by
    rcases ha11 with ha | ⟨q, ha, hq⟩
    · rw [ha] at hg; exact hef g hg
    · rw [ha] at hg; cases hg; exact fresh_of he10 hq
  have hx11 : Ext h9 h11 := fun q o e => hk11 _ _ (he10 _ _ e) fun e' => by have := hef q e'.symm; rw [this] at e; cases e
  have ro11 := (hkr (.inr rfl) hkn6.1).ext hx11
  obtain ⟨g, q1, q2, q3⟩ := row1_at (k := .i64) ro11 hlt
  rw [hrow'] at q1
  cases q1
  simp only [s4, q2, ov_s]
  refine row1_st ro11 hrow' hlt (by rcases hr11.2 with ⟨rfl, _⟩ | ⟨_, _, _, rfl, _⟩ <;> rfl) (by rcases hr11.2 with ⟨rfl, _⟩ | ⟨_, _, _, rfl, _⟩ <;> rfl) fun h12 ho12 ro12 => ?_
  obtain ⟨cg2, hcg2⟩ := Row.cells ro11 hrow'
  have hk12 : ∀ {u : Value} {n : Nat} {ys : List Value}, Row 1 ty_int h11 u n ys → Row 1 ty_int h12 u n ys := fun {u n ys} r => r.of_at fun g hg => ho12 g (by
    obtain ⟨c, hcg⟩ := Row.cells r hg
    exact ne_type hcg hcg2 (by decide))
  refine hJ _ _ _ ⟨rfl, by simp, fun k => if k = i then v' else kv k, fun q o e => (ho12 q (ne_fresh e fgo)).trans (hx11 _ _ (hx9 _ _ e)), (ho12 b hbgo).trans (hx11 _ _ hb9), (hl9.ext hx11).of (ho12 r1 (Ne.symm hgor1)), row1_congr ro12 fun k _ => ?_, fun k hk => ?_⟩
  · by_cases h2 : k = i
    · simp [h2]
    · by_cases h1 : k < i
      · simp [h1, h2, show k < i + 1 by omega]
      · simp [h1, h2, show ¬ k < i + 1 by omega]
  · by_cases h2 : k = i
    · subst h2
      simp only [if_pos]
      refine ⟨fun _ => hk12 ?_, fun hcf => by rw [hct] at hcf; cases hcf⟩
      rw [hwn]
      have : seqF 10 (fun q => [Value.int .i64 ((vst xs (k + 1)).kn w q)]) = rowI 10 ((vst xs (k + 1)).kn w) := by simp [seqF, rowI, List.flatMap_def, List.range_succ]
      rw [this]; simpa using hr11
    · simp only [if_neg h2]
      refine ⟨fun hc => hk12 ((hkr (.inl rfl) ((hkn6.2 k (by omega)).1 hc)).ext hx11), (hkn6.2 k (by omega)).2⟩
end Go.Proofs.Ytfeglbniahebaaa
