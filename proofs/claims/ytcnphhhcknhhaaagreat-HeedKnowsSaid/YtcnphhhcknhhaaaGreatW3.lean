/- Words, plain data and contracts of the Go functions that this claim reaches. No condition beyond the hypotheses that each theorem states. -/
import Derived.Test.YtcnphhhcknhhaaaGreatW2
set_option linter.unusedSimpArgs false
set_option linter.unusedVariables false
namespace Go.Den
open Go
set_option linter.unusedVariables false
set_option linter.unusedSimpArgs false
def ltS (a b : ByteArray) : Bool := Op.bytesLess a.toList b.toList
theorem bl_irrefl : ∀ x : List UInt8, Op.bytesLess x x = false
  | [] => rfl
  | a :: x => by
    have : ¬ a < a := UInt8.lt_irrefl a
    simp [Op.bytesLess, this, bl_irrefl x]
theorem bl_trans : ∀ {x y z : List UInt8}, Op.bytesLess x y = true → Op.bytesLess y z = true → Op.bytesLess x z = true
  | _, _, [], _, h => by simp [Op.bytesLess] at h
  | [], _, _ :: _, _, _ => rfl
  | _ :: _, [], _, h, _ => by simp [Op.bytesLess] at h
  | a :: x, b :: y, c :: z, h1, h2 => by
    simp only [Op.bytesLess, Bool.or_eq_true, decide_eq_true_eq, Bool.and_eq_true, beq_iff_eq] at *
    rcases h1 with h1 | ⟨rfl, h1⟩
    · rcases h2 with h2 | ⟨rfl, h2⟩
      · exact .inl (UInt8.lt_trans h1 h2)
      · exact .inl h1
    · rcases h2 with h2 | ⟨rfl, h2⟩
      · exact .inl h2
      · exact .inr ⟨rfl, bl_trans h1 h2⟩
theorem bl_total : ∀ x y : List UInt8, Op.bytesLess x y = false → Op.bytesLess y x = false → x = y
  | [], [], _, _ => rfl
  | [], _ :: _, h, _ => by simp [Op.bytesLess] at h
  | _ :: _, [], _, h => by simp [Op.bytesLess] at h
  | a :: x, b :: y, h1, h2 => by
    simp only [Op.bytesLess, Bool.or_eq_false_iff, decide_eq_false_iff_not, Bool.and_eq_false_iff, beq_eq_false_iff_ne] at *
    have hab : a = b := by
      have h3 := h1.1
      have h4 := h2.1
      rw [UInt8.lt_iff_toNat_lt] at h3 h4
      exact UInt8.toNat_inj.1 (by omega)
    subst hab
    congr 1
    exact bl_total x y (by rcases h1.2 with h | h; exact absurd rfl h; exact h) (by rcases h2.2 with h | h; exact absurd rfl h; exact h)
theorem ltS_irrefl (a : ByteArray) : ltS a a = false := bl_irrefl _
theorem ltS_trans {a b c : ByteArray} (h : ltS a b = true) (k : ltS b c = true) : ltS a c = true := bl_trans h k
theorem ltS_total {a b : ByteArray} (h : ltS a b = false) (k : ltS b a = false) : a = b := str_inj (bl_total _ _ h k)
theorem ltS_asymm {a b : ByteArray} (h : ltS a b = true) : ltS b a = false := by
  cases k : ltS b a with
  | false => rfl
  | true => have := ltS_trans h k; rw [ltS_irrefl] at this; cases this
def SrtK (l : List ByteArray) : Prop := l.Pairwise fun a b => ltS a b = true
def pos (l : List ByteArray) (u : ByteArray) : Nat := (l.takeWhile fun k => ltS k u).length
theorem SrtK.at {l : List ByteArray} (s : SrtK l) {i j : Nat} (hi : i < j) (hj : j < l.length) : ltS (l[i]'(by omega)) l[j] = true := List.pairwise_iff_getElem.1 s i j (by omega) hj hi
/-- Where a text stands: all ahead are less, none from there on. -/
theorem pos_of {l : List ByteArray} (u : ByteArray) {i : Nat} (hi : i ≤ l.length) (h1 : ∀ k (hk : k < l.length), k < i → ltS l[k] u = true) (h2 : ∀ (hk : i < l.length), ltS l[i] u = false) : pos l u = i := by
  induction l generalizing i with
  | nil => simp at hi; subst hi; rfl
  | cons a l ih =>
    unfold pos
    cases i with
    | zero =>
      have := h2 (by simp)
      simp only [List.getElem_cons_zero] at this
      simp [List.takeWhile_cons, this]
    | succ i =>
      have h0 := h1 0 (by simp) (by omega)
      simp only [List.getElem_cons_zero] at h0
      have := ih (i := i) (by simpa using hi) (fun k hk hki => by have := h1 (k + 1) (by simpa using hk) (by omega); rwa [List.getElem_cons_succ] at this) (fun hk => by have := h2 (by simpa using hk); rwa [List.getElem_cons_succ] at this)
      unfold pos at this
      simp [List.takeWhile_cons, h0, this]
theorem pos_spec {l : List ByteArray} (s : SrtK l) (u : ByteArray) : pos l u ≤ l.length ∧ (∀ k (hk : k < l.length), k < pos l u → ltS l[k] u = true) ∧ (∀ k (hk : k < l.length), pos l u ≤ k → ltS l[k] u = false) := by
  induction l with
  | nil => simp [pos]
  | cons a l ih =>
    have s' : SrtK l := (List.pairwise_cons.1 s).2
    obtain ⟨h1, h2, h3⟩ := ih s'
    cases ha : ltS a u with
    | true =>
      have e : pos (a :: l) u = pos l u + 1 := by simp [pos, List.takeWhile_cons, ha]
      rw [e]
      refine ⟨by simpa using h1, fun k hk hkp => ?_, fun k hk hkp => ?_⟩
      · cases k with
        | zero => simpa using ha
        | succ k => rw [List.getElem_cons_succ]; exact h2 k (by simpa using hk) (by omega)
      · cases k with
        | zero => omega
        | succ k => rw [List.getElem_cons_succ]; exact h3 k (by simpa using hk) (by omega)
    | false =>
      have e : pos (a :: l) u = 0 := by simp [pos, List.takeWhile_cons, ha]
      rw [e]
      refine ⟨by omega, fun k hk hkp => by omega, fun k hk _ => ?_⟩
      cases k with
      | zero => simpa using ha
      | succ k =>
        have hk' : k < l.length := by simpa using hk
        have := (List.pairwise_cons.1 s).1 l[k] (List.getElem_mem _)
        rw [List.getElem_cons_succ]
        cases hk2 : ltS l[k] u with
        | false => rfl
        | true => rw [ltS_trans this hk2] at ha; cases ha
theorem mem_pos {l : List ByteArray} (s : SrtK l) (u : ByteArray) : u ∈ l ↔ ∃ h : pos l u < l.length, l[pos l u] = u := by
  obtain ⟨h1, h2, h3⟩ := pos_spec s u
  constructor
  · intro h
    obtain ⟨i, hi, rfl⟩ := List.getElem_of_mem h
    have hip : pos l l[i] = i := by
      refine pos_of _ (by omega) (fun k hk hki => s.at hki hi) (fun hk => ltS_irrefl _)
    exact ⟨by rw [hip]; exact hi, by simp only [hip]⟩
  · rintro ⟨h, e⟩; rw [← e]; exact List.getElem_mem _
def keysB (b : Book) : List ByteArray := b.map (·.1)
theorem entOf_none {b : Book} {u : ByteArray} (h : u ∉ keysB b) : entOf b u = ent0 := by
  induction b with
  | nil => rfl
  | cons x b ih =>
    obtain ⟨k, e⟩ := x
    simp only [keysB, List.map_cons, List.mem_cons, not_or] at h
    simp only [entOf, if_neg (Ne.symm h.1)]
    exact ih h.2
/-- What a book must be for its readers. -/
structure BkG (b : Book) : Prop where
  so : SrtK (keysB b)
  len : b.length < 1000000
  ss : ∀ u, (entOf b u).ss.length < 1000000
theorem BkG.nil : BkG [] := ⟨List.Pairwise.nil, by simp, fun u => by simp [entOf, ent0]⟩
end Go.Den
namespace Go.Proofs.YtcnphhhcknhhaaaGreat
open Go Go.Den Go.MapKept
set_option linter.unusedSimpArgs false
set_option linter.unusedVariables false
set_option maxRecDepth 20000
theorem isNaN_ok (a : ByteArray) {h : Heap} {K : Value → Heap → Prop} (hk : K (.bool false) h) : callM P fn_cmp_isNaN_string #[.string a] h K := by
  apply e_cmp_isNaN_string
  unfold d_cmp_isNaN_string
  simpa using hk
theorem sisNaN_ok (a : ByteArray) {h : Heap} {K : Value → Heap → Prop} (hk : K (.bool false) h) : callM P fn_slices_isNaN_string #[.string a] h K := by
  apply e_slices_isNaN_string
  unfold d_slices_isNaN_string
  simpa using hk
theorem cmpLess_ok (a b : ByteArray) {h : Heap} {K : Value → Heap → Prop} (hk : K (.bool (ltS a b)) h) : callM P fn_cmp_Less_string #[.string a, .string b] h K := by
  apply e_cmp_Less_string
  unfold d_cmp_Less_string
  refine isNaN_ok a ?_
  unfold d_cmp_Less_string_1
  have e : binV .lss 3 false (.string a) (.string b) = some (.bool (ltS a b)) := rfl
  simp -implicitDefEqProofs [e]
  exact hk
theorem str_at {F : Heap} {v : Value} {l : List ByteArray} (x : Sl 1 StrR F v l) {i : Nat} (hi : i < l.length) {k : IntKind} : ∃ b p, iaV (some (none, 1)) v (.int k i) = some (.pointer (some ⟨b, p, none⟩)) ∧ ∀ h', Ext F h' → cel h' b p = some (.string l[i]) := by
  obtain ⟨b, p, c, h1, h2, h3⟩ := x.at (k := k) (i := i) (by omega) (by omega)
  refine ⟨b, p, h1, fun h' e => ?_⟩
  have hc : c = [.string l[i]] := h3.1
  subst hc
  have := (cels_get (cels_ext e h2)).2 0 (by simp)
  simpa using this
set_option maxHeartbeats 1000000 in
theorem bs_ok (l : List ByteArray) (so : SrtK l) (u : ByteArray) {h : Heap} {v : Value} (x : Sl 1 StrR h v l) (hl : l.length < 1000000) {K : Value → Heap → Prop} (hk : K (.tuple #[.int .i64 (pos l u), .bool (l.any fun k => decide (k = u))]) h) :
    callM P fn_slices_BinarySearch_string_string #[v, .string u] h K := by
  apply e_slices_BinarySearch_string_string
  unfold d_slices_BinarySearch_string_string
  have hlen := x.len
  simp -implicitDefEqProofs only [hlen, ov_s]
  rw [seqM_eq]
  unfold d_slices_BinarySearch_string_string_1
  refine loop_on [0, 1, 6] (fun s h' => h' = h ∧ ∃ i j : Nat, i ≤ j ∧ j ≤ l.length ∧ s 7 = .int .i64 i ∧ s 8 = .int .i64 j ∧ (∀ k (hk : k < l.length), k < i → ltS l[k] u = true) ∧ ∀ k (hk : k < l.length), j ≤ k → ltS l[k] u = false)
    (fun s _ => (num (s 8) - num (s 7)).toNat) ⟨rfl, 0, l.length, by omega, by omega, rfl, by simp, fun k _ h => by omega, fun k hk h => by omega⟩ ?_
  rintro s h1 hf ⟨rfl, i, j, hij, hj, s7, s8, hlo, hhi⟩
  have s0 : s 0 = v := by simpa using hf 0 (by simp)
  have s1 : s 1 = .string u := by simpa using hf 1 (by simp)
  have s6 : s 6 = .int .i64 l.length := by simpa using hf 6 (by simp)
  unfold d_slices_BinarySearch_string_string_2
  simp -implicitDefEqProofs only [s7, s8, bin_lss, ov_s, cd_b]
  refine ⟨fun hc => ?_, fun hc => ?_⟩
  · have hlt : i < j := by have : ((i : Int) < j) := by simpa using hc
                           omega
    obtain ⟨m, hm⟩ : ∃ m : Nat, m = (i + j) / 2 := ⟨_, rfl⟩
    have hm1 : i ≤ m ∧ m < j := by omega
    have w1 : IntKind.i64.wrap ((i : Int) + j) = (i + j : Nat) := by rw [wrap64_id (by omega) (by omega)]; omega
    have w2 : IntKind.u64.wrap ((i + j : Nat) : Int) = (i + j : Nat) := wrapU_id (by omega) (by omega)
    have w3 : binV .shr 2 true (.int .u64 ((i + j : Nat) : Int)) (.int .u64 1) = some (.int .u64 m) := by
      have : ((i + j : Nat) : Int).fdiv 2 = m := by rw [Int.fdiv_eq_ediv_of_nonneg _ (by omega)]; omega
      simp -implicitDefEqProofs [binV, intV, IntKind.bits]
      rw [← this]; rfl
    have w4 : IntKind.i64.wrap (m : Int) = m := wrap64_id (by omega) (by omega)
    have w5 : IntKind.i64.wrap ((m : Int) + 1) = m + 1 := wrap64_id (by omega) (by omega)
    obtain ⟨b, p, i1, i2⟩ := str_at x (k := .i64) (i := m) (by omega)
    unfold d_slices_BinarySearch_string_string_3
    simp -implicitDefEqProofs only [s0, s1, s7, s8, bin_add, ov_s, w1, cvV_i, w2, w3, w4, i1, ldV_c, i2 _ (Ext.refl _)]
    refine cmpLess_ok _ _ ?_
    unfold d_slices_BinarySearch_string_string_4 d_slices_BinarySearch_string_string_5 d_slices_BinarySearch_string_string_6
    cases hlm : ltS l[m] u with
    | true =>
      simp -implicitDefEqProofs [w5, s0, s1, s6, s7, s8]
      refine ⟨⟨m + 1, j, by omega, by omega, by simp, rfl, fun k hk hkm => ?_, hhi⟩, by omega⟩
      by_cases e : k = m
      · subst e; exact hlm
      · exact ltS_trans (so.at (show k < m by omega) (by omega)) hlm
    | false =>
      simp -implicitDefEqProofs [s0, s1, s6, s7, s8]
      refine ⟨⟨i, m, by omega, by omega, rfl, rfl, hlo, fun k hk hkm => ?_⟩, by omega⟩
      by_cases e : k = m
      · subst e; exact hlm
      · cases hh : ltS l[k] u with
        | false => rfl
        | true => rw [ltS_trans (so.at (show m < k by omega) hk) hh] at hlm; cases hlm
  · have : i = j := by have : ¬ ((i : Int) < j) := by simpa using hc
                       omega
    subst this
    have hp : pos l u = i := pos_of u hj (fun k hk hki => hlo k hk hki) (fun hk => hhi i hk (by omega))
    have hany : (l.any fun k => decide (k = u)) = true ↔ u ∈ l := by simp
    have hmem := mem_pos so u
    rw [hp] at hk
    simp -implicitDefEqProofs only [lpM_e, blkM_e, if_true, thenM_n]
    unfold d_slices_BinarySearch_string_string_7
    by_cases hil : i < l.length
    · obtain ⟨b, p, i1, i2⟩ := str_at x (k := .i64) (i := i) hil
      have hil' : (i : Int) < l.length := by omega
      by_cases heq : l[i] = u
      · have : (l.any fun k => decide (k = u)) = true := hany.2 (heq ▸ List.getElem_mem hil)
        simp -implicitDefEqProofs [s0, s1, s6, s7, s8, hil', hil, i1, i2 _ (Ext.refl _), heq]
        rw [this] at hk; exact hk
      · have : (l.any fun k => decide (k = u)) = false := by
          cases hh : (l.any fun k => decide (k = u)) with
          | false => rfl
          | true => obtain ⟨h3, h4⟩ := hmem.1 (hany.1 hh); simp only [hp] at h4; exact absurd h4 heq
        simp -implicitDefEqProofs [s0, s1, s6, s7, s8, hil', hil, i1, i2 _ (Ext.refl _), heq]
        refine sisNaN_ok _ ?_
        rw [this] at hk; exact hk
    · have hil' : ¬ ((i : Int) < l.length) := by omega
      have : (l.any fun k => decide (k = u)) = false := by
        cases hh : (l.any fun k => decide (k = u)) with
        | false => rfl
        | true => obtain ⟨h3, h4⟩ := hmem.1 (hany.1 hh); rw [hp] at h3; exact absurd h3 hil
      simp -implicitDefEqProofs [s0, s1, s6, s7, s8, hil', hil]
      rw [this] at hk; exact hk
end Go.Proofs.YtcnphhhcknhhaaaGreat
namespace Go.Proofs.YtcnphhhcknhhaaaGreat
open Go Go.Den Go.MapKept
set_option linter.unusedSimpArgs false
set_option linter.unusedVariables false
set_option maxRecDepth 20000
def strC1 (s : ByteArray) : List Value := [.string s]
theorem all_succ {α : Type} {p : α → Bool} {l : List α} {i : Nat} (h : i < l.length) (ha : (l.take i).all p = true) (hn : p l[i] = true) : (l.take (i + 1)).all p = true := by
  rw [List.take_succ_eq_append_getElem h, List.all_append, ha]; simp [hn]
set_option maxHeartbeats 1000000 in
theorem modBad_ok (x : OpD) (xw : OpW x) {h : Heap} {v : Value} (hv : Sl 1 StrR h v x.users) (hl : x.users.length < 1000000) {K : Value → Heap → Prop}
    (hk : ∀ h', Ext h h' → K (.bool (badB x)) h') : callM P fn_model_Bad #[.agg (opC x v).toArray] h K := by
  apply e_model_Bad
  unfold d_model_Bad
  refine nw_agg fun v1 h1 n1 e1 c1 => ?_
  simp -implicitDefEqProofs only [opC] at c1
  have hk1 := hk h1 e1
  rw [seqM_eq]
  unfold d_model_Bad_1
  by_cases k1 : x.kind = 1
  · unfold d_model_Bad_2
    simp -implicitDefEqProofs [ld_at c1, cel_of c1, stm_at c1, stm_upd, ld_same, cel_same, over, k1]
    refine hashRight_ok _ ?_
    unfold d_model_Bad_3
    simp +contextual -implicitDefEqProofs [ld_at c1, cel_of c1, stm_at c1, stm_upd, ld_same, cel_same, over]
    refine gM_call0 (a := .bool (decide (0 ≤ x.id ∧ x.id ≤ 255 ∧ 1 ≤ x.status ∧ x.status ≤ 9 ∧ 0 ≤ x.prio ∧ x.prio ≤ 9))) (fun hc K' hk' => sessRight_ok _ _ _ hk') ?_
    simp +contextual -implicitDefEqProofs
    refine kb hk1 ?_
    rw [badB, if_pos k1]
    cases nameB x.user <;> simp
  unfold d_model_Bad_4
  simp -implicitDefEqProofs [ld_at c1, cel_of c1, stm_at c1, stm_upd, ld_same, cel_same, over, k1]
  rw [seqM_eq]
  unfold d_model_Bad_5 d_model_Bad_6
  by_cases k2 : x.kind = 2 ∨ x.kind = 3
  · have hb : badB x = !(nameB x.user && decide (0 ≤ x.id ∧ x.id ≤ 255)) := by rw [badB, if_neg k1, if_pos k2]
    rw [hb] at hk1
    unfold d_model_Bad_7 d_model_Bad_8
    rcases k2 with k2 | k2
    all_goals
      simp -implicitDefEqProofs [ld_at c1, cel_of c1, stm_at c1, stm_upd, ld_same, cel_same, over, k2]
      refine hashRight_ok _ ?_
      unfold d_model_Bad_9
      simp +contextual -implicitDefEqProofs [ld_at c1, cel_of c1, stm_at c1, stm_upd, ld_same, cel_same, over]
      refine gM_call0 (a := .bool (decide (0 ≤ x.id ∧ x.id ≤ 255))) (fun hc K' hk' => within_ok _ _ _ hk') ?_
      simp +contextual -implicitDefEqProofs
      refine kb hk1 ?_
      cases nameB x.user <;> simp
  have k2' : ¬ x.kind = 2 := fun h => k2 (.inl h)
  have k3' : ¬ x.kind = 3 := fun h => k2 (.inr h)
  unfold d_model_Bad_7 d_model_Bad_10
  simp -implicitDefEqProofs [k2', k3']
  rw [seqM_eq]
  unfold d_model_Bad_11 d_model_Bad_12 d_model_Bad_13
  by_cases k4 : x.kind = 4 ∨ x.kind = 6 ∨ x.kind = 7
  · have hb : badB x = !nameB x.user := by rw [badB, if_neg k1, if_neg k2, if_pos k4]
    rw [hb] at hk1
    unfold d_model_Bad_14 d_model_Bad_15
    rcases k4 with k4 | k4 | k4
    all_goals
      simp -implicitDefEqProofs [ld_at c1, cel_of c1, stm_at c1, stm_upd, ld_same, cel_same, over, k4]
      refine hashRight_ok _ ?_
      simp -implicitDefEqProofs
      exact hk1
  have k4' : ¬ x.kind = 4 := fun h => k4 (.inl h)
  have k6' : ¬ x.kind = 6 := fun h => k4 (.inr (.inl h))
  have k7' : ¬ x.kind = 7 := fun h => k4 (.inr (.inr h))
  unfold d_model_Bad_14 d_model_Bad_16
  simp -implicitDefEqProofs [k4', k6', k7']
  by_cases k5 : x.kind = 5
  · have hb : badB x = !(decide (1 ≤ x.users.length ∧ x.users.length ≤ 8) && x.users.all nameB) := by rw [badB, if_neg k1, if_neg k2, if_neg k4, if_pos k5]
    have hlen := hv.len
    have hk' : ∀ h', Ext h1 h' → K (.bool (!(decide (1 ≤ x.users.length ∧ x.users.length ≤ 8) && x.users.all nameB))) h' := fun h' e => by rw [← hb]; exact hk h' (e1.trans e)
    unfold d_model_Bad_17
    simp -implicitDefEqProofs [k5]
    rw [seqM_eq]
    unfold d_model_Bad_18
    simp -implicitDefEqProofs [ld_at c1, cel_of c1, stm_at c1, stm_upd, ld_same, cel_same, over, hlen]
    refine loop_on [1, 47, 48] (fun s h' => h' = h1 ∧ ∃ i : Nat, i ≤ x.users.length ∧ s 49 = .int .i64 i ∧ (x.users.take i).all nameB = true) (fun s _ => (x.users.length - num (s 49)).toNat) ⟨rfl, 0, by omega, by simp, by simp⟩ ?_
    rintro s h2 hf ⟨rfl, i, hi, s49, hall⟩
    have s1 : s 1 = ptr v1 := by simpa using hf 1 (by simp)
    have s47 : s 47 = v := by simpa using hf 47 (by simp)
    have s48 : s 48 = .int .i64 x.users.length := by simpa using hf 48 (by simp)
    unfold d_model_Bad_19
    simp -implicitDefEqProofs only [s48, s49, bin_lss, ov_s, cd_b]
    refine ⟨fun hc => ?_, fun hc => ?_⟩
    · have hlt : i < x.users.length := by have : ((i : Int) < x.users.length) := by simpa using hc
                                          omega
      obtain ⟨b, o, i1, i2⟩ := str_at hv (k := .i64) hlt
      have hw : IntKind.i64.wrap ((i : Int) + 1) = i + 1 := wrap64_id (by omega) (by omega)
      unfold d_model_Bad_20
      simp -implicitDefEqProofs only [s47, s49, i1, ov_s, ldV_c, i2 _ e1]
      refine hashRight_ok _ ?_
      unfold d_model_Bad_21 d_model_Bad_22
      cases hn : nameB x.users[i] with
      | true =>
        simp -implicitDefEqProofs [s49, hw, s1, s47, s48]
        refine ⟨⟨i + 1, by omega, by simp, ?_⟩, by omega⟩
        simpa using all_succ hlt hall hn
      | false =>
        simp -implicitDefEqProofs
        refine kb (hk' _ (Ext.refl _)) ?_
        have : x.users.all nameB = false := by rw [List.all_eq_false]; exact ⟨_, List.getElem_mem hlt, by simp [hn]⟩
        simp -implicitDefEqProofs [this]
    · have : i = x.users.length := by have : ¬ ((i : Int) < x.users.length) := by simpa using hc
                                      omega
      subst this
      rw [List.take_length] at hall
      unfold d_model_Bad_23
      simp -implicitDefEqProofs [s1, ld_at c1, cel_of c1, stm_at c1, stm_upd, ld_same, cel_same, over, hlen]
      refine within_ok _ _ _ ?_
      simp -implicitDefEqProofs
      refine kb (hk' _ (Ext.refl _)) ?_
      have e : decide (1 ≤ x.users.length ∧ x.users.length ≤ 8) = decide ((1 : Int) ≤ x.users.length ∧ (x.users.length : Int) ≤ 8) := decide_eq_decide.2 (by omega)
      rw [hall, e]; simp
  · have hb : badB x = !decide (x.kind = 8 ∨ x.kind = 9) := by rw [badB, if_neg k1, if_neg k2, if_neg k4, if_neg k5]
    rw [hb] at hk1
    unfold d_model_Bad_24
    simp -implicitDefEqProofs [k5]
    rw [seqM_eq]
    unfold d_model_Bad_25 d_model_Bad_26
    by_cases k8 : x.kind = 8
    · simp -implicitDefEqProofs [ld_at c1, cel_of c1, stm_at c1, stm_upd, ld_same, cel_same, over, k8]
      exact kb hk1 (by simp [k8])
    · by_cases k9 : x.kind = 9
      · simp -implicitDefEqProofs [ld_at c1, cel_of c1, stm_at c1, stm_upd, ld_same, cel_same, over, k9]
        exact kb hk1 (by simp [k9])
      · simp -implicitDefEqProofs [ld_at c1, cel_of c1, stm_at c1, stm_upd, ld_same, cel_same, over, k1, k2', k3', k4', k5, k6', k7', k8, k9]
        exact kb hk1 (by simp [k8, k9])
set_option maxHeartbeats 1000000 in
theorem short_ok (x : OpD) {h : Heap} {v : Value} (hv : Sl 1 StrR h v x.users) {K : Value → Heap → Prop} (hk : ∀ h', Ext h h' → K (.bool (shortB x)) h') : callM P fn_doormanref10_Short #[.agg (opC x v).toArray] h K := by
  apply e_doormanref10_Short
  unfold d_doormanref10_Short
  refine nw_agg fun v1 h1 n1 e1 c1 => ?_
  simp -implicitDefEqProofs only [opC] at c1
  have hlen := hv.len
  have hk1 := hk h1 e1
  by_cases h40 : x.user.size ≤ 40
  rotate_left
  · have : (40 : Int) < x.user.size := by omega
    simp -implicitDefEqProofs [ld_at c1, cel_of c1, stm_at c1, stm_upd, ld_same, cel_same, over, this]
    exact kb hk1 (by simp [shortB, h40])
  have h40' : ¬ (40 : Int) < x.user.size := by omega
  by_cases h20 : x.users.length ≤ 20
  rotate_left
  · have : (20 : Int) < x.users.length := by omega
    simp -implicitDefEqProofs [ld_at c1, cel_of c1, stm_at c1, stm_upd, ld_same, cel_same, over, h40', this, hlen]
    exact kb hk1 (by simp [shortB, h20])
  have h20' : ¬ (20 : Int) < x.users.length := by omega
  unfold d_doormanref10_Short_1
  simp -implicitDefEqProofs [ld_at c1, cel_of c1, stm_at c1, stm_upd, ld_same, cel_same, over, h40', h20', hlen]
  rw [seqM_eq]
  unfold d_doormanref10_Short_2
  refine loop_on [1] (fun s h' => h' = h1 ∧ ∃ i : Nat, i ≤ x.users.length ∧ s 3 = .int .i64 i ∧ (x.users.take i).all (fun s => decide (s.size ≤ 40)) = true) (fun s _ => (x.users.length - num (s 3)).toNat) ⟨rfl, 0, by omega, rfl, by simp⟩ ?_
  rintro s h2 hf ⟨rfl, i, hi, s3, hall⟩
  have s1 : s 1 = ptr v1 := by simpa using hf 1 (by simp)
  unfold d_doormanref10_Short_3
  simp -implicitDefEqProofs only [s1, faV_p, ov_s, ldV_c, Nat.zero_add, cel_of c1, List.getElem?_toArray, List.getElem?_cons_succ, List.getElem?_cons_zero, hlen, s3, bin_lss, cd_b]
  refine ⟨fun hc => ?_, fun hc => ?_⟩
  · have hlt : i < x.users.length := by have : ((i : Int) < x.users.length) := by simpa using hc
                                        omega
    obtain ⟨b, o, i1, i2⟩ := str_at hv (k := .i64) hlt
    have hw : IntKind.i64.wrap ((i : Int) + 1) = i + 1 := wrap64_id (by omega) (by omega)
    unfold d_doormanref10_Short_4 d_doormanref10_Short_5 d_doormanref10_Short_6
    by_cases hn : x.users[i].size ≤ 40
    · have hn' : ¬ (40 : Int) < x.users[i].size := by omega
      simp -implicitDefEqProofs [s1, s3, ld_at c1, cel_of c1, stm_at c1, stm_upd, ld_same, cel_same, over, i1, i2 _ e1, hn', hw]
      refine ⟨⟨i + 1, by omega, by simp, ?_⟩, by omega⟩
      simpa using all_succ (p := fun s : ByteArray => decide (s.size ≤ 40)) hlt hall (by simp [hn])
    · have hn' : (40 : Int) < x.users[i].size := by omega
      simp -implicitDefEqProofs [s1, s3, ld_at c1, cel_of c1, stm_at c1, stm_upd, ld_same, cel_same, over, i1, i2 _ e1, hn']
      refine kb hk1 ?_
      have : (x.users.all fun s => decide (s.size ≤ 40)) = false := by rw [List.all_eq_false]; exact ⟨_, List.getElem_mem hlt, by simp [hn]⟩
      simp -implicitDefEqProofs [shortB, this]
  · have : i = x.users.length := by have : ¬ ((i : Int) < x.users.length) := by simpa using hc
                                    omega
    subst this
    rw [List.take_length] at hall
    simp -implicitDefEqProofs
    refine kb hk1 ?_
    simp -implicitDefEqProofs [shortB, hall, h40, h20]
end Go.Proofs.YtcnphhhcknhhaaaGreat
namespace Go.Proofs.YtcnphhhcknhhaaaGreat
open Go Go.Den Go.MapKept
set_option linter.unusedSimpArgs false
set_option linter.unusedVariables false
set_option maxRecDepth 20000
theorem unSlInt : P.underlying ty_Sl_int = some (.slice ty_int) := by kernel_rfl
theorem apInt : apC P ty_int = some (1, 8, 1) := by kernel_rfl
def NatR (_ : Heap) (c : List Value) (n : Nat) : Prop := c = [.int .i64 n]
theorem NatR.ext {h h' : Heap} {c : List Value} {x : Nat} (_ : Ext h h') (r : NatR h c x) : NatR h' c x := r
end Go.Proofs.YtcnphhhcknhhaaaGreat
namespace Go.Den
open Go
set_option linter.unusedVariables false
set_option linter.unusedSimpArgs false
theorem RP.next_lt {p : RP} {ph : Int} (h : p.at_ + 1 < p.k) : p.next ph = { p with at_ := p.at_ + 1 } := if_pos h
theorem RP.next_ge {p : RP} {ph : Int} (h : ¬ p.at_ + 1 < p.k) : p.next ph = { p with ph := ph, at_ := 0 } := if_neg h
/-- What holds all along. -/
structure TrB (c : Cfg) (ss : List Nat) (us : List ByteArray) (p : RP) (H : Hall) : Prop where
  ss : p.ss = ss
  err : p.err = 0
  ep : ∀ j, p.ep j = 0
  hc : H.c = c
  cl : H.t.closed = false
  v0 : ∀ s, (H.ss s).v = 0
  us : p.users = us
  va : p.vals = []
def E0 (c : Cfg) : Bool := decide (evn c.epochs ≤ 0)
/-- Where it stands behind so many steps. -/
inductive Tr (c : Cfg) (ss : List Nat) (us : List ByteArray) (n : Nat) (p : RP) (H : Hall) : Prop
  | a (b : TrB c ss us p H) (w : ∀ s, (H.ss s).who = 0) (h : n < ss.length) (ph : p.ph = 0) (at_ : p.at_ = n) (va : p.valid = true) (sp : p.spent = (decide (0 < n) && E0 c))
  | b (b : TrB c ss us p H) (w : ∀ s, (H.ss s).who = 0) (h : ss.length ≤ n ∧ n < 2 * ss.length) (ph : p.ph = 1) (at_ : p.at_ = n - ss.length) (va : p.valid = true) (sp : p.spent = E0 c)
  | c (b : TrB c ss us p H) (w : ∀ s, (H.ss s).who = 0) (h : n = 2 * ss.length) (ph : p.ph = 2) (at_ : p.at_ = 0) (va : p.valid = true) (sp : p.spent = E0 c)
  | d (b : TrB c ss us p H) (w : ∀ s, (H.ss s).who = 0) (h : 2 * ss.length < n ∧ n ≤ 3 * ss.length) (ph : p.ph = 3) (at_ : p.at_ = n - 2 * ss.length - 1) (va : p.valid = (decide (n = 2 * ss.length + 1) || !E0 c)) (sp : p.spent = E0 c) (tc : p.t.closed = false) (lo : p.looked = (2 * ss.length : Nat))
  | e (h : n = 3 * ss.length + 1) (he : E0 c = false) (ph : p.ph = 8) (pl : p.placed = (2 * ss.length : Nat)) (er : p.err = 0) (vl : p.vals.length = us.length)
  | f (b : TrB c ss us p H) (w : ∀ j, p.at_ ≤ j → j < ss.length → (H.ss (ss.getD j 0)).who = 0) (h : 3 * ss.length + 1 ≤ n ∧ n < 4 * ss.length + 1) (he : E0 c = true) (ph : p.ph = 4) (at_ : p.at_ = n - 3 * ss.length - 1)
  | g (b : TrB c ss us p H) (h : n = 4 * ss.length + 1) (he : E0 c = true) (ph : p.ph = 5) (at_ : p.at_ = 0)
  | i (b : TrB c ss us p H) (h : 4 * ss.length + 2 ≤ n ∧ n < 5 * ss.length + 2) (he : E0 c = true) (ph : p.ph = 6) (at_ : p.at_ = n - 4 * ss.length - 2) (tc : p.t.closed = false) (lo : p.looked = (4 * ss.length + 1 : Nat)) (pl : p.placed = (4 * ss.length + 1 : Nat))
  | j (b : TrB c ss us p H) (h : 5 * ss.length + 2 ≤ n ∧ n < 6 * ss.length + 2) (he : E0 c = true) (ph : p.ph = 7) (at_ : p.at_ = n - 5 * ss.length - 2) (tc : p.t.closed = false) (lo : p.looked = (4 * ss.length + 1 : Nat)) (pl : p.placed = (4 * ss.length + 1 : Nat))
  | k (h : n = 6 * ss.length + 2) (he : E0 c = true) (ph : p.ph = 8) (pl : p.placed = (4 * ss.length + 1 : Nat)) (er : p.err = 0)
def Nof (c : Cfg) (ss : List Nat) : Nat := if E0 c then 6 * ss.length + 2 else 3 * ss.length + 1
theorem TrB.lock {c : Cfg} {ss : List Nat} {us : List ByteArray} {p p' : RP} {H : Hall} (b : TrB c ss us p H) (who : Int) (s : Nat) (h1 : p'.ss = p.ss) (h2 : p'.err = p.err) (h3 : p'.ep = p.ep) (h4 : p'.users = p.users) (h5 : p'.vals = p.vals) : TrB c ss us p' (H.lock who s) := by
  refine ⟨h1.trans b.ss, h2.trans b.err, fun j => by rw [h3]; exact b.ep j, ?_, ?_, fun t => ?_, h4.trans b.us, h5.trans b.va⟩
  · unfold Hall.lock; split <;> exact b.hc
  · unfold Hall.lock; split <;> exact b.cl
  · unfold Hall.lock; split
    · simp only [Hall.put, sput, Hall.did]; split
      · rename_i h; exact b.v0 s
      · exact b.v0 t
    · exact b.v0 t
theorem TrB.unlock {c : Cfg} {ss : List Nat} {us : List ByteArray} {p p' : RP} {H : Hall} (b : TrB c ss us p H) (who : Int) (s : Nat) (h1 : p'.ss = p.ss) (h2 : p'.err = p.err) (h3 : p'.ep = p.ep) (h4 : p'.users = p.users) (h5 : p'.vals = p.vals) : TrB c ss us p' (H.unlock who s) := by
  refine ⟨h1.trans b.ss, h2.trans b.err, fun j => by rw [h3]; exact b.ep j, ?_, ?_, fun t => ?_, h4.trans b.us, h5.trans b.va⟩
  · unfold Hall.unlock; split <;> exact b.hc
  · unfold Hall.unlock; split <;> exact b.cl
  · unfold Hall.unlock; split
    · simp only [Hall.put, sput, Hall.did]; split
      · rename_i h; exact b.v0 s
      · exact b.v0 t
    · exact b.v0 t
theorem lock_who {H : Hall} {who : Int} {s t : Nat} (h : t ≠ s) : ((H.lock who s).ss t).who = (H.ss t).who := by
  unfold Hall.lock; split
  · simp [Hall.put, sput, Hall.did, h]
  · rfl
theorem Tr.next {c : Cfg} {ss : List Nat} {us : List ByteArray} {n : Nat} {p : RP} {H : Hall} (t : Tr c ss us n p H) (hk : 0 < ss.length) (nd : ss.Nodup) (hn : n < Nof c ss) (h0 : 0 ≤ c.epochs) : Tr c ss us (n + 1) (p.step H n).1 (p.step H n).2 := by
  have hne : ss ≠ [] := fun h => by rw [h] at hk; simp at hk
  have hstep : ∀ (b : TrB c ss us p H), p.enabled H = true → p.step H n = p.go H n := fun b he => by simp [RP.step, he, b.ss, hne]
  have hep : validB 0 0 c.epochs = !E0 c := by
    have : (decide (0 < evn c.epochs)) = !E0 c := by
      unfold E0; rw [← decide_not]; exact decide_eq_decide.2 (by omega)
    simp [validB, this]
  have did : ∀ (b : TrB c ss us p H) (p' : RP) (who kind pl : Int), p'.ss = p.ss → p'.err = p.err → (∀ j, p'.ep j = 0) → p'.users = p.users → p'.vals = p.vals → TrB c ss us p' (H.did who kind pl) := fun b p' who kind pl h1 h2 h3 h4 h5 => ⟨h1.trans b.ss, h2.trans b.err, h3, b.hc, b.cl, b.v0, h4.trans b.us, h5.trans b.va⟩
  cases t with
  | a b w h ph at_ va sp =>
    rw [hstep b (by simp [RP.enabled, ph])]
    have hk' : p.k = ss.length := by simp [RP.k, b.ss]
    have hsp : (p.spent || decide (evn H.c.epochs ≤ (H.ss p.s).v)) = E0 c := by
      rw [b.hc, b.v0, sp]
      show ((decide (0 < n) && E0 c) || E0 c) = E0 c
      cases E0 c <;> simp
    have hgo : p.go H n = (RP.next { p with ep := epset p.ep p.at_ (H.ss p.s).v, spent := p.spent || decide (evn H.c.epochs ≤ (H.ss p.s).v) } 1, H.epoch p.who p.s) := by simp [RP.go, ph]
    rw [hgo, hsp, b.v0]
    have he : ∀ j, epset p.ep p.at_ 0 j = 0 := fun j => by unfold epset; split; rfl; exact b.ep j
    by_cases hl : n + 1 < ss.length
    · have : RP.next { p with ep := epset p.ep p.at_ 0, spent := E0 c } 1 = { p with ep := epset p.ep p.at_ 0, spent := E0 c, at_ := n + 1 } := by
        refine (RP.next_lt ?_).trans ?_
        · show p.at_ + 1 < p.k; omega
        · simp [at_]
      rw [this]
      exact .a (did b _ _ _ _ rfl rfl he rfl rfl) w hl ph rfl va (by simp)
    · have : RP.next { p with ep := epset p.ep p.at_ 0, spent := E0 c } 1 = { p with ep := epset p.ep p.at_ 0, spent := E0 c, ph := 1, at_ := 0 } := by
        refine (RP.next_ge ?_).trans rfl
        show ¬ p.at_ + 1 < p.k; omega
      rw [this]
      exact .b (did b _ _ _ _ rfl rfl he rfl rfl) w (by omega) rfl (by simp; omega) va rfl
  | b b w h ph at_ va sp =>
    rw [hstep b (by simp [RP.enabled, ph])]
    have hk' : p.k = ss.length := by simp [RP.k, b.ss]
    have hgo : p.go H n = (RP.next { p with seen := seenset p.seen p.s (H.ss p.s).snap } 2, H.snap p.who p.s) := by simp [RP.go, ph]
    rw [hgo]
    by_cases hl : n + 1 < 2 * ss.length
    · have : RP.next { p with seen := seenset p.seen p.s (H.ss p.s).snap } 2 = { p with seen := seenset p.seen p.s (H.ss p.s).snap, at_ := p.at_ + 1 } := by
        refine (RP.next_lt ?_).trans rfl
        show p.at_ + 1 < p.k; omega
      rw [this]
      exact .b (did b _ _ _ _ rfl rfl b.ep rfl rfl) w (by omega) ph (by simp; omega) va sp
    · have : RP.next { p with seen := seenset p.seen p.s (H.ss p.s).snap } 2 = { p with seen := seenset p.seen p.s (H.ss p.s).snap, ph := 2, at_ := 0 } := by
        refine (RP.next_ge ?_).trans rfl
        show ¬ p.at_ + 1 < p.k; omega
      rw [this]
      exact .c (did b _ _ _ _ rfl rfl b.ep rfl rfl) w (by omega) rfl rfl va sp
  | c b w h ph at_ va sp =>
    rw [hstep b (by simp [RP.enabled, ph])]
    have hgo : p.go H n = ({ p with t := H.t, looked := n, ph := 3 }, H.look p.who) := by simp [RP.go, ph]
    rw [hgo]
    exact .d (did b _ _ _ _ rfl rfl b.ep rfl rfl) w (by omega) rfl (by simp; omega) (by simp [va, h]) sp b.cl (by simp [h])
  | d b w h ph at_ va sp tc lo =>
    rw [hstep b (by simp [RP.enabled, ph])]
    have hk' : p.k = ss.length := by simp [RP.k, b.ss]
    obtain ⟨q, hq⟩ : ∃ q : RP, q = { p with valid := p.valid && validB (p.ep p.at_) (H.ss p.s).v H.c.epochs } := ⟨_, rfl⟩
    have hgo : p.go H n = (if q.last then (q.next 8).judge else q.next 8, H.epoch p.who p.s) := by simp [RP.go, ph, hq]
    have hqv : q.valid = !E0 c := by
      rw [hq]
      show (p.valid && validB (p.ep p.at_) (H.ss p.s).v H.c.epochs) = !E0 c
      rw [b.ep, b.v0, b.hc, hep, va]
      cases E0 c <;> simp
    have q1 : q.ss = p.ss ∧ q.err = p.err ∧ q.ep = p.ep ∧ q.at_ = p.at_ ∧ q.k = p.k ∧ q.t = p.t ∧ q.looked = p.looked ∧ q.spent = p.spent ∧ q.ph = p.ph ∧ q.users = p.users ∧ q.vals = p.vals := by rw [hq]; exact ⟨rfl, rfl, rfl, rfl, rfl, rfl, rfl, rfl, rfl, rfl, rfl⟩
    obtain ⟨x1, x2, x3, x4, x5, x6, x7, x8, x9, x10, x11⟩ := q1
    rw [hgo]
    clear hgo hq
    by_cases hl : n + 1 ≤ 3 * ss.length
    · have hlast : q.last = false := by simp [RP.last, x4, x5, hk', at_]; omega
      rw [hlast]
      have : q.next 8 = { q with at_ := q.at_ + 1 } := RP.next_lt (by omega)
      simp only [Bool.false_eq_true, if_false, this]
      refine .d (did b _ _ _ _ x1 x2 (fun j => by show q.ep j = 0; rw [x3]; exact b.ep j) x10 x11) w (by omega) (x9.trans ph) (by show q.at_ + 1 = _; omega) ?_ (x8.trans sp) (by show q.t.closed = false; rw [x6]; exact tc) (x7.trans lo)
      show q.valid = _
      rw [hqv]
      have h2 : ¬ n = 2 * ss.length := by omega
      simp [h2]
    · have hlast : q.last = true := by simp [RP.last, x4, x5, hk', at_]; omega
      rw [hlast]
      have : q.next 8 = { q with ph := 8, at_ := 0 } := RP.next_ge (by omega)
      simp only [if_true, this]
      cases hE : E0 c with
      | false =>
        have hj : RP.judge { q with ph := 8, at_ := 0 } = { RP.answer { q with ph := 8, at_ := 0 } with ph := 8 } := by simp [RP.judge, hqv, hE]
        rw [hj]
        have ha : RP.answer { q with ph := 8, at_ := 0 } = { q with ph := 8, at_ := 0, placed := q.looked, vals := q.vals ++ q.users.map (RP.tell { q with ph := 8, at_ := 0 }) } := by simp [RP.answer, x6, tc]
        rw [ha]
        exact .e (by omega) hE rfl (x7.trans lo) (x2.trans b.err) (by simp [x11, b.va, x10, b.us])
      | true =>
        have hj : RP.judge { q with ph := 8, at_ := 0 } = { q with ph := 4, at_ := 0 } := by simp [RP.judge, hqv, hE, x6, tc, x8, sp]
        rw [hj]
        exact .f (did b _ _ _ _ x1 x2 (fun j => by show q.ep j = 0; rw [x3]; exact b.ep j) x10 x11) (fun j _ _ => w _) (by omega) hE rfl (by simp; omega)
  | e h he ph pl er vl => unfold Nof at hn; rw [he] at hn; simp at hn; omega
  | f b w h he ph at_ =>
    have hk' : p.k = ss.length := by simp [RP.k, b.ss]
    have hat : p.at_ < ss.length := by omega
    have hs : p.s = ss.getD p.at_ 0 := by simp [RP.s, b.ss]
    rw [hstep b (by simp [RP.enabled, ph, hs]; exact w _ (Nat.le_refl _) hat)]
    have hgo : p.go H n = (p.next 5, H.lock p.who p.s) := by simp [RP.go, ph]
    rw [hgo]
    by_cases hl : p.at_ + 1 < ss.length
    · have : p.next 5 = { p with at_ := p.at_ + 1 } := RP.next_lt (by omega)
      rw [this]
      refine .f (b.lock _ _ rfl rfl rfl rfl rfl) (fun j h1 h2 => ?_) (by omega) he ph (by simp; omega)
      have h1' : p.at_ + 1 ≤ j := h1
      rw [lock_who, w j (by omega) h2]
      rw [hs]
      intro e
      rw [List.getD_eq_getElem?_getD, List.getD_eq_getElem?_getD, List.getElem?_eq_getElem h2, List.getElem?_eq_getElem hat] at e
      exact List.pairwise_iff_getElem.1 nd p.at_ j hat h2 (by omega) (show ss[p.at_] = ss[j] from e.symm)
    · have : p.next 5 = { p with ph := 5, at_ := 0 } := RP.next_ge (by omega)
      rw [this]
      exact .g (b.lock _ _ rfl rfl rfl rfl rfl) (by omega) he rfl rfl
  | g b h he ph at_ =>
    rw [hstep b (by simp [RP.enabled, ph])]
    have hgo : p.go H n = ({ p with t := H.t, looked := n, ph := 6, placed := n }, H.look p.who) := by simp [RP.go, ph]
    rw [hgo]
    exact .i (did b _ _ _ _ rfl rfl b.ep rfl rfl) (by omega) he rfl (by simp; omega) b.cl (by simp [h]) (by simp [h])
  | i b h he ph at_ tc lo pl =>
    rw [hstep b (by simp [RP.enabled, ph])]
    have hk' : p.k = ss.length := by simp [RP.k, b.ss]
    have hgo : p.go H n = (RP.next { p with seen := seenset p.seen p.s (H.ss p.s).book } 7, H.read p.who p.s) := by simp [RP.go, ph]
    rw [hgo]
    by_cases hl : p.at_ + 1 < ss.length
    · have : RP.next { p with seen := seenset p.seen p.s (H.ss p.s).book } 7 = { p with seen := seenset p.seen p.s (H.ss p.s).book, at_ := p.at_ + 1 } := by
        refine (RP.next_lt ?_).trans rfl
        show p.at_ + 1 < p.k; omega
      rw [this]
      exact .i (did b _ _ _ _ rfl rfl b.ep rfl rfl) (by omega) he ph (by simp; omega) tc lo pl
    · have : RP.next { p with seen := seenset p.seen p.s (H.ss p.s).book } 7 = { p with seen := seenset p.seen p.s (H.ss p.s).book, ph := 7, at_ := 0 } := by
        refine (RP.next_ge ?_).trans rfl
        show ¬ p.at_ + 1 < p.k; omega
      rw [this]
      exact .j (did b _ _ _ _ rfl rfl b.ep rfl rfl) (by omega) he rfl (by simp; omega) tc lo pl
  | j b h he ph at_ tc lo pl =>
    rw [hstep b (by simp [RP.enabled, ph])]
    have hk' : p.k = ss.length := by simp [RP.k, b.ss]
    have hgo : p.go H n = (if p.last then (p.next 8).answer else p.next 8, H.unlock p.who p.s) := by simp [RP.go, ph]
    rw [hgo]
    by_cases hl : p.at_ + 1 < ss.length
    · have hlast : p.last = false := by simp [RP.last, hk', hl]
      have : p.next 8 = { p with at_ := p.at_ + 1 } := RP.next_lt (by omega)
      rw [hlast]
      simp only [Bool.false_eq_true, if_false, this]
      exact .j (b.unlock _ _ rfl rfl rfl rfl rfl) (by omega) he ph (by simp; omega) tc lo pl
    · have hlast : p.last = true := by simp [RP.last, hk', hl]
      have : p.next 8 = { p with ph := 8, at_ := 0 } := RP.next_ge (by omega)
      rw [hlast]
      simp only [if_true, this]
      have ha : RP.answer { p with ph := 8, at_ := 0 } = { p with ph := 8, at_ := 0, placed := p.looked, vals := p.vals ++ p.users.map (RP.tell { p with ph := 8, at_ := 0 }) } := by simp [RP.answer, tc]
      rw [ha]
      exact .k (by omega) he rfl lo b.err
  | k h he ph pl er => unfold Nof at hn; rw [he] at hn; simp at hn; omega
end Go.Den
namespace Go.Den
open Go
set_option linter.unusedVariables false
set_option linter.unusedSimpArgs false
/-- What a reading's helpers ask of it. -/
structure RG (r : RP) : Prop where
  us : r.users.length ≤ 1000
  of : r.of ≤ 1000
  k8 : r.k ≤ 8
  tr : 0 ≤ r.tries ∧ r.tries ≤ 4
  at_ : r.at_ < 1000000
  sn : ∀ i b, r.seen i = some b → BkG b
/-- What the steps of processes ask of a table. -/
structure HG (H : Hall) : Prop where
  n8 : H.n ≤ 8
  ac : H.acts.length < 900000
  sn : ∀ s, s < H.n → BkG (H.ss s).snap ∧ BkG (H.ss s).book
  uv : ∀ s, s < H.n → U64 (H.ss s).v ∧ U64 (H.ss s).bound
  wh : ∀ s, s < H.n → 0 ≤ (H.ss s).who ∧ (H.ss s).who ≤ 1000
  cw : CfgW H.c
  c8 : H.c.stripes ≤ 8
/-- Where a reading may stand. -/
structure RS (r : RP) (H : Hall) : Prop where
  at_ : r.ph ≠ 8 → r.ss ≠ [] → r.at_ < r.k
  ss : ∀ s ∈ r.ss, s < H.n
  vn : r.ph ≠ 8 → r.vals = []
  ph : 0 ≤ r.ph ∧ r.ph ≤ 8
  e0 : r.ss = [] → r.ph = 0 ∨ r.ph = 8
  ep : ∀ i, i < r.k → U64 (r.ep i)
  wr : -1000 ≤ r.who ∧ r.who ≤ 900
theorem RP.s_lt {r : RP} (h : r.at_ < r.k) : r.s = r.ss[r.at_]'h := by
  show r.ss.getD r.at_ 0 = _
  rw [List.getD_eq_getElem?_getD, List.getElem?_eq_getElem h]; rfl
theorem HG.did {H : Hall} (x : HG H) (w k p : Int) (h : H.acts.length + 1 < 900000) : HG (H.did w k p) := ⟨x.n8, by simp [Hall.did]; omega, x.sn, x.uv, x.wh, x.cw, x.c8⟩
theorem HG.put {H : Hall} (x : HG H) {s : Nat} {y : Strp} (h1 : BkG y.snap ∧ BkG y.book) (h2 : U64 y.v ∧ U64 y.bound) (h3 : 0 ≤ y.who ∧ y.who ≤ 1000) : HG (H.put s y) :=
  ⟨x.n8, x.ac, fun t ht => by simp only [Hall.put, sput]; split; exact h1; exact x.sn t ht, fun t ht => by simp only [Hall.put, sput]; split; exact h2; exact x.uv t ht, fun t ht => by simp only [Hall.put, sput]; split; exact h3; exact x.wh t ht, x.cw, x.c8⟩
theorem HG.lock {H : Hall} (x : HG H) {w : Int} {s : Nat} (hs : s < H.n) (hw : w ≤ 900) (h : H.acts.length + 1 < 900000) : HG (H.lock w s) := by
  unfold Hall.lock
  split
  · rename_i hc
    have hc' : 0 ≤ w ∧ (H.ss s).who = 0 := by simpa [canTake] using hc
    exact (x.did _ _ _ h).put (x.sn s hs) (x.uv s hs) (by simp; omega)
  · exact x
theorem HG.unlock {H : Hall} (x : HG H) {w : Int} {s : Nat} (hs : s < H.n) (h : H.acts.length + 1 < 900000) : HG (H.unlock w s) := by
  unfold Hall.unlock
  split
  · exact (x.did _ _ _ h).put (x.sn s hs) (x.uv s hs) (by simp)
  · exact x
theorem lock_n (H : Hall) (w : Int) (s : Nat) : (H.lock w s).n = H.n ∧ (H.lock w s).c = H.c ∧ (H.lock w s).acts.length ≤ H.acts.length + 1 := by
  unfold Hall.lock; split
  · exact ⟨rfl, rfl, by simp [Hall.put, Hall.did]⟩
  · exact ⟨rfl, rfl, by omega⟩
theorem unlock_n (H : Hall) (w : Int) (s : Nat) : (H.unlock w s).n = H.n ∧ (H.unlock w s).c = H.c ∧ (H.unlock w s).acts.length ≤ H.acts.length + 1 := by
  unfold Hall.unlock; split
  · exact ⟨rfl, rfl, by simp [Hall.put, Hall.did]⟩
  · exact ⟨rfl, rfl, by omega⟩
/-- What of a process stays, and what of it a step makes. -/
structure RK (n : Nat) (r : RP) : Prop where
  rg : RG r
  at_ : r.ph ≠ 8 → r.ss ≠ [] → r.at_ < r.k
  ss : ∀ s ∈ r.ss, s < n
  vn : r.ph ≠ 8 → r.vals = []
  ph : 0 ≤ r.ph ∧ r.ph ≤ 8
  e0 : r.ss = [] → r.ph = 0 ∨ r.ph = 8
  ep : ∀ i, i < r.k → U64 (r.ep i)
  wr : -1000 ≤ r.who ∧ r.who ≤ 900
theorem RK.rs {r : RP} {H : Hall} (x : RK H.n r) : RS r H := ⟨x.at_, x.ss, x.vn, x.ph, x.e0, x.ep, x.wr⟩
theorem RK.next {n : Nat} {r : RP} (x : RK n r) (h8 : r.ph ≠ 8) (h0 : r.ss ≠ []) {ph : Int} (hp : 0 ≤ ph ∧ ph ≤ 8) : RK n (r.next ph) := by
  have hk : 0 < r.k := by unfold RP.k; exact List.length_pos_iff.2 h0
  have g := x.rg
  have k8 := g.k8
  by_cases hl : r.at_ + 1 < r.k
  · rw [RP.next_lt hl]
    exact ⟨⟨g.us, g.of, g.k8, g.tr, by simp; omega, g.sn⟩, fun _ _ => hl, x.ss, fun _ => x.vn h8, x.ph, fun h => absurd h h0, x.ep, x.wr⟩
  · rw [RP.next_ge hl]
    exact ⟨⟨g.us, g.of, g.k8, g.tr, by simp, g.sn⟩, fun _ _ => hk, x.ss, fun _ => x.vn h8, hp, fun h => absurd h h0, x.ep, x.wr⟩
theorem RK.begin {n : Nat} {r : RP} (x : RK n r) (hv : r.vals = []) : RK n r.begin := by
  have g := x.rg
  exact ⟨⟨g.us, g.of, g.k8, g.tr, by simp [RP.begin], fun i b h => by simp [RP.begin] at h⟩, fun _ h0 => by show 0 < r.k; unfold RP.k; exact List.length_pos_iff.2 h0, x.ss, fun _ => hv, by simp [RP.begin], fun _ => .inl rfl, fun i _ => by simp [RP.begin, U64], x.wr⟩
theorem RK.answer {n : Nat} {r : RP} (x : RK n r) (h0 : r.ss ≠ []) {ph : Int} (hp : ph = 8) : RK n { r.answer with ph := ph } := by
  have g := x.rg
  subst hp
  unfold RP.answer
  split
  · exact ⟨⟨g.us, g.of, g.k8, g.tr, g.at_, g.sn⟩, fun h => absurd rfl h, x.ss, fun h => absurd rfl h, by simp, fun h => absurd h h0, x.ep, x.wr⟩
  · exact ⟨⟨g.us, g.of, g.k8, g.tr, g.at_, g.sn⟩, fun h => absurd rfl h, x.ss, fun h => absurd rfl h, by simp, fun h => absurd h h0, x.ep, x.wr⟩
theorem answer_ph (r : RP) : r.answer.ph = r.ph := by unfold RP.answer; split <;> rfl
theorem RK.judge {n : Nat} {r : RP} (x : RK n r) (h0 : r.ss ≠ []) (hv : r.vals = []) (hat : r.at_ < r.k) : RK n r.judge := by
  have g := x.rg
  unfold RP.judge
  split
  · exact x.answer h0 rfl
  · split
    · exact ⟨⟨g.us, g.of, g.k8, g.tr, g.at_, g.sn⟩, fun _ _ => hat, x.ss, fun _ => hv, by simp, fun h => absurd h h0, x.ep, x.wr⟩
    · rename_i h1 h2
      have ht : ¬ r.tries = 0 := by intro h; simp [h] at h2
      have := g.tr
      refine RK.begin (r := { r with tries := r.tries - 1 }) ⟨⟨g.us, g.of, g.k8, by simp; omega, g.at_, g.sn⟩, x.at_, x.ss, x.vn, x.ph, x.e0, x.ep, x.wr⟩ hv
theorem RK.step {r : RP} {H : Hall} (x : RK H.n r) (g : HG H) (n : Int) (ha : H.acts.length + 1 < 900000) :
    RK H.n (r.step H n).1 ∧ HG (r.step H n).2 ∧ (r.step H n).2.n = H.n ∧ (r.step H n).2.c = H.c ∧ (r.step H n).2.acts.length ≤ H.acts.length + 1 := by
  have rg := x.rg
  unfold RP.step
  split
  · exact ⟨x, g, rfl, rfl, Nat.le_succ _⟩
  rename_i hen
  have hen : r.enabled H = true := by simpa using hen
  have h8 : ¬ r.ph = 8 := fun h => by simp [RP.enabled, h] at hen
  split
  · rename_i h0
    exact ⟨⟨⟨rg.us, rg.of, rg.k8, rg.tr, rg.at_, rg.sn⟩, fun h => absurd rfl h, x.ss, fun _ => rfl, by simp, fun _ => .inr rfl, x.ep, x.wr⟩, g, rfl, rfl, Nat.le_succ _⟩
  rename_i h0
  have hat := x.at_ h8 h0
  have hs : r.s < H.n := by rw [RP.s_lt hat]; exact x.ss _ (List.getElem_mem _)
  have hv := x.vn h8
  have hw := x.wr
  have did : ∀ k p : Int, HG (H.did r.who k p) ∧ (H.did r.who k p).n = H.n ∧ (H.did r.who k p).c = H.c ∧ (H.did r.who k p).acts.length ≤ H.acts.length + 1 := fun k p => ⟨g.did _ _ _ ha, rfl, rfl, by simp [Hall.did]⟩
  unfold RP.go
  split
  · refine ⟨RK.next (r := { r with ep := epset r.ep r.at_ (H.ss r.s).v, spent := r.spent || decide (evn H.c.epochs ≤ (H.ss r.s).v) }) ⟨⟨rg.us, rg.of, rg.k8, rg.tr, rg.at_, rg.sn⟩, x.at_, x.ss, x.vn, x.ph, x.e0, fun i hi => ?_, x.wr⟩ h8 h0 (by omega), did _ _⟩
    simp only [epset]; split
    · exact (g.uv _ hs).1
    · exact x.ep i hi
  split
  · refine ⟨RK.next (r := { r with seen := seenset r.seen r.s (H.ss r.s).snap }) ⟨⟨rg.us, rg.of, rg.k8, rg.tr, rg.at_, fun i b h => ?_⟩, x.at_, x.ss, x.vn, x.ph, x.e0, x.ep, x.wr⟩ h8 h0 (by omega), did _ _⟩
    simp only [seenset] at h; split at h
    · cases h; exact (g.sn _ hs).1
    · exact rg.sn i b h
  split
  · exact ⟨⟨⟨rg.us, rg.of, rg.k8, rg.tr, rg.at_, rg.sn⟩, fun _ _ => hat, x.ss, fun _ => hv, by simp, fun h => absurd h h0, x.ep, x.wr⟩, did _ _⟩
  split
  · exact ⟨⟨⟨rg.us, rg.of, rg.k8, rg.tr, rg.at_, rg.sn⟩, fun _ _ => hat, x.ss, fun _ => hv, by simp, fun h => absurd h h0, x.ep, x.wr⟩, did _ _⟩
  split
  · have y : RK H.n { r with valid := r.valid && validB (r.ep r.at_) (H.ss r.s).v H.c.epochs } := ⟨⟨rg.us, rg.of, rg.k8, rg.tr, rg.at_, rg.sn⟩, x.at_, x.ss, x.vn, x.ph, x.e0, x.ep, x.wr⟩
    refine ⟨?_, did _ _⟩
    have yn := y.next h8 h0 (ph := 8) (by omega)
    show RK H.n (if RP.last { r with valid := r.valid && validB (r.ep r.at_) (H.ss r.s).v H.c.epochs } then RP.judge (RP.next { r with valid := r.valid && validB (r.ep r.at_) (H.ss r.s).v H.c.epochs } 8) else RP.next { r with valid := r.valid && validB (r.ep r.at_) (H.ss r.s).v H.c.epochs } 8)
    split
    · rename_i hl
      have hl' : (!decide (r.at_ + 1 < r.k)) = true := hl
      have hge : ¬ r.at_ + 1 < r.k := by simpa using hl'
      have e := RP.next_ge (p := { r with valid := r.valid && validB (r.ep r.at_) (H.ss r.s).v H.c.epochs }) (ph := 8) hge
      refine yn.judge (by rw [e]; exact h0) (by rw [e]; exact hv) (by rw [e]; show 0 < r.k; omega)
    · exact yn
  split
  · exact ⟨x.next h8 h0 (by omega), g.lock hs hw.2 ha, lock_n _ _ _⟩
  split
  · refine ⟨RK.next (r := { r with seen := seenset r.seen r.s (H.ss r.s).book }) ⟨⟨rg.us, rg.of, rg.k8, rg.tr, rg.at_, fun i b h => ?_⟩, x.at_, x.ss, x.vn, x.ph, x.e0, x.ep, x.wr⟩ h8 h0 (by omega), did _ _⟩
    simp only [seenset] at h; split at h
    · cases h; exact (g.sn _ hs).2
    · exact rg.sn i b h
  · refine ⟨?_, g.unlock hs ha, unlock_n _ _ _⟩
    have yn := x.next h8 h0 (ph := 8) (by omega)
    show RK H.n (if r.last then (r.next 8).answer else r.next 8)
    split
    · rename_i hl
      have hl' : (!decide (r.at_ + 1 < r.k)) = true := hl
      have hge : ¬ r.at_ + 1 < r.k := by simpa using hl'
      have e := RP.next_ge (p := r) (ph := 8) hge
      have := yn.answer (by rw [e]; exact h0) rfl (ph := 8)
      have e8 : (r.next 8).answer.ph = 8 := by rw [answer_ph, e]
      have ee : ∀ q : RP, q.ph = 8 → { q with ph := 8 } = q := fun q h => by cases q; simp at h; subst h; rfl
      rw [ee _ e8] at this
      exact this
    · exact yn
end Go.Den
namespace Go.Proofs.YtcnphhhcknhhaaaGreat
open Go Go.Den Go.MapKept
set_option linter.unusedSimpArgs false
set_option linter.unusedVariables false
set_option maxRecDepth 20000
def rpC (r : RP) (uv sv ev : Value) (mr : Nat) (vv : Value) : List Value := [.int .i64 r.who, uv, .int .i64 r.of, sv, .int .i64 r.ph, .int .i64 r.at_, .int .i64 r.tries, ev, .bool r.valid, .bool r.spent, .map (some mr),
  .int .u64 r.t.now, .int .u64 r.t.seq, .bool r.t.closed, .int .i64 r.looked, .int .i64 r.placed, .int .i64 r.err, vv, .slice none 0 0, .bool false]
def SeenR (F h : Heap) (mr : Nat) (s : Int → Option Book) : Prop := ∃ f, MapR (.int .i64) h mr f ∧ ∀ i : Int, match s i with
  | some b => ∃ a c, f (.int .i64 i) = some (.agg #[a, c]) ∧ BookR F a c b
  | none => f (.int .i64 i) = none
structure RPX (T : Tags) (h : Heap) (g : Tag) (p : Nat) (r : RP) (uv sv ev : Value) (mr : Nat) (vv : Value) : Prop where
  hp : h p = some (.cells (rpC r uv sv ev mr vv).toArray ty_read_Proc (0, 0))
  tp : T p = g ++ [0]
  us : Sl 1 StrR (fz T h) uv r.users
  ss : Sl 1 NatR (fz T h) sv r.ss
  ep : Rw T h (g ++ [1]) 1 ty_uint64 ev r.k (seqF r.k fun i => [.int .u64 (r.ep i)])
  mt : T mr = g ++ [2]
  sn : SeenR (fz T h) h mr r.seen
  vs : Sl 3 PresR (fz T h) vv r.vals
  vn : r.vals = [] → vv = .slice none 0 0
def RPR (T : Tags) (h : Heap) (g : Tag) (p : Nat) (r : RP) : Prop := ∃ uv sv ev mr vv, RPX T h g p r uv sv ev mr vv
theorem SeenR.kp {U : Tag → Prop} {T T' : Tags} {h h' : Heap} {g : Tag} {mr : Nat} {s : Int → Option Book} (x : SeenR (fz T h) h mr s) (k : Kp U T h T' h') (ht : T mr = g) (u : ¬ U g) (n : ¬ U []) : SeenR (fz T' h') h' mr s := by
  obtain ⟨f, m, hs⟩ := x
  obtain ⟨o, ho⟩ := m.lt
  refine ⟨f, m.of (by rw [(k.at ho ht u).1, ho]), fun i => ?_⟩
  have := hs i
  cases hsi : s i with
  | none => simpa [hsi] using this
  | some b => simp only [hsi] at this ⊢; obtain ⟨a, c, h1, h2⟩ := this; exact ⟨a, c, h1, h2.ext (k.ext n)⟩
theorem RPX.kp {U : Tag → Prop} {T T' : Tags} {h h' : Heap} {g : Tag} {p : Nat} {r : RP} {uv sv ev : Value} {mr : Nat} {vv : Value} (x : RPX T h g p r uv sv ev mr vv) (k : Kp U T h T' h') (o : Off U g) (n : ¬ U []) : RPX T' h' g p r uv sv ev mr vv := by
  obtain ⟨f, m, _⟩ := x.sn
  obtain ⟨om, hom⟩ := m.lt
  exact ⟨(k.at x.hp x.tp (o.at _)).1, (k.at x.hp x.tp (o.at _)).2, x.us.ext (@StrR.ext) (k.ext n), x.ss.ext (@NatR.ext) (k.ext n), x.ep.kp k (o.at _), (k.at hom x.mt (o.at _)).2, x.sn.kp k x.mt (o.at _) n,
    x.vs.ext (@PresR.ext) (k.ext n), x.vn⟩
theorem RPR.kp {U : Tag → Prop} {T T' : Tags} {h h' : Heap} {g : Tag} {p : Nat} {r : RP} (x : RPR T h g p r) (k : Kp U T h T' h') (o : Off U g) (n : ¬ U []) : RPR T' h' g p r := by
  obtain ⟨uv, sv, ev, mr, vv, x⟩ := x
  exact ⟨uv, sv, ev, mr, vv, x.kp k o n⟩
/-- The process's own block is written. -/
theorem RPX.st {T : Tags} {h : Heap} {g : Tag} {p : Nat} {r r' : RP} {uv sv ev : Value} {mr : Nat} {vv vv' : Value} (x : RPX T h g p r uv sv ev mr vv) (w : Wf T h) {c : Array Value} (hc : c = (rpC r' uv sv ev mr vv').toArray)
    (h1 : r'.users = r.users) (h2 : r'.ss = r.ss) (h3 : r'.ep = r.ep) (h4 : r'.seen = r.seen) (h5 : Sl 3 PresR (fz T h) vv' r'.vals) (h6 : r'.vals = [] → vv' = .slice none 0 0) :
    Only (fun t => t = g ++ [0]) T h T (upd h p (.cells c ty_read_Proc (0, 0))) ∧ RPX T (upd h p (.cells c ty_read_Proc (0, 0))) g p r' uv sv ev mr vv' := by
  have o1 : Only (fun t => t = g ++ [0]) T h T (upd h p (.cells c ty_read_Proc (0, 0))) := Only.upd w x.hp x.tp
  have e := o1.ext (by simp)
  have hk : r'.k = r.k := by simp [RP.k, h2]
  refine ⟨o1, by rw [upd_same', hc], x.tp, by rw [h1]; exact x.us.ext (@StrR.ext) e, by rw [h2]; exact x.ss.ext (@NatR.ext) e, by rw [hk, h3]; exact x.ep.kp o1.k (ne_tag (by simp)), x.mt, by rw [h4]; exact x.sn.kp o1.k x.mt (ne_tag (by simp)) (by simp), h5.ext (@PresR.ext) e, h6⟩
theorem mpSeen : mpC P ty_Map_int_omap_Map_string_doorman_book_Entry = some (ty_int, .int .i64, .agg #[.slice none 0 0, .slice none 0 0]) := by kernel_rfl
theorem RPX.cp {T : Tags} {h : Heap} {g : Tag} {p : Nat} {r : RP} {uv sv ev : Value} {mr : Nat} {vv : Value} (x : RPX T h g p r uv sv ev mr vv) : h p = some (.cells #[.int .i64 r.who, uv, .int .i64 r.of, sv, .int .i64 r.ph, .int .i64 r.at_, .int .i64 r.tries, ev, .bool r.valid, .bool r.spent, .map (some mr),
  .int .u64 r.t.now, .int .u64 r.t.seq, .bool r.t.closed, .int .i64 r.looked, .int .i64 r.placed, .int .i64 r.err, vv, .slice none 0 0, .bool false] ty_read_Proc (0, 0)) := x.hp
theorem RPX.fin {T : Tags} {h : Heap} {g : Tag} {p : Nat} {r : RP} {uv sv ev : Value} {mr : Nat} {vv : Value} (x : RPX T h g p r uv sv ev mr vv) (w : Wf T h) {r' : RP} {vv' v : Value} {c : Array Value} {K : Value → Heap → Prop}
    (hk : ∀ h', Only (pre g) T h T h' → RPR T h' g p r' → K v h') (hc : c = (rpC r' uv sv ev mr vv').toArray)
    (h1 : r'.users = r.users) (h2 : r'.ss = r.ss) (h3 : r'.ep = r.ep) (h4 : r'.seen = r.seen) (h5 : Sl 3 PresR (fz T h) vv' r'.vals) (h6 : r'.vals = [] → vv' = .slice none 0 0) : K v (upd h p (.cells c ty_read_Proc (0, 0))) := by
  obtain ⟨o1, x1⟩ := x.st w hc h1 h2 h3 h4 h5 h6
  exact hk _ (o1.mono fun t => eq_pre) ⟨uv, sv, ev, mr, vv', x1⟩
end Go.Proofs.YtcnphhhcknhhaaaGreat
namespace Go.Proofs.YtcnphhhcknhhaaaGreat
open Go Go.Den Go.MapKept
set_option linter.unusedSimpArgs false
set_option linter.unusedVariables false
set_option maxRecDepth 20000
def U03 (g t : Tag) : Prop := t = g ++ [0] ∨ t = g ++ [3]
theorem U03.pre {g t : Tag} (h : U03 g t) : Den.pre g t := by rcases h with rfl | rfl <;> exact pre_app _ _
theorem U03.nil (g : Tag) : ¬ U03 g [] := by rintro (h | h) <;> simp at h
theorem U03.n1 (g : Tag) : ¬ U03 g (g ++ [1]) := by rintro (h | h) <;> exact ne_tag (by simp) h
theorem U03.n2 (g : Tag) : ¬ U03 g (g ++ [2]) := by rintro (h | h) <;> exact ne_tag (by simp) h
end Go.Proofs.YtcnphhhcknhhaaaGreat
namespace Go.Proofs.YtcnphhhcknhhaaaGreat
open Go Go.Den Go.MapKept
set_option linter.unusedSimpArgs false
set_option linter.unusedVariables false
set_option maxRecDepth 20000
theorem RPX.up {T : Tags} {h : Heap} {g : Tag} {p : Nat} {r : RP} {uv sv ev : Value} {mr : Nat} {vv : Value} (x : RPX T h g p r uv sv ev mr vv) (w : Wf T h) {s : Int} {a c : Value} {b : Book} (hb : BookR (fz T h) a c b) {K : Heap → Prop}
    (hk : ∀ h', Only (fun t => t = g ++ [2]) T h T h' → RPX T h' g p { r with seen := seenset r.seen s b } uv sv ev mr vv → K h') :
    uM P (Instr.mapUpdate ty_Map_int_omap_Map_string_doorman_book_Entry (.map (some mr)) (.int .i64 s) (.agg #[a, c])) h K := by
  obtain ⟨f, m, hs⟩ := x.sn
  refine mapUpdate_u mpSeen (k := .int .i64 s) rfl m fun h' hk' m' => ?_
  obtain ⟨om, hom⟩ := m.lt
  obtain ⟨om', hom'⟩ := m'.lt
  have e : h' = upd h mr om' := upd_of hk' hom'
  have o1 : Only (fun t => t = g ++ [2]) T h T h' := by rw [e]; exact Only.upd w hom x.mt
  have e1 := o1.ext (by simp)
  refine hk h' o1 ⟨(o1.k.at x.hp x.tp (ne_tag (by simp))).1, x.tp, x.us.ext (@StrR.ext) e1, x.ss.ext (@NatR.ext) e1, x.ep.kp o1.k (ne_tag (by simp)), x.mt, ⟨_, m', fun i => ?_⟩, x.vs.ext (@PresR.ext) e1, x.vn⟩
  simp -implicitDefEqProofs only [seenset]
  by_cases his : i = s
  · subst his
    simp -implicitDefEqProofs only [if_true]
    exact ⟨a, c, mset_same _ _ _, hb.ext e1⟩
  · simp -implicitDefEqProofs only [if_neg his]
    have hne : (Value.int .i64 i) ≠ .int .i64 s := fun h => his (by simpa using h)
    have := hs i
    cases hsi : r.seen i with
    | none => simp only [hsi] at this ⊢; rw [mset_ne _ _ _ hne]; exact this
    | some b' => simp only [hsi] at this ⊢; obtain ⟨q1, q2, q3, q4⟩ := this; exact ⟨q1, q2, by rw [mset_ne _ _ _ hne]; exact q3, q4.ext e1⟩
end Go.Proofs.YtcnphhhcknhhaaaGreat
namespace Go.Proofs.YtcnphhhcknhhaaaGreat
open Go Go.Den Go.MapKept
set_option linter.unusedSimpArgs false
set_option linter.unusedVariables false
set_option maxRecDepth 20000
theorem cUnStr : P.underlying ty_Sl_string = some (.slice ty_string) := by kernel_rfl
theorem cApStr : apC P ty_string = some (1, 16, 1) := by kernel_rfl
theorem cBsStr : bsI P ty_Sl_string = some (ty_string, 1, #[.string ⟨#[]⟩]) := by kernel_rfl
theorem cZcStr : zc P ty_string = some #[.string ⟨#[]⟩] := by kernel_rfl
theorem cloneEStr {v : Value} {n : Nat} {xs : List Value} {h : Heap} (x : SlC 1 h v n xs) (s : Sn v) (h1 : ∀ u ∈ xs, u.oneCell' = true) (hn : n < 10000000) {K : Value → Heap → Prop}
    (hk : ∀ v' h', Rf 1 ty_string h h' v' n xs → K v' h') : callM P fn_slices_Clone_string_string #[v] h K := by
  apply e_slices_Clone_string_string
  unfold d_slices_Clone_string_string
  rcases x.nil_or s with ⟨rfl, rfl, rfl⟩ | ⟨a, c, rfl⟩
  · have e : binV .eql 7 true (.slice none 0 0) (.slice none 0 0) = some (.bool true) := rfl
    simp only [e, ov_s, cd_b, true_implies]
    exact ⟨hk _ _ (Rf.nil (Ext.refl h)), fun h => (by cases h)⟩
  · have e : binV .eql 7 true (.slice (some a) n c) (.slice none 0 0) = some (.bool false) := rfl
    simp only [e, ov_s, cd_b, true_implies]
    refine ⟨fun h => (by cases h), ?_⟩

    refine bs_none cBsStr fun v2 h2 e2 r2 _ f2 => ?_
    have r : Rf 1 ty_string h h2 v2 0 [] := ⟨e2, r2, f2, by simp⟩
    have x2 : SlC 1 h2 (.slice (some a) n c) n xs := by
      rcases x with ⟨h1, h2, h3⟩ | ⟨b, o, cap, h1, h2⟩
      · exact .inl ⟨h1, h2, h3⟩
      · exact .inr ⟨b, o, cap, h1, cels_ext e2 h2⟩
    refine r.app cUnStr cApStr (by omega) x2 h1 (by unfold maxLen; omega) (by omega) fun v' h' r' _ => hk v' h' ?_
    simpa using r'
theorem insEStr {v : Value} {n i a : Nat} {xs : List Value} {x : Array Value} {ex : TypeId} {h0 h : Heap} (r : Rf 1 ty_string h0 h v n xs) (hx : x.size = 1) (ha : h a = some (.cells x ex (0, 0))) (hra : rowOf v ≠ some a) (hi : i ≤ n) (hn : n < 10000000) (h1 : ∀ u ∈ x.toList, u.oneCell' = true) {K : Value → Heap → Prop}
    (hk : ∀ v' h', Rf 1 ty_string h0 h' v' (n + 1) (xs.take (i * 1) ++ x.toList ++ xs.drop (i * 1)) → (∀ b o, h b = some o → rowOf v ≠ some b → h' b = some o) → K v' h') : callM P fn_slices_Insert_string_string #[v, .int .i64 i, .slice (some ⟨a, 0, none⟩) 1 1] h K := by
  apply e_slices_Insert_string_string
  unfold d_slices_Insert_string_string d_slices_Insert_string_string_1
  have hlen : lnV 7 v = some (.int .i64 n) := by rcases r.row.2 with ⟨rfl, rfl⟩ | ⟨_, _, _, rfl, _⟩ <;> rfl
  have hsl : ∃ y, slV (some (none, 1)) v (some (.int .i64 i)) none = some y := by
    have : 0 ≤ (i : Int) ∧ (i : Int) ≤ n := by omega
    rcases r.row.2 with ⟨rfl, rfl⟩ | ⟨_, _, _, rfl, _⟩ <;> simp only [slV, bnd, this, and_self, if_true] <;> exact ⟨_, rfl⟩
  obtain ⟨y, hsl⟩ := hsl
  have e1 : lnV 7 (.slice (some ⟨a, 0, none⟩) 1 1) = some (.int .i64 (1 : Nat)) := rfl
  have e2 : binV .eql 2 true (.int .i64 (1 : Nat)) (.int .i64 0) = some (.bool false) := rfl
  simp only [hsl, hlen, e1, e2, ov_s, cd_b, true_implies]
  refine ⟨fun h => (by cases h), ?_⟩
  have e3 : binV .eql 2 false (.int .i64 (i : Int)) (.int .i64 (n : Int)) = some (.bool (decide (i = n))) := by
    simp [Int.natCast_inj]
  simp only [e3, ov_s, cd_b]
  refine ⟨fun hin => ?_, fun hin => ?_⟩
  · have hin : i = n := by simpa using hin
    subst hin
    refine r.app cUnStr cApStr (by omega) (slc_one ha hx) h1 (by unfold maxLen; omega) (by omega) fun v' h' r' kb' => hk v' h' ?_ kb'
    have hl : xs.length = i * 1 := r.row.1
    rw [List.take_of_length_le (by omega), List.drop_eq_nil_of_le (by omega), List.append_nil]
    exact r'
  have hin : i < n := by have : ¬ i = n := by simpa using hin
                         omega
  obtain ⟨g, cap, cur, rfl, hg0, hg, hcap, hcm, hcs, hct⟩ := r.own (by omega)
  have hga : g ≠ a := fun e => hra (by simp [rowOf, e])
  unfold d_slices_Insert_string_string_2
  have w1 : IntKind.i64.wrap ((n : Int) + (1 : Nat)) = (n + 1 : Nat) := by rw [wrap64_id (by omega) (by omega)]; omega
  have hl : xs.length = n * 1 := r.row.1
  have hmul : n * 1 ≤ cap * 1 := Nat.mul_le_mul_right _ hcap
  simp only [bin_add, w1, ov_s]
  refine cap_vv cUnStr ?_
  unfold d_slices_Insert_string_string_3
  simp only [bin_gtr, ov_s, cd_b]
  have celx : ∀ o m, o + m ≤ n * 1 → cels h g o m = some ((xs.drop o).take m) := fun o m hom => r.row.cels rfl hom
  have one_take : ∀ o m, ∀ u ∈ (xs.drop o).take m, u.oneCell' = true := fun o m u hu => r.one u (List.mem_of_mem_drop (List.mem_of_mem_take hu))
  refine ⟨fun hgr => ?_, fun hgr => ?_⟩
  · -- there is no room
    have hgr : cap < n + 1 := by have : ((cap : Int) < (n + 1 : Nat)) := by simpa using hgr
                                 omega
    have s1 : slV (some (none, 1)) (.slice (some ⟨g, 0, none⟩) n cap) none (some (.int .i64 i)) = some (.slice (some ⟨g, 0, none⟩) i cap) := by
      have : (i : Int) ≤ cap := by omega
      simp [slV, bnd, this, Addr.add_lit, show ¬ cap = 0 by omega]
    have w2 : IntKind.i64.wrap (((n + 1 : Nat) : Int) - i) = (n + 1 - i : Nat) := by rw [wrap64_id (by omega) (by omega)]; omega
    unfold d_slices_Insert_string_string_4
    simp only [s1, bin_sub, bin_add, w1, w2, ov_s]
    have hii : i * 1 ≤ n * 1 := Nat.mul_le_mul_right _ (by omega)
    refine app_zeros (olds := xs.take (i * 1)) cUnStr (show P.underlying ty_int = some (.int .i64) by kernel_rfl) cApStr (by omega) (by have := celx 0 (i * 1) (by omega); simpa using this) (by omega) (by omega) (by unfold maxLen; omega) (by omega) fun b' cap' cur' hb' hc1 hc2 hc3 hc4 => ?_
    have ei : i + (n + 1 - i) = n + 1 := by omega
    rw [ei] at hc1 ⊢
    have hmul' : (n + 1) * 1 ≤ cap' * 1 := Nat.mul_le_mul_right _ hc1
    have hi1 : (i + 1) * 1 ≤ n * 1 := Nat.mul_le_mul_right _ hin
    have s2 : ∀ j : Nat, j ≤ n → slV (some (none, 1)) (.slice (some ⟨b', 0, none⟩) (n + 1) cap') (some (.int .i64 j)) none = some (.slice (some ⟨b', j * 1, none⟩) (n + 1 - j) (cap' - j)) := fun j hj => by
      have : (j : Int) ≤ (n + 1 : Nat) := by omega
      have h2 : ¬ cap' = j := by omega
      have h3 : (j : Int) ≤ (n : Int) + 1 := by omega
      simp [slV, bnd, h3, h2, Addr.add_lit]
    have s3 : slV (some (none, 1)) (.slice (some ⟨g, 0, none⟩) n cap) (some (.int .i64 i)) none = some (.slice (some ⟨g, i * 1, none⟩) (n - i) (cap - i)) := by
      have : (i : Int) ≤ n := by omega
      simp [slV, bnd, this, show ¬ cap = i by omega, Addr.add_lit]
    unfold d_slices_Insert_string_string_5
    simp only [s2 i (by omega), ov_s]
    have hb'a : a ≠ b' := fun e => by subst e; rw [hb'] at ha; cases ha
    have hb'g : g ≠ b' := fun e => by subst e; rw [hb'] at hg; cases hg
    have m1 : min 1 (n + 1 - i) = 1 := by omega
    refine copy_vv cUnStr cApStr (cs := x.toList) (upd_same' _ _ _) ?_ (by rw [m1, hc3]; omega) h1 ?_
    · rw [m1, cels_skip hb'a]
      exact cels_of ha (by rw [List.drop_zero, List.take_of_length_le (by rw [Array.length_toList, hx]; omega)]) (by simpa using hx)
    unfold d_slices_Insert_string_string_6
    have w3 : IntKind.i64.wrap ((i : Int) + (1 : Nat)) = (i + 1 : Nat) := by rw [wrap64_id (by omega) (by omega)]; omega
    simp only [bin_add, w3, s2 (i + 1) (by omega), s3, ov_s, upd_upd]
    have m2 : min (n - i) (n + 1 - (i + 1)) = n - i := by omega
    have e5 : i * 1 + (n - i) * 1 = n * 1 := by rw [← Nat.add_mul]; congr 1; omega
    have e6 : (i + 1) * 1 + (n - i) * 1 = (n + 1) * 1 := by rw [← Nat.add_mul]; congr 1; omega
    refine copy_vv cUnStr cApStr (cs := (xs.drop (i * 1)).take ((n - i) * 1)) (upd_same' _ _ _) ?_ (by rw [m2, over_size, hc3]; omega) (one_take _ _) ?_
    · rw [m2, cels_skip hb'g]
      exact celx _ _ (by omega)
    rw [upd_upd]
    have hb0 : h0 b' = none := fresh_of r.ex hb'
    have hdl : (xs.drop (i * 1)).take ((n - i) * 1) = xs.drop (i * 1) := List.take_of_length_le (by simp [hl] <;> omega)
    refine hk _ _ ⟨ext_upd hb0 r.ex, ⟨by simp [hl, hx] <;> omega, .inr ⟨b', cap', _, rfl, upd_same' _ _ _, hc1, hc2, by simp [over_size, hc3], ?_⟩⟩, fun b hb => by simp [rowOf] at hb; subst hb; exact hb0, fun u hu => ?_⟩ fun b o hb _ => by rw [upd_ne (fun hh => by rw [hh, hb'] at hb; cases hb)]; exact hb
    · rw [hdl]
      have l1 : (xs.drop (i * 1)).length = (n - i) * 1 := by simp [hl] <;> omega
      have cl : cur'.toList.length = cap' * 1 := by simpa using hc3
      rw [over_list (by rw [over_size, hc3, l1]; omega), over_list (by rw [hc3, Array.length_toList, hx]; omega)]
      have x1 : x.toList.length = 1 := by simpa using hx
      have e7 : spl cur'.toList (i * 1) x.toList = xs.take (i * 1) ++ x.toList ++ cur'.toList.drop (i * 1 + 1) := by
        unfold spl; rw [hc4, x1]
      have e8 : (i + 1) * 1 = (xs.take (i * 1) ++ x.toList).length := by simp [hl, hx] <;> omega
      have e9 : (xs.take (i * 1) ++ x.toList ++ xs.drop (i * 1)).length = (n + 1) * 1 := by simp [hl, hx] <;> omega
      rw [e7]
      unfold spl
      rw [e8, List.take_left, List.take_left' e9]
    · simp only [List.mem_append] at hu
      rcases hu with (hu | hu) | hu
      · exact r.one u (List.mem_of_mem_take hu)
      · exact h1 u hu
      · exact r.one u (List.mem_of_mem_drop hu)
  · -- there is room
    have hgr : n + 1 ≤ cap := by have : ¬ ((cap : Int) < (n + 1 : Nat)) := by simpa using hgr
                                 omega
    have hmul' : (n + 1) * 1 ≤ cap * 1 := Nat.mul_le_mul_right _ hgr
    have hi1 : (i + 1) * 1 ≤ n * 1 := Nat.mul_le_mul_right _ hin
    have s1 : slV (some (none, 1)) (.slice (some ⟨g, 0, none⟩) n cap) none (some (.int .i64 (n + 1 : Nat))) = some (.slice (some ⟨g, 0, none⟩) (n + 1) cap) := by
      have : ((n + 1 : Nat) : Int) ≤ cap := by omega
      have h3 : 0 ≤ (n : Int) + 1 ∧ (n : Int) + 1 ≤ cap := by omega
      simp [slV, bnd, h3, Addr.add_lit, show ¬ cap = 0 by omega]
    have w3 : IntKind.i64.wrap ((i : Int) + (1 : Nat)) = (i + 1 : Nat) := by rw [wrap64_id (by omega) (by omega)]; omega
    have s2 : ∀ j : Nat, j ≤ n → slV (some (none, 1)) (.slice (some ⟨g, 0, none⟩) (n + 1) cap) (some (.int .i64 j)) none = some (.slice (some ⟨g, j * 1, none⟩) (n + 1 - j) (cap - j)) := fun j hj => by
      have h2 : ¬ cap = j := by omega
      have h3 : (j : Int) ≤ (n : Int) + 1 := by omega
      simp [slV, bnd, h3, h2, Addr.add_lit]
    unfold d_slices_Insert_string_string_7
    simp only [bin_add, w1, w3, s1, s2 (i + 1) (by omega), ov_s]
    refine overlaps_nx (tS := ty_Sl_string) (tR := ty_bool) (f := fn_slices_overlaps_string) (by kernel_rfl) (by kernel_rfl) (by kernel_rfl) (by kernel_rfl) cUnStr cApStr (Ne.symm hga) ha hg (by rw [hcs]; omega) ?_
    unfold d_slices_Insert_string_string_8
    simp only [unV_n, ov_s, cd_b, Bool.not_false, true_implies]
    refine ⟨?_, fun h => (by cases h)⟩
    unfold d_slices_Insert_string_string_9
    simp only [bin_add, w3, s2 (i + 1) (by omega), s2 i (by omega), ov_s]
    have m2 : min (n + 1 - i) (n + 1 - (i + 1)) = n - i := by omega
    have e5 : i * 1 + (n - i) * 1 = n * 1 := by rw [← Nat.add_mul]; congr 1; omega
    have e6 : (i + 1) * 1 + (n - i) * 1 = (n + 1) * 1 := by rw [← Nat.add_mul]; congr 1; omega
    refine copy_vv cUnStr cApStr (cs := (xs.drop (i * 1)).take ((n - i) * 1)) hg ?_ (by rw [m2, hcs]; omega) (one_take _ _) ?_
    · rw [m2]; exact celx _ _ (by omega)
    try unfold d_slices_Insert_string_string_10
    try simp only [s2 i (by omega), ov_s]
    have m1 : min 1 (n + 1 - i) = 1 := by omega
    refine copy_vv cUnStr cApStr (cs := x.toList) (upd_same' _ _ _) ?_ (by rw [m1, over_size, hcs]; omega) h1 ?_
    · rw [m1, cels_skip (Ne.symm hga)]
      exact cels_of ha (by rw [List.drop_zero, List.take_of_length_le (by rw [Array.length_toList, hx]; omega)]) (by simpa using hx)
    rw [upd_upd]
    have hdl : (xs.drop (i * 1)).take ((n - i) * 1) = xs.drop (i * 1) := List.take_of_length_le (by simp [hl] <;> omega)
    refine hk _ _ ⟨ext_upd hg0 r.ex, ⟨by simp [hl, hx] <;> omega, .inr ⟨g, cap, _, rfl, upd_same' _ _ _, hgr, hcm, by simp [over_size, hcs], ?_⟩⟩, fun b hb => by simp [rowOf] at hb; subst hb; exact hg0, fun u hu => ?_⟩ fun b o hb hn => by rw [upd_ne (fun hh => hn (by rw [hh]; rfl))]; exact hb
    · rw [hdl]
      have l1 : (xs.drop (i * 1)).length = (n - i) * 1 := by simp [hl] <;> omega
      have cl : cur.toList.length = cap * 1 := by simpa using hcs
      have x1 : x.toList.length = 1 := by simpa using hx
      rw [over_list (by rw [over_size, hcs, x1]; omega), over_list (by rw [hcs, l1]; omega)]
      have e10 : cur.toList.take (i * 1) = xs.take (i * 1) := by rw [← hct, List.take_take, Nat.min_eq_left (by omega)]
      exact spl_ins e10 (by rw [x1]; omega) (by omega) (by rw [l1]; omega) (by omega)
    · simp only [List.mem_append] at hu
      rcases hu with (hu | hu) | hu
      · exact r.one u (List.mem_of_mem_take hu)
      · exact h1 u hu
      · exact r.one u (List.mem_of_mem_drop hu)
theorem delEStr {v : Value} {n i : Nat} {xs : List Value} {h0 h : Heap} (r : Rf 1 ty_string h0 h v n xs) (hi : i < n) (hn : n < 10000000) {K : Value → Heap → Prop}
    (hk : ∀ v' h', Rf 1 ty_string h0 h' v' (n - 1) (xs.take (i * 1) ++ xs.drop ((i + 1) * 1)) → K v' h') : callM P fn_slices_Delete_string_string #[v, .int .i64 i, .int .i64 (i + 1 : Nat)] h K := by
  apply e_slices_Delete_string_string
  unfold d_slices_Delete_string_string
  obtain ⟨g, cap, cur, rfl, hg0, hg, hcap, hcm, hcs, hct⟩ := r.own (by omega)
  have hl : xs.length = n * 1 := r.row.1
  have hmul : n * 1 ≤ cap * 1 := Nat.mul_le_mul_right _ hcap
  have hi1 : (i + 1) * 1 ≤ n * 1 := Nat.mul_le_mul_right _ hi
  have hlen : lnV 7 (.slice (some ⟨g, 0, none⟩) n cap) = some (.int .i64 n) := rfl
  have s0 : ∃ y, sl3V (some (none, 1)) (.slice (some ⟨g, 0, none⟩) n cap) (some (.int .i64 i)) (.int .i64 (i + 1 : Nat)) (.int .i64 n) = some y := by
    have h1 : (n : Int) ≤ cap := by omega
    have h2 : (0 : Int) ≤ (i : Int) + 1 ∧ (i : Int) + 1 ≤ n := by omega
    have h3 : (i : Int) ≤ (i : Int) + 1 := by omega
    have h4 : i ≤ ((i : Int) + 1).toNat := by omega
    simp [sl3V, bnd, h1, h2, h3]
  obtain ⟨y, s0⟩ := s0
  have e3 : binV .eql 2 false (.int .i64 (i : Int)) (.int .i64 (i + 1 : Nat)) = some (.bool false) := by
    have : ¬ (i : Int) = (i + 1 : Nat) := by omega
    simp [-Int.natCast_add, this]
  simp only [hlen, s0, e3, ov_s, cd_b, true_implies]
  refine ⟨fun h => (by cases h), ?_⟩
  unfold d_slices_Delete_string_string_1
  have s1 : slV (some (none, 1)) (.slice (some ⟨g, 0, none⟩) n cap) none (some (.int .i64 i)) = some (.slice (some ⟨g, 0, none⟩) i cap) := by
    have : (i : Int) ≤ cap := by omega
    simp [slV, bnd, this, Addr.add_lit, show ¬ cap = 0 by omega]
  have s2 : ∃ q, slV (some (none, 1)) (.slice (some ⟨g, 0, none⟩) n cap) (some (.int .i64 (i + 1 : Nat))) none = some (.slice (some ⟨g, q, none⟩) (n - (i + 1)) (cap - (i + 1))) ∧ cels h g q ((n - (i + 1)) * 1) = some (xs.drop ((i + 1) * 1)) := by
    have h3 : (0 : Int) ≤ (i : Int) + 1 ∧ (i : Int) + 1 ≤ n := by omega
    have h4 : ((i : Int) + 1).toNat = i + 1 := by omega
    by_cases hc : cap = i + 1
    · refine ⟨0, by simp [slV, bnd, h3, h4, hc, show n = i + 1 by omega], ?_⟩
      have : n - (i + 1) = 0 := by omega
      rw [this, List.drop_eq_nil_of_le (by rw [hl]; have : n = i + 1 := by omega
                                           subst this; omega)]
      simp [cels]
    · refine ⟨(i + 1) * 1, by simp [slV, bnd, h3, h4, hc, Addr.add_lit], ?_⟩
      have e5 : (i + 1) * 1 + (n - (i + 1)) * 1 = n * 1 := by rw [← Nat.add_mul]; congr 1; omega
      rw [r.row.cels (g := g) rfl (by omega), List.take_of_length_le (by simp [hl] <;> omega)]
  obtain ⟨q, s2, s3⟩ := s2
  simp only [hlen, s1, s2, ov_s]
  have e5 : i * 1 + (n - (i + 1)) * 1 = (n - 1) * 1 := by rw [← Nat.add_mul]; congr 1; omega
  have e6 : (n - 1) * 1 ≤ n * 1 := Nat.mul_le_mul_right _ (by omega)
  refine app_fit cUnStr cApStr hg s3 (by rw [hcs]; omega) (by omega) (fun u hu => r.one u (List.mem_of_mem_drop hu)) ?_
  unfold d_slices_Delete_string_string_2
  have e7 : i + (n - (i + 1)) = n - 1 := by omega
  rw [e7]
  have s4 : slV (some (none, 1)) (.slice (some ⟨g, 0, none⟩) (n - 1) cap) (some (.int .i64 (n - 1 : Nat))) (some (.int .i64 n)) = some (.slice (some ⟨g, (n - 1) * 1, none⟩) (n - (n - 1)) (cap - (n - 1))) := by
    have h1 : (n : Int) ≤ cap := by omega
    have h2 : ((n - 1 : Nat) : Int) ≤ n := by omega
    simp [slV, bnd, h1, h2, show ¬ cap = n - 1 by omega, Addr.add_lit]
  have hlen2 : lnV 7 (.slice (some ⟨g, 0, none⟩) (n - 1) cap) = some (.int .i64 (n - 1 : Nat)) := rfl
  simp only [hlen2, s4, ov_s]
  have l1 : (xs.drop ((i + 1) * 1)).length = (n - (i + 1)) * 1 := by rw [List.length_drop, hl, ← Nat.sub_mul]
  have l2 : (xs.take (i * 1)).length = i * 1 := by rw [List.length_take, hl]; omega
  have e8 : (n - 1) * 1 + (n - (n - 1)) * 1 = n * 1 := by rw [← Nat.add_mul]; congr 1; omega
  have cl : cur.toList.length = cap * 1 := by simpa using hcs
  have e9 : (over cur (0 + i * 1) (xs.drop ((i + 1) * 1))).toList = xs.take (i * 1) ++ xs.drop ((i + 1) * 1) ++ cur.toList.drop (0 + i * 1 + (n - (i + 1)) * 1) := by
    rw [over_list (by rw [hcs, l1]; omega)]
    unfold spl
    rw [l1]
    congr 2
    rw [← hct, List.take_take, Nat.min_eq_left (by omega), Nat.zero_add]
  have e10 : (xs.take (i * 1) ++ xs.drop ((i + 1) * 1)).length = (n - 1) * 1 := by rw [List.length_append, l1, l2, e5]
  refine clear_vv cUnStr cApStr (fun z hz => by rw [cZcStr] at hz; cases hz; rfl) (by omega) (upd_same' _ _ _) (by rw [over_size, hcs]; omega) (fun hz => by omega) fun cs hcs' => ?_
  rw [upd_upd]
  refine hk _ _ ⟨ext_upd hg0 r.ex, ⟨e10, .inr ⟨g, cap, _, rfl, upd_same' _ _ _, by omega, hcm, by simp [over_size, hcs], ?_⟩⟩, fun b hb => by simp [rowOf] at hb; subst hb; exact hg0, fun u hu => ?_⟩
  · rw [over_list (by rw [over_size, hcs, hcs']; omega), e9]
    unfold spl
    rw [List.append_assoc ((xs.take (i * 1) ++ xs.drop ((i + 1) * 1) ++ _).take _), List.take_append_of_le_length (by rw [List.length_take]; simp only [List.length_append, List.length_drop, l1, l2, cl]; omega), List.take_take, Nat.min_self]
    exact List.take_left' e10
  · simp only [List.mem_append] at hu
    rcases hu with hu | hu
    · exact r.one u (List.mem_of_mem_take hu)
    · exact r.one u (List.mem_of_mem_drop hu)
theorem cUnU32 : P.underlying ty_Sl_uint32 = some (.slice ty_uint32) := by kernel_rfl
theorem cApU32 : apC P ty_uint32 = some (1, 4, 1) := by kernel_rfl
theorem cBsU32 : bsI P ty_Sl_uint32 = some (ty_uint32, 1, #[.int .u32 0]) := by kernel_rfl
theorem cZcU32 : zc P ty_uint32 = some #[.int .u32 0] := by kernel_rfl
theorem cloneEU32 {v : Value} {n : Nat} {xs : List Value} {h : Heap} (x : SlC 1 h v n xs) (s : Sn v) (h1 : ∀ u ∈ xs, u.oneCell' = true) (hn : n < 10000000) {K : Value → Heap → Prop}
    (hk : ∀ v' h', Rf 1 ty_uint32 h h' v' n xs → K v' h') : callM P fn_slices_Clone_uint32_uint32 #[v] h K := by
  apply e_slices_Clone_uint32_uint32
  unfold d_slices_Clone_uint32_uint32
  rcases x.nil_or s with ⟨rfl, rfl, rfl⟩ | ⟨a, c, rfl⟩
  · have e : binV .eql 7 true (.slice none 0 0) (.slice none 0 0) = some (.bool true) := rfl
    simp only [e, ov_s, cd_b, true_implies]
    exact ⟨hk _ _ (Rf.nil (Ext.refl h)), fun h => (by cases h)⟩
  · have e : binV .eql 7 true (.slice (some a) n c) (.slice none 0 0) = some (.bool false) := rfl
    simp only [e, ov_s, cd_b, true_implies]
    refine ⟨fun h => (by cases h), ?_⟩

    refine bs_none cBsU32 fun v2 h2 e2 r2 _ f2 => ?_
    have r : Rf 1 ty_uint32 h h2 v2 0 [] := ⟨e2, r2, f2, by simp⟩
    have x2 : SlC 1 h2 (.slice (some a) n c) n xs := by
      rcases x with ⟨h1, h2, h3⟩ | ⟨b, o, cap, h1, h2⟩
      · exact .inl ⟨h1, h2, h3⟩
      · exact .inr ⟨b, o, cap, h1, cels_ext e2 h2⟩
    refine r.app cUnU32 cApU32 (by omega) x2 h1 (by unfold maxLen; omega) (by omega) fun v' h' r' _ => hk v' h' ?_
    simpa using r'
theorem insEU32 {v : Value} {n i a : Nat} {xs : List Value} {x : Array Value} {ex : TypeId} {h0 h : Heap} (r : Rf 1 ty_uint32 h0 h v n xs) (hx : x.size = 1) (ha : h a = some (.cells x ex (0, 0))) (hra : rowOf v ≠ some a) (hi : i ≤ n) (hn : n < 10000000) (h1 : ∀ u ∈ x.toList, u.oneCell' = true) {K : Value → Heap → Prop}
    (hk : ∀ v' h', Rf 1 ty_uint32 h0 h' v' (n + 1) (xs.take (i * 1) ++ x.toList ++ xs.drop (i * 1)) → (∀ b o, h b = some o → rowOf v ≠ some b → h' b = some o) → K v' h') : callM P fn_slices_Insert_uint32_uint32 #[v, .int .i64 i, .slice (some ⟨a, 0, none⟩) 1 1] h K := by
  apply e_slices_Insert_uint32_uint32
  unfold d_slices_Insert_uint32_uint32 d_slices_Insert_uint32_uint32_1
  have hlen : lnV 7 v = some (.int .i64 n) := by rcases r.row.2 with ⟨rfl, rfl⟩ | ⟨_, _, _, rfl, _⟩ <;> rfl
  have hsl : ∃ y, slV (some (none, 1)) v (some (.int .i64 i)) none = some y := by
    have : 0 ≤ (i : Int) ∧ (i : Int) ≤ n := by omega
    rcases r.row.2 with ⟨rfl, rfl⟩ | ⟨_, _, _, rfl, _⟩ <;> simp only [slV, bnd, this, and_self, if_true] <;> exact ⟨_, rfl⟩
  obtain ⟨y, hsl⟩ := hsl
  have e1 : lnV 7 (.slice (some ⟨a, 0, none⟩) 1 1) = some (.int .i64 (1 : Nat)) := rfl
  have e2 : binV .eql 2 true (.int .i64 (1 : Nat)) (.int .i64 0) = some (.bool false) := rfl
  simp only [hsl, hlen, e1, e2, ov_s, cd_b, true_implies]
  refine ⟨fun h => (by cases h), ?_⟩
  have e3 : binV .eql 2 false (.int .i64 (i : Int)) (.int .i64 (n : Int)) = some (.bool (decide (i = n))) := by
    simp [Int.natCast_inj]
  simp only [e3, ov_s, cd_b]
  refine ⟨fun hin => ?_, fun hin => ?_⟩
  · have hin : i = n := by simpa using hin
    subst hin
    refine r.app cUnU32 cApU32 (by omega) (slc_one ha hx) h1 (by unfold maxLen; omega) (by omega) fun v' h' r' kb' => hk v' h' ?_ kb'
    have hl : xs.length = i * 1 := r.row.1
    rw [List.take_of_length_le (by omega), List.drop_eq_nil_of_le (by omega), List.append_nil]
    exact r'
  have hin : i < n := by have : ¬ i = n := by simpa using hin
                         omega
  obtain ⟨g, cap, cur, rfl, hg0, hg, hcap, hcm, hcs, hct⟩ := r.own (by omega)
  have hga : g ≠ a := fun e => hra (by simp [rowOf, e])
  unfold d_slices_Insert_uint32_uint32_2
  have w1 : IntKind.i64.wrap ((n : Int) + (1 : Nat)) = (n + 1 : Nat) := by rw [wrap64_id (by omega) (by omega)]; omega
  have hl : xs.length = n * 1 := r.row.1
  have hmul : n * 1 ≤ cap * 1 := Nat.mul_le_mul_right _ hcap
  simp only [bin_add, w1, ov_s]
  refine cap_vv cUnU32 ?_
  unfold d_slices_Insert_uint32_uint32_3
  simp only [bin_gtr, ov_s, cd_b]
  have celx : ∀ o m, o + m ≤ n * 1 → cels h g o m = some ((xs.drop o).take m) := fun o m hom => r.row.cels rfl hom
  have one_take : ∀ o m, ∀ u ∈ (xs.drop o).take m, u.oneCell' = true := fun o m u hu => r.one u (List.mem_of_mem_drop (List.mem_of_mem_take hu))
  refine ⟨fun hgr => ?_, fun hgr => ?_⟩
  · -- there is no room
    have hgr : cap < n + 1 := by have : ((cap : Int) < (n + 1 : Nat)) := by simpa using hgr
                                 omega
    have s1 : slV (some (none, 1)) (.slice (some ⟨g, 0, none⟩) n cap) none (some (.int .i64 i)) = some (.slice (some ⟨g, 0, none⟩) i cap) := by
      have : (i : Int) ≤ cap := by omega
      simp [slV, bnd, this, Addr.add_lit, show ¬ cap = 0 by omega]
    have w2 : IntKind.i64.wrap (((n + 1 : Nat) : Int) - i) = (n + 1 - i : Nat) := by rw [wrap64_id (by omega) (by omega)]; omega
    unfold d_slices_Insert_uint32_uint32_4
    simp only [s1, bin_sub, bin_add, w1, w2, ov_s]
    have hii : i * 1 ≤ n * 1 := Nat.mul_le_mul_right _ (by omega)
    refine app_zeros (olds := xs.take (i * 1)) cUnU32 (show P.underlying ty_int = some (.int .i64) by kernel_rfl) cApU32 (by omega) (by have := celx 0 (i * 1) (by omega); simpa using this) (by omega) (by omega) (by unfold maxLen; omega) (by omega) fun b' cap' cur' hb' hc1 hc2 hc3 hc4 => ?_
    have ei : i + (n + 1 - i) = n + 1 := by omega
    rw [ei] at hc1 ⊢
    have hmul' : (n + 1) * 1 ≤ cap' * 1 := Nat.mul_le_mul_right _ hc1
    have hi1 : (i + 1) * 1 ≤ n * 1 := Nat.mul_le_mul_right _ hin
    have s2 : ∀ j : Nat, j ≤ n → slV (some (none, 1)) (.slice (some ⟨b', 0, none⟩) (n + 1) cap') (some (.int .i64 j)) none = some (.slice (some ⟨b', j * 1, none⟩) (n + 1 - j) (cap' - j)) := fun j hj => by
      have : (j : Int) ≤ (n + 1 : Nat) := by omega
      have h2 : ¬ cap' = j := by omega
      have h3 : (j : Int) ≤ (n : Int) + 1 := by omega
      simp [slV, bnd, h3, h2, Addr.add_lit]
    have s3 : slV (some (none, 1)) (.slice (some ⟨g, 0, none⟩) n cap) (some (.int .i64 i)) none = some (.slice (some ⟨g, i * 1, none⟩) (n - i) (cap - i)) := by
      have : (i : Int) ≤ n := by omega
      simp [slV, bnd, this, show ¬ cap = i by omega, Addr.add_lit]
    unfold d_slices_Insert_uint32_uint32_5
    simp only [s2 i (by omega), ov_s]
    have hb'a : a ≠ b' := fun e => by subst e; rw [hb'] at ha; cases ha
    have hb'g : g ≠ b' := fun e => by subst e; rw [hb'] at hg; cases hg
    have m1 : min 1 (n + 1 - i) = 1 := by omega
    refine copy_vv cUnU32 cApU32 (cs := x.toList) (upd_same' _ _ _) ?_ (by rw [m1, hc3]; omega) h1 ?_
    · rw [m1, cels_skip hb'a]
      exact cels_of ha (by rw [List.drop_zero, List.take_of_length_le (by rw [Array.length_toList, hx]; omega)]) (by simpa using hx)
    unfold d_slices_Insert_uint32_uint32_6
    have w3 : IntKind.i64.wrap ((i : Int) + (1 : Nat)) = (i + 1 : Nat) := by rw [wrap64_id (by omega) (by omega)]; omega
    simp only [bin_add, w3, s2 (i + 1) (by omega), s3, ov_s, upd_upd]
    have m2 : min (n - i) (n + 1 - (i + 1)) = n - i := by omega
    have e5 : i * 1 + (n - i) * 1 = n * 1 := by rw [← Nat.add_mul]; congr 1; omega
    have e6 : (i + 1) * 1 + (n - i) * 1 = (n + 1) * 1 := by rw [← Nat.add_mul]; congr 1; omega
    refine copy_vv cUnU32 cApU32 (cs := (xs.drop (i * 1)).take ((n - i) * 1)) (upd_same' _ _ _) ?_ (by rw [m2, over_size, hc3]; omega) (one_take _ _) ?_
    · rw [m2, cels_skip hb'g]
      exact celx _ _ (by omega)
    rw [upd_upd]
    have hb0 : h0 b' = none := fresh_of r.ex hb'
    have hdl : (xs.drop (i * 1)).take ((n - i) * 1) = xs.drop (i * 1) := List.take_of_length_le (by simp [hl] <;> omega)
    refine hk _ _ ⟨ext_upd hb0 r.ex, ⟨by simp [hl, hx] <;> omega, .inr ⟨b', cap', _, rfl, upd_same' _ _ _, hc1, hc2, by simp [over_size, hc3], ?_⟩⟩, fun b hb => by simp [rowOf] at hb; subst hb; exact hb0, fun u hu => ?_⟩ fun b o hb _ => by rw [upd_ne (fun hh => by rw [hh, hb'] at hb; cases hb)]; exact hb
    · rw [hdl]
      have l1 : (xs.drop (i * 1)).length = (n - i) * 1 := by simp [hl] <;> omega
      have cl : cur'.toList.length = cap' * 1 := by simpa using hc3
      rw [over_list (by rw [over_size, hc3, l1]; omega), over_list (by rw [hc3, Array.length_toList, hx]; omega)]
      have x1 : x.toList.length = 1 := by simpa using hx
      have e7 : spl cur'.toList (i * 1) x.toList = xs.take (i * 1) ++ x.toList ++ cur'.toList.drop (i * 1 + 1) := by
        unfold spl; rw [hc4, x1]
      have e8 : (i + 1) * 1 = (xs.take (i * 1) ++ x.toList).length := by simp [hl, hx] <;> omega
      have e9 : (xs.take (i * 1) ++ x.toList ++ xs.drop (i * 1)).length = (n + 1) * 1 := by simp [hl, hx] <;> omega
      rw [e7]
      unfold spl
      rw [e8, List.take_left, List.take_left' e9]
    · simp only [List.mem_append] at hu
      rcases hu with (hu | hu) | hu
      · exact r.one u (List.mem_of_mem_take hu)
      · exact h1 u hu
      · exact r.one u (List.mem_of_mem_drop hu)
  · -- there is room
    have hgr : n + 1 ≤ cap := by have : ¬ ((cap : Int) < (n + 1 : Nat)) := by simpa using hgr
                                 omega
    have hmul' : (n + 1) * 1 ≤ cap * 1 := Nat.mul_le_mul_right _ hgr
    have hi1 : (i + 1) * 1 ≤ n * 1 := Nat.mul_le_mul_right _ hin
    have s1 : slV (some (none, 1)) (.slice (some ⟨g, 0, none⟩) n cap) none (some (.int .i64 (n + 1 : Nat))) = some (.slice (some ⟨g, 0, none⟩) (n + 1) cap) := by
      have : ((n + 1 : Nat) : Int) ≤ cap := by omega
      have h3 : 0 ≤ (n : Int) + 1 ∧ (n : Int) + 1 ≤ cap := by omega
      simp [slV, bnd, h3, Addr.add_lit, show ¬ cap = 0 by omega]
    have w3 : IntKind.i64.wrap ((i : Int) + (1 : Nat)) = (i + 1 : Nat) := by rw [wrap64_id (by omega) (by omega)]; omega
    have s2 : ∀ j : Nat, j ≤ n → slV (some (none, 1)) (.slice (some ⟨g, 0, none⟩) (n + 1) cap) (some (.int .i64 j)) none = some (.slice (some ⟨g, j * 1, none⟩) (n + 1 - j) (cap - j)) := fun j hj => by
      have h2 : ¬ cap = j := by omega
      have h3 : (j : Int) ≤ (n : Int) + 1 := by omega
      simp [slV, bnd, h3, h2, Addr.add_lit]
    unfold d_slices_Insert_uint32_uint32_7
    simp only [bin_add, w1, w3, s1, s2 (i + 1) (by omega), ov_s]
    refine overlaps_nx (tS := ty_Sl_uint32) (tR := ty_bool) (f := fn_slices_overlaps_uint32) (by kernel_rfl) (by kernel_rfl) (by kernel_rfl) (by kernel_rfl) cUnU32 cApU32 (Ne.symm hga) ha hg (by rw [hcs]; omega) ?_
    unfold d_slices_Insert_uint32_uint32_8
    simp only [unV_n, ov_s, cd_b, Bool.not_false, true_implies]
    refine ⟨?_, fun h => (by cases h)⟩
    unfold d_slices_Insert_uint32_uint32_9
    simp only [bin_add, w3, s2 (i + 1) (by omega), s2 i (by omega), ov_s]
    have m2 : min (n + 1 - i) (n + 1 - (i + 1)) = n - i := by omega
    have e5 : i * 1 + (n - i) * 1 = n * 1 := by rw [← Nat.add_mul]; congr 1; omega
    have e6 : (i + 1) * 1 + (n - i) * 1 = (n + 1) * 1 := by rw [← Nat.add_mul]; congr 1; omega
    refine copy_vv cUnU32 cApU32 (cs := (xs.drop (i * 1)).take ((n - i) * 1)) hg ?_ (by rw [m2, hcs]; omega) (one_take _ _) ?_
    · rw [m2]; exact celx _ _ (by omega)
    try unfold d_slices_Insert_uint32_uint32_10
    try simp only [s2 i (by omega), ov_s]
    have m1 : min 1 (n + 1 - i) = 1 := by omega
    refine copy_vv cUnU32 cApU32 (cs := x.toList) (upd_same' _ _ _) ?_ (by rw [m1, over_size, hcs]; omega) h1 ?_
    · rw [m1, cels_skip (Ne.symm hga)]
      exact cels_of ha (by rw [List.drop_zero, List.take_of_length_le (by rw [Array.length_toList, hx]; omega)]) (by simpa using hx)
    rw [upd_upd]
    have hdl : (xs.drop (i * 1)).take ((n - i) * 1) = xs.drop (i * 1) := List.take_of_length_le (by simp [hl] <;> omega)
    refine hk _ _ ⟨ext_upd hg0 r.ex, ⟨by simp [hl, hx] <;> omega, .inr ⟨g, cap, _, rfl, upd_same' _ _ _, hgr, hcm, by simp [over_size, hcs], ?_⟩⟩, fun b hb => by simp [rowOf] at hb; subst hb; exact hg0, fun u hu => ?_⟩ fun b o hb hn => by rw [upd_ne (fun hh => hn (by rw [hh]; rfl))]; exact hb
    · rw [hdl]
      have l1 : (xs.drop (i * 1)).length = (n - i) * 1 := by simp [hl] <;> omega
      have cl : cur.toList.length = cap * 1 := by simpa using hcs
      have x1 : x.toList.length = 1 := by simpa using hx
      rw [over_list (by rw [over_size, hcs, x1]; omega), over_list (by rw [hcs, l1]; omega)]
      have e10 : cur.toList.take (i * 1) = xs.take (i * 1) := by rw [← hct, List.take_take, Nat.min_eq_left (by omega)]
      exact spl_ins e10 (by rw [x1]; omega) (by omega) (by rw [l1]; omega) (by omega)
    · simp only [List.mem_append] at hu
      rcases hu with (hu | hu) | hu
      · exact r.one u (List.mem_of_mem_take hu)
      · exact h1 u hu
      · exact r.one u (List.mem_of_mem_drop hu)
theorem delEU32 {v : Value} {n i : Nat} {xs : List Value} {h0 h : Heap} (r : Rf 1 ty_uint32 h0 h v n xs) (hi : i < n) (hn : n < 10000000) {K : Value → Heap → Prop}
    (hk : ∀ v' h', Rf 1 ty_uint32 h0 h' v' (n - 1) (xs.take (i * 1) ++ xs.drop ((i + 1) * 1)) → K v' h') : callM P fn_slices_Delete_uint32_uint32 #[v, .int .i64 i, .int .i64 (i + 1 : Nat)] h K := by
  apply e_slices_Delete_uint32_uint32
  unfold d_slices_Delete_uint32_uint32
  obtain ⟨g, cap, cur, rfl, hg0, hg, hcap, hcm, hcs, hct⟩ := r.own (by omega)
  have hl : xs.length = n * 1 := r.row.1
  have hmul : n * 1 ≤ cap * 1 := Nat.mul_le_mul_right _ hcap
  have hi1 : (i + 1) * 1 ≤ n * 1 := Nat.mul_le_mul_right _ hi
  have hlen : lnV 7 (.slice (some ⟨g, 0, none⟩) n cap) = some (.int .i64 n) := rfl
  have s0 : ∃ y, sl3V (some (none, 1)) (.slice (some ⟨g, 0, none⟩) n cap) (some (.int .i64 i)) (.int .i64 (i + 1 : Nat)) (.int .i64 n) = some y := by
    have h1 : (n : Int) ≤ cap := by omega
    have h2 : (0 : Int) ≤ (i : Int) + 1 ∧ (i : Int) + 1 ≤ n := by omega
    have h3 : (i : Int) ≤ (i : Int) + 1 := by omega
    have h4 : i ≤ ((i : Int) + 1).toNat := by omega
    simp [sl3V, bnd, h1, h2, h3]
  obtain ⟨y, s0⟩ := s0
  have e3 : binV .eql 2 false (.int .i64 (i : Int)) (.int .i64 (i + 1 : Nat)) = some (.bool false) := by
    have : ¬ (i : Int) = (i + 1 : Nat) := by omega
    simp [-Int.natCast_add, this]
  simp only [hlen, s0, e3, ov_s, cd_b, true_implies]
  refine ⟨fun h => (by cases h), ?_⟩
  unfold d_slices_Delete_uint32_uint32_1
  have s1 : slV (some (none, 1)) (.slice (some ⟨g, 0, none⟩) n cap) none (some (.int .i64 i)) = some (.slice (some ⟨g, 0, none⟩) i cap) := by
    have : (i : Int) ≤ cap := by omega
    simp [slV, bnd, this, Addr.add_lit, show ¬ cap = 0 by omega]
  have s2 : ∃ q, slV (some (none, 1)) (.slice (some ⟨g, 0, none⟩) n cap) (some (.int .i64 (i + 1 : Nat))) none = some (.slice (some ⟨g, q, none⟩) (n - (i + 1)) (cap - (i + 1))) ∧ cels h g q ((n - (i + 1)) * 1) = some (xs.drop ((i + 1) * 1)) := by
    have h3 : (0 : Int) ≤ (i : Int) + 1 ∧ (i : Int) + 1 ≤ n := by omega
    have h4 : ((i : Int) + 1).toNat = i + 1 := by omega
    by_cases hc : cap = i + 1
    · refine ⟨0, by simp [slV, bnd, h3, h4, hc, show n = i + 1 by omega], ?_⟩
      have : n - (i + 1) = 0 := by omega
      rw [this, List.drop_eq_nil_of_le (by rw [hl]; have : n = i + 1 := by omega
                                           subst this; omega)]
      simp [cels]
    · refine ⟨(i + 1) * 1, by simp [slV, bnd, h3, h4, hc, Addr.add_lit], ?_⟩
      have e5 : (i + 1) * 1 + (n - (i + 1)) * 1 = n * 1 := by rw [← Nat.add_mul]; congr 1; omega
      rw [r.row.cels (g := g) rfl (by omega), List.take_of_length_le (by simp [hl] <;> omega)]
  obtain ⟨q, s2, s3⟩ := s2
  simp only [hlen, s1, s2, ov_s]
  have e5 : i * 1 + (n - (i + 1)) * 1 = (n - 1) * 1 := by rw [← Nat.add_mul]; congr 1; omega
  have e6 : (n - 1) * 1 ≤ n * 1 := Nat.mul_le_mul_right _ (by omega)
  refine app_fit cUnU32 cApU32 hg s3 (by rw [hcs]; omega) (by omega) (fun u hu => r.one u (List.mem_of_mem_drop hu)) ?_
  unfold d_slices_Delete_uint32_uint32_2
  have e7 : i + (n - (i + 1)) = n - 1 := by omega
  rw [e7]
  have s4 : slV (some (none, 1)) (.slice (some ⟨g, 0, none⟩) (n - 1) cap) (some (.int .i64 (n - 1 : Nat))) (some (.int .i64 n)) = some (.slice (some ⟨g, (n - 1) * 1, none⟩) (n - (n - 1)) (cap - (n - 1))) := by
    have h1 : (n : Int) ≤ cap := by omega
    have h2 : ((n - 1 : Nat) : Int) ≤ n := by omega
    simp [slV, bnd, h1, h2, show ¬ cap = n - 1 by omega, Addr.add_lit]
  have hlen2 : lnV 7 (.slice (some ⟨g, 0, none⟩) (n - 1) cap) = some (.int .i64 (n - 1 : Nat)) := rfl
  simp only [hlen2, s4, ov_s]
  have l1 : (xs.drop ((i + 1) * 1)).length = (n - (i + 1)) * 1 := by rw [List.length_drop, hl, ← Nat.sub_mul]
  have l2 : (xs.take (i * 1)).length = i * 1 := by rw [List.length_take, hl]; omega
  have e8 : (n - 1) * 1 + (n - (n - 1)) * 1 = n * 1 := by rw [← Nat.add_mul]; congr 1; omega
  have cl : cur.toList.length = cap * 1 := by simpa using hcs
  have e9 : (over cur (0 + i * 1) (xs.drop ((i + 1) * 1))).toList = xs.take (i * 1) ++ xs.drop ((i + 1) * 1) ++ cur.toList.drop (0 + i * 1 + (n - (i + 1)) * 1) := by
    rw [over_list (by rw [hcs, l1]; omega)]
    unfold spl
    rw [l1]
    congr 2
    rw [← hct, List.take_take, Nat.min_eq_left (by omega), Nat.zero_add]
  have e10 : (xs.take (i * 1) ++ xs.drop ((i + 1) * 1)).length = (n - 1) * 1 := by rw [List.length_append, l1, l2, e5]
  refine clear_vv cUnU32 cApU32 (fun z hz => by rw [cZcU32] at hz; cases hz; rfl) (by omega) (upd_same' _ _ _) (by rw [over_size, hcs]; omega) (fun hz => by omega) fun cs hcs' => ?_
  rw [upd_upd]
  refine hk _ _ ⟨ext_upd hg0 r.ex, ⟨e10, .inr ⟨g, cap, _, rfl, upd_same' _ _ _, by omega, hcm, by simp [over_size, hcs], ?_⟩⟩, fun b hb => by simp [rowOf] at hb; subst hb; exact hg0, fun u hu => ?_⟩
  · rw [over_list (by rw [over_size, hcs, hcs']; omega), e9]
    unfold spl
    rw [List.append_assoc ((xs.take (i * 1) ++ xs.drop ((i + 1) * 1) ++ _).take _), List.take_append_of_le_length (by rw [List.length_take]; simp only [List.length_append, List.length_drop, l1, l2, cl]; omega), List.take_take, Nat.min_self]
    exact List.take_left' e10
  · simp only [List.mem_append] at hu
    rcases hu with hu | hu
    · exact r.one u (List.mem_of_mem_take hu)
    · exact r.one u (List.mem_of_mem_drop hu)
end Go.Proofs.YtcnphhhcknhhaaaGreat
namespace Go.Den
open Go
set_option linter.unusedVariables false
set_option linter.unusedSimpArgs false
structure El {α : Type} (sz : Nat) (R : Heap → List Value → α → Prop) (h : Heap) (L : List (List Value)) (ys : List α) : Prop where
  len : L.length = ys.length
  size : ∀ c ∈ L, c.length = sz
  one : ∀ c ∈ L, ∀ u ∈ c, u.oneCell' = true
  el : ∀ i (h1 : i < L.length) (h2 : i < ys.length), R h L[i] ys[i]
section
variable {α : Type} {sz : Nat} {R : Heap → List Value → α → Prop} {h h' : Heap} {L M : List (List Value)} {ys zs : List α}
theorem El.nil : El sz R h [] ([] : List α) := ⟨rfl, by simp, by simp, fun i h => by simp at h⟩
theorem El.ext (hR : ∀ {h h' c x}, Ext h h' → R h c x → R h' c x) (e : Ext h h') (x : El sz R h L ys) : El sz R h' L ys := ⟨x.len, x.size, x.one, fun i h1 h2 => hR e (x.el i h1 h2)⟩
theorem El.take (x : El sz R h L ys) (i : Nat) : El sz R h (L.take i) (ys.take i) :=
  ⟨by simp [x.len], fun c hc => x.size c (List.mem_of_mem_take hc), fun c hc => x.one c (List.mem_of_mem_take hc), fun k h1 h2 => by
    rw [List.getElem_take, List.getElem_take]; exact x.el k _ _⟩
theorem El.drop (x : El sz R h L ys) (i : Nat) : El sz R h (L.drop i) (ys.drop i) :=
  ⟨by simp [x.len], fun c hc => x.size c (List.mem_of_mem_drop hc), fun c hc => x.one c (List.mem_of_mem_drop hc), fun k h1 h2 => by
    rw [List.getElem_drop, List.getElem_drop]; exact x.el _ _ _⟩
theorem El.app (x : El sz R h L ys) (y : El sz R h M zs) : El sz R h (L ++ M) (ys ++ zs) := by
  refine ⟨by simp [x.len, y.len], fun c hc => ?_, fun c hc => ?_, fun i h1 h2 => ?_⟩
  · rcases List.mem_append.1 hc with hc | hc
    · exact x.size c hc
    · exact y.size c hc
  · rcases List.mem_append.1 hc with hc | hc
    · exact x.one c hc
    · exact y.one c hc
  · by_cases hi : i < L.length
    · have hi' : i < ys.length := by rw [← x.len]; exact hi
      rw [List.getElem_append_left hi, List.getElem_append_left hi']; exact x.el i hi hi'
    · have hi' : ¬ i < ys.length := by rw [← x.len]; exact hi
      rw [List.getElem_append_right (by omega), List.getElem_append_right (by omega)]
      have hl := x.len
      simp only [← hl]
      exact y.el (i - L.length) (by simp at h1; omega) (by simp at h2; omega)
theorem El.sing {c : List Value} {y : α} (h1 : c.length = sz) (h2 : ∀ u ∈ c, u.oneCell' = true) (h3 : R h c y) : El sz R h [c] [y] :=
  ⟨rfl, by simpa using h1, by simpa using h2, fun i (k1 : i < 1) k2 => by
    have : i = 0 := by omega
    subst this; exact h3⟩
theorem El.enc {enc : α → List Value} (hl : ∀ y, (enc y).length = sz) (h1 : ∀ y, ∀ u ∈ enc y, u.oneCell' = true) (hR : ∀ h y, R h (enc y) y) : El sz R h (ys.map enc) ys :=
  ⟨by simp, fun c hc => by obtain ⟨y, _, rfl⟩ := List.mem_map.1 hc; exact hl y, fun c hc => by obtain ⟨y, _, rfl⟩ := List.mem_map.1 hc; exact h1 y, fun i k1 k2 => by simp only [List.getElem_map]; exact hR h _⟩
theorem El.fone (x : El sz R h L ys) : ∀ u ∈ L.flatten, u.oneCell' = true := fun u hu => by
  obtain ⟨c, hc, hu⟩ := List.mem_flatten.1 hu
  exact x.one c hc u hu
theorem El.ftake (x : El sz R h L ys) (i : Nat) : L.flatten.take (i * sz) = (L.take i).flatten := flat_take x.size
theorem El.fdrop (x : El sz R h L ys) (i : Nat) : L.flatten.drop (i * sz) = (L.drop i).flatten := flat_drop x.size
theorem Sl.els {v : Value} (x : Sl sz R h v ys) (h1 : ∀ c y, R h c y → ∀ u ∈ c, u.oneCell' = true) : ∃ L, SlC sz h v ys.length L.flatten ∧ El sz R h L ys := by
  obtain ⟨L, q1, q2, q3, q4⟩ := x.slc
  refine ⟨L, q1, q2, q3, fun c hc => ?_, q4⟩
  obtain ⟨i, hi, rfl⟩ := List.getElem_of_mem hc
  exact h1 _ _ (q4 i hi (by omega))
theorem SlC.ext {v : Value} {n : Nat} {xs : List Value} (e : Ext h h') (x : SlC sz h v n xs) : SlC sz h' v n xs := by
  rcases x with ⟨h1, h2, h3⟩ | ⟨b, o, cap, h1, h2⟩
  · exact .inl ⟨h1, h2, h3⟩
  · exact .inr ⟨b, o, cap, h1, cels_ext e h2⟩
theorem Rf.sl {T : Tags} {e : TypeId} {h0 : Heap} {v : Value} {n : Nat} (r : Rf sz e h0 h v n L.flatten) (w : Wf T h0) (hn : n = ys.length) (x : El sz R (fz T h) L ys) : Sl sz R (fz T h) v ys :=
  (r.row.fz w r.new).slL hn x.len x.size x.el
end
theorem StrR.one {h : Heap} : ∀ c y, StrR h c y → ∀ u ∈ c, u.oneCell' = true := fun c y r u hu => by
  have : c = [.string y] := r.1
  subst this; simp at hu; subst hu; rfl
theorem SessR.one {h : Heap} : ∀ c y, SessR h c y → ∀ u ∈ c, u.oneCell' = true := fun c y r u hu => by
  have : c = sessC y := r
  subst this; simp [sessC] at hu; rcases hu with rfl | rfl | rfl | rfl <;> rfl
theorem MaskR.one {h : Heap} : ∀ c y, MaskR h c y → ∀ u ∈ c, u.oneCell' = true := fun c y r u hu => by
  have : c = [.int .u32 y] := r
  subst this; simp at hu; subst hu; rfl
theorem EntR.one {h : Heap} : ∀ c y, EntR h c y → ∀ u ∈ c, u.oneCell' = true := fun c y r u hu => by
  obtain ⟨v, rfl, h1, h2⟩ := r
  simp [presC] at hu; rcases hu with rfl | rfl | rfl | rfl
  · exact h1.one.1
  · rfl
  · rfl
  · rfl
theorem EvR.one {h : Heap} : ∀ c y, EvR h c y → ∀ u ∈ c, u.oneCell' = true := fun c y r u hu => by
  have : c = evC y := r
  subst this; simp [evC, presC] at hu; rcases hu with rfl | rfl | rfl | rfl | rfl | rfl | rfl | rfl <;> rfl
def putB {α : Type} : List (ByteArray × α) → ByteArray → α → List (ByteArray × α)
  | [], u, e => [(u, e)]
  | (k, x) :: r, u, e => if ltS k u then (k, x) :: putB r u e else if k = u then (u, e) :: r else (u, e) :: (k, x) :: r
def delB {α : Type} (b : List (ByteArray × α)) (u : ByteArray) : List (ByteArray × α) := b.filter fun x => !decide (x.1 = u)
def keysL {α : Type} (b : List (ByteArray × α)) : List ByteArray := b.map (·.1)
def hasL {α : Type} (b : List (ByteArray × α)) (u : ByteArray) : Bool := (keysL b).any fun k => decide (k = u)
theorem hasL_iff {α : Type} {b : List (ByteArray × α)} {u : ByteArray} : hasL b u = true ↔ u ∈ keysL b := by simp [hasL]
theorem pos_cons_lt {k u : ByteArray} {l : List ByteArray} (h : ltS k u = true) : pos (k :: l) u = pos l u + 1 := by simp [pos, List.takeWhile_cons, h]
theorem pos_cons_ge {k u : ByteArray} {l : List ByteArray} (h : ltS k u = false) : pos (k :: l) u = 0 := by simp [pos, List.takeWhile_cons, h]
theorem putB_has {α : Type} {u : ByteArray} {e : α} : ∀ {b : List (ByteArray × α)}, SrtK (keysL b) → u ∈ keysL b → putB b u e = b.take (pos (keysL b) u) ++ [(u, e)] ++ b.drop (pos (keysL b) u + 1)
  | [], _, h => by simp [keysL] at h
  | (k, x) :: r, s, h => by
    have s' : SrtK (keysL r) := (List.pairwise_cons.1 s).2
    simp only [putB]
    cases hk : ltS k u with
    | true =>
      have : u ∈ keysL r := by
        simp only [keysL, List.map_cons, List.mem_cons] at h
        rcases h with rfl | h
        · rw [ltS_irrefl] at hk; cases hk
        · exact h
      have e1 : pos (keysL ((k, x) :: r)) u = pos (keysL r) u + 1 := pos_cons_lt hk
      rw [e1, if_pos rfl, putB_has s' this]
      rfl
    | false =>
      have hku : k = u := by
        simp only [keysL, List.map_cons, List.mem_cons] at h
        rcases h with rfl | h
        · rfl
        · have := (List.pairwise_cons.1 s).1 u h
          rw [hk] at this; cases this
      have e1 : pos (keysL ((k, x) :: r)) u = 0 := pos_cons_ge hk
      rw [e1]
      simp [hku]
theorem putB_new {α : Type} {u : ByteArray} {e : α} : ∀ {b : List (ByteArray × α)}, SrtK (keysL b) → u ∉ keysL b → putB b u e = b.take (pos (keysL b) u) ++ [(u, e)] ++ b.drop (pos (keysL b) u)
  | [], _, h => by simp [putB]
  | (k, x) :: r, s, h => by
    have s' : SrtK (keysL r) := (List.pairwise_cons.1 s).2
    simp only [keysL, List.map_cons, List.mem_cons, not_or] at h
    simp only [putB]
    cases hk : ltS k u with
    | true =>
      have e1 : pos (keysL ((k, x) :: r)) u = pos (keysL r) u + 1 := pos_cons_lt hk
      rw [e1, if_pos rfl, putB_new s' h.2]
      rfl
    | false =>
      have e1 : pos (keysL ((k, x) :: r)) u = 0 := pos_cons_ge hk
      rw [e1]
      simp [Ne.symm h.1]
theorem delB_none {α : Type} {u : ByteArray} {b : List (ByteArray × α)} (h : u ∉ keysL b) : delB b u = b := by
  refine List.filter_eq_self.2 fun x hx => ?_
  have : x.1 ≠ u := fun e => h (e ▸ List.mem_map_of_mem hx)
  simp [this]
theorem delB_has {α : Type} {u : ByteArray} : ∀ {b : List (ByteArray × α)}, SrtK (keysL b) → u ∈ keysL b → delB b u = b.take (pos (keysL b) u) ++ b.drop (pos (keysL b) u + 1)
  | [], _, h => by simp [keysL] at h
  | (k, x) :: r, s, h => by
    have s' : SrtK (keysL r) := (List.pairwise_cons.1 s).2
    cases hk : ltS k u with
    | true =>
      have hne : k ≠ u := fun e => by rw [e, ltS_irrefl] at hk; cases hk
      have : u ∈ keysL r := by
        simp only [keysL, List.map_cons, List.mem_cons] at h
        exact h.resolve_left (Ne.symm hne)
      have e1 : pos (keysL ((k, x) :: r)) u = pos (keysL r) u + 1 := pos_cons_lt hk
      rw [e1]
      have := delB_has s' this
      unfold delB at this ⊢
      simp [hne, this]
    | false =>
      have hku : k = u := by
        simp only [keysL, List.map_cons, List.mem_cons] at h
        rcases h with rfl | h
        · rfl
        · have := (List.pairwise_cons.1 s).1 u h
          rw [hk] at this; cases this
      have e1 : pos (keysL ((k, x) :: r)) u = 0 := pos_cons_ge hk
      have hn : u ∉ keysL r := fun h => by
        have := (List.pairwise_cons.1 s).1 u h
        rw [hk] at this; cases this
      rw [e1]
      have := delB_none hn
      unfold delB at this ⊢
      simp [hku, this]
theorem keys_putB {α : Type} {u : ByteArray} {e : α} : ∀ {b : List (ByteArray × α)} {k : ByteArray}, k ∈ keysL (putB b u e) → k = u ∨ k ∈ keysL b
  | [], k, h => by simp [putB, keysL] at h; exact .inl h
  | (k', x) :: r, k, h => by
    simp only [putB] at h
    split at h
    · simp only [keysL, List.map_cons, List.mem_cons] at h ⊢
      rcases h with h | h
      · exact .inr (.inl h)
      · rcases keys_putB h with h | h
        · exact .inl h
        · exact .inr (.inr h)
    · split at h
      · simp only [keysL, List.map_cons, List.mem_cons] at h ⊢
        rcases h with h | h
        · exact .inl h
        · exact .inr (.inr h)
      · simp only [keysL, List.map_cons, List.mem_cons] at h ⊢
        exact h
theorem putB_srt {α : Type} {u : ByteArray} {e : α} : ∀ {b : List (ByteArray × α)}, SrtK (keysL b) → SrtK (keysL (putB b u e))
  | [], _ => by simp [putB, keysL, SrtK]
  | (k, x) :: r, s => by
    obtain ⟨s1, s2⟩ := List.pairwise_cons.1 s
    simp only [putB]
    cases hk : ltS k u with
    | true =>
      rw [if_pos rfl]
      refine List.pairwise_cons.2 ⟨fun j hj => ?_, putB_srt s2⟩
      rcases keys_putB hj with rfl | hj
      · exact hk
      · exact s1 j hj
    | false =>
      simp only [Bool.false_eq_true, if_false]
      by_cases hku : k = u
      · rw [if_pos hku]; subst hku; exact List.pairwise_cons.2 ⟨s1, s2⟩
      · rw [if_neg hku]
        have huk : ltS u k = true := by
          cases h : ltS u k with
          | true => rfl
          | false => exact absurd (ltS_total hk h) hku
        refine List.pairwise_cons.2 ⟨fun j hj => ?_, s⟩
        simp only [List.map_cons, List.mem_cons] at hj
        rcases hj with rfl | hj
        · exact huk
        · exact ltS_trans huk (s1 j hj)
theorem delB_srt {α : Type} {u : ByteArray} {b : List (ByteArray × α)} (s : SrtK (keysL b)) : SrtK (keysL (delB b u)) := by
  unfold SrtK keysL delB at *
  exact s.sublist ((List.filter_sublist).map _)
theorem putB_len {α : Type} {u : ByteArray} {e : α} : ∀ {b : List (ByteArray × α)}, (putB b u e).length ≤ b.length + 1
  | [] => by simp [putB]
  | (k, x) :: r => by
    have := putB_len (u := u) (e := e) (b := r)
    simp only [putB]; split
    · simp; omega
    · split <;> simp
theorem delB_len {α : Type} {u : ByteArray} {b : List (ByteArray × α)} : (delB b u).length ≤ b.length := List.length_filter_le _ _
end Go.Den
namespace Go.Den
open Go
set_option linter.unusedVariables false
theorem flat_spl {sz : Nat} {L : List (List Value)} {i : Nat} {c : List Value} (hL : ∀ c ∈ L, c.length = sz) (hi : i < L.length) (hc : c.length = sz) : spl L.flatten (i * sz) c = (L.take i ++ [c] ++ L.drop (i + 1)).flatten := by
  unfold spl
  rw [hc, show i * sz + sz = (i + 1) * sz by rw [Nat.add_mul]; omega, flat_take hL, flat_drop hL]
  simp
/-- An element of one's own new row is written. -/
theorem Rf.st {sz : Nat} {e : TypeId} {h0 h : Heap} {v : Value} {n : Nat} {L : List (List Value)} (r : Rf sz e h0 h v n L.flatten) (hL : ∀ c ∈ L, c.length = sz) (hn : L.length = n) {i : Nat} (hi : i < n) {c : Value} (hc : c.cells.size = sz) (h1 : ∀ u ∈ c.cells.toList, u.oneCell' = true) {k : IntKind} :
    ∃ g, rowOf v = some g ∧ iaV (some (none, sz)) v (.int k i) = some (.pointer (some ⟨g, i * sz, none⟩)) ∧ h0 g = none ∧ (∃ o, h g = some o) ∧
      ∀ K : Heap → Prop, (∀ o', Rf sz e h0 (upd h g o') v n (L.take i ++ [c.cells.toList] ++ L.drop (i + 1)).flatten → K (upd h g o')) → stM (some sz) (.pointer (some ⟨g, i * sz, none⟩)) c h K := by
  obtain ⟨g, h2, h3⟩ := r.row.ia (k := k) hi
  obtain ⟨o, ho⟩ := r.row.lt g h2
  refine ⟨g, h2, h3, r.new g h2, ⟨o, ho⟩, fun K hK => ?_⟩
  refine r.row.st h2 hc (by have : (i + 1) * sz ≤ n * sz := Nat.mul_le_mul_right _ hi
                            rw [Nat.add_mul] at this; omega) h1 fun h' hk hr => ?_
  obtain ⟨o', ho'⟩ := hr.lt g h2
  have e1 : h' = upd h g o' := upd_of hk ho'
  rw [flat_spl hL (by omega) (by simpa using hc)] at hr
  subst e1
  refine hK o' ⟨ext_upd (r.new g h2) r.ex, hr, r.new, fun u hu => ?_⟩
  simp only [List.flatten_append, List.mem_append, List.flatten_cons, List.flatten_nil, List.append_nil] at hu
  rcases hu with (hu | hu) | hu
  · obtain ⟨d, hd, hu⟩ := List.mem_flatten.1 hu
    exact r.one u (List.mem_flatten.2 ⟨d, List.mem_of_mem_take hd, hu⟩)
  · exact h1 u hu
  · obtain ⟨d, hd, hu⟩ := List.mem_flatten.1 hu
    exact r.one u (List.mem_flatten.2 ⟨d, List.mem_of_mem_drop hd, hu⟩)
theorem keys_put_has {α : Type} {u : ByteArray} {e : α} : ∀ {b : List (ByteArray × α)}, SrtK (keysL b) → u ∈ keysL b → keysL (putB b u e) = keysL b
  | [], _, h => by simp [keysL] at h
  | (k, x) :: r, s, h => by
    have s' : SrtK (keysL r) := (List.pairwise_cons.1 s).2
    simp only [putB]
    cases hk : ltS k u with
    | true =>
      have : u ∈ keysL r := by
        simp only [keysL, List.map_cons, List.mem_cons] at h
        rcases h with rfl | h
        · rw [ltS_irrefl] at hk; cases hk
        · exact h
      have ih := keys_put_has (e := e) s' this
      rw [if_pos rfl]
      simp only [keysL, List.map_cons] at ih ⊢
      rw [ih]
    | false =>
      have hku : k = u := by
        simp only [keysL, List.map_cons, List.mem_cons] at h
        rcases h with rfl | h
        · rfl
        · have := (List.pairwise_cons.1 s).1 u h
          rw [hk] at this; cases this
      simp [hku, keysL]
theorem Rf.skip {sz : Nat} {e : TypeId} {h0 h : Heap} {v : Value} {n : Nat} {xs : List Value} {b : Nat} {o : Obj} (r : Rf sz e h0 h v n xs) (hb : h0 b = none) (hv : rowOf v ≠ some b) : Rf sz e h0 (upd h b o) v n xs :=
  ⟨ext_upd hb r.ex, r.row.of_at fun g hg => by rw [upd_ne (fun hh => hv (by rw [hg, hh]))], r.new, r.one⟩
theorem Rf.ne_old {sz : Nat} {e : TypeId} {h0 h : Heap} {v : Value} {n : Nat} {xs : List Value} {b : Nat} {o : Obj} (r : Rf sz e h0 h v n xs) (hb : h0 b = some o) : rowOf v ≠ some b := fun hh => by rw [r.new b hh] at hb; cases hb
theorem Rf.ne_new {sz : Nat} {e : TypeId} {h0 h : Heap} {v : Value} {n : Nat} {xs : List Value} {b : Nat} (r : Rf sz e h0 h v n xs) (hb : h b = none) : rowOf v ≠ some b := fun hh => by obtain ⟨o, ho⟩ := r.row.lt b hh; rw [hb] at ho; cases ho
end Go.Den
namespace Go.Den
open Go
theorem cels_sub {h : Heap} {b o n : Nat} {l : List Value} (hc : cels h b o n = some l) {j m : Nat} (hj : j + m ≤ n) : cels h b (o + j) m = some ((l.drop j).take m) := by
  obtain ⟨h1, h2⟩ := cels_get hc
  have : ∀ (m o : Nat) (l' : List Value), l'.length = m → (∀ i (hi : i < m), cel h b (o + i) = l'[i]?) → cels h b o m = some l' := by
    intro m
    induction m with
    | zero => intro o l' hl _; simp [List.eq_nil_of_length_eq_zero hl, cels]
    | succ m ih =>
      intro o l' hl hi
      cases l' with
      | nil => simp at hl
      | cons x l' =>
        have e0 := hi 0 (by omega)
        simp only [Nat.add_zero, List.getElem?_cons_zero] at e0
        have e1 := ih (o + 1) l' (by simpa using hl) fun i hi' => by
          have := hi (i + 1) (by omega)
          rw [List.getElem?_cons_succ] at this
          rw [← this]; congr 1; omega
        simp only [cels, e0, e1]
  refine this m (o + j) _ (by simp; omega) fun i hi => ?_
  have := h2 (j + i) (by omega)
  rw [show o + j + i = o + (j + i) by omega, this, List.getElem?_take_of_lt hi, List.getElem?_drop]
  exact (List.getElem?_eq_getElem _).symm
end Go.Den
namespace Go.Den
open Go
def valL {α : Type} (d : α) : List (ByteArray × α) → ByteArray → α
  | [], _ => d
  | (k, e) :: r, u => if k = u then e else valL d r u
theorem valL_mem {α : Type} {d : α} {b : List (ByteArray × α)} (s : SrtK (keysL b)) {i : Nat} (hi : i < b.length) : valL d b b[i].1 = b[i].2 := by
  induction b generalizing i with
  | nil => simp at hi
  | cons x b ih =>
    obtain ⟨k, e⟩ := x
    have s' : SrtK (keysL b) := (List.pairwise_cons.1 s).2
    cases i with
    | zero => simp [valL]
    | succ i =>
      have hi' : i < b.length := by simpa using hi
      have hne : ¬ k = b[i].1 := fun h => by
        have := (List.pairwise_cons.1 s).1 b[i].1 (List.mem_map_of_mem (List.getElem_mem _))
        rw [h, ltS_irrefl] at this; cases this
      simp only [List.getElem_cons_succ, valL, if_neg hne]
      exact ih s' hi'
theorem valL_none {α : Type} {d : α} {b : List (ByteArray × α)} {u : ByteArray} (h : u ∉ keysL b) : valL d b u = d := by
  induction b with
  | nil => rfl
  | cons x b ih =>
    obtain ⟨k, e⟩ := x
    simp only [keysL, List.map_cons, List.mem_cons, not_or] at h
    simp only [valL, if_neg (Ne.symm h.1)]
    exact ih h.2
end Go.Den
namespace Go.Proofs.YtcnphhhcknhhaaaGreat
open Go Go.Den Go.MapKept
set_option linter.unusedSimpArgs false
set_option linter.unusedVariables false
set_option maxRecDepth 20000
theorem row_sl {sz : Nat} {e : TypeId} {h : Heap} {v : Value} {n : Nat} {xs : List Value} (r : Row sz e h v n xs) : ∃ a n c, v = .slice a n c := by
  rcases r.2 with ⟨rfl, _⟩ | ⟨g, cap, cur, rfl, _⟩ <;> exact ⟨_, _, _, rfl⟩
theorem sl_sl {α : Type} {sz : Nat} {R : Heap → List Value → α → Prop} {h : Heap} {v : Value} {xs : List α} (x : Sl sz R h v xs) : ∃ a n c, v = .slice a n c := by
  rcases x with ⟨rfl, a, c, rfl⟩ | ⟨b, o, cap, rfl, _⟩ <;> exact ⟨_, _, _, rfl⟩
end Go.Proofs.YtcnphhhcknhhaaaGreat
namespace Go.Proofs.YtcnphhhcknhhaaaGreat
open Go Go.Den Go.MapKept
set_option linter.unusedSimpArgs false
set_option linter.unusedVariables false
set_option maxRecDepth 20000
def WsR (h : Heap) (k v : Value) (b : List (ByteArray × Int)) : Prop := Sl 1 StrR h k (b.map (·.1)) ∧ Sl 1 MaskR h v (b.map (·.2)) ∧ Sn k ∧ Sn v
theorem WsR.ext {h h' : Heap} {k v : Value} {b : List (ByteArray × Int)} (e : Ext h h') (r : WsR h k v b) : WsR h' k v b := ⟨r.1.ext (@StrR.ext) e, r.2.1.ext (@MaskR.ext) e, r.2.2⟩
theorem zcMap2 : zc P ty_omap_Map_string_uint32 = some #[.slice none 0 0, .slice none 0 0] := by kernel_rfl
theorem tgMap2 : tagg P ty_omap_Map_string_uint32 = some (some 2) := by kernel_rfl
theorem bdMap2 (a b : Option Addr) (n m c d : Nat) : bdV (binf P ty_omap_Map_string_uint32) [(0, .slice a n c), (1, .slice b m d)] = some (.agg #[.slice a n c, .slice b m d]) := by kernel_rfl
theorem bdMapS2 {k v : Value} (hk : ∃ a n c, k = .slice a n c) (hv : ∃ a n c, v = .slice a n c) : bdV (binf P ty_omap_Map_string_uint32) [(0, k), (1, v)] = some (.agg #[k, v]) := by
  obtain ⟨a, n, c, rfl⟩ := hk
  obtain ⟨b, m, d, rfl⟩ := hv
  exact bdMap2 _ _ _ _ _ _
theorem mfind_ok (l : List ByteArray) (so : SrtK l) (u : ByteArray) {h : Heap} {kw vw : Value} (ov_ : vw.cells = #[vw]) (x : Sl 1 StrR h kw l) (hl : l.length < 1000000) {K : Value → Heap → Prop} (hk : ∀ h', Ext h h' → K (.tuple #[.int .i64 (pos l u), .bool (l.any fun k => decide (k = u))]) h') :
    callM P fn_omap_Map_string_uint32_find #[.agg #[kw, vw], .string u] h K := by
  apply e_omap_Map_string_uint32_find
  unfold d_omap_Map_string_uint32_find
  refine nw_agg fun v1 h1 n1 e1 c1 => ?_
  simp -implicitDefEqProofs [ld_at c1, cel_of c1, stm_at c1, stm_upd, ld_same, cel_same, over]
  refine bs_ok l so u (x.ext (@StrR.ext) e1) hl ?_
  simp -implicitDefEqProofs
  exact hk _ e1
/-- A key's mask is put. -/
theorem mwith_ok (b : List (ByteArray × Int)) (so : SrtK (keysL b)) (u : ByteArray) (hu : u.size ≤ maxLen) (e : Int) {T : Tags} {h : Heap} (w : Wf T h) {kw vw : Value} (x : WsR (fz T h) kw vw b) (hl : b.length < 1000000) {K : Value → Heap → Prop}
    (hk : ∀ h' k v, Ext h h' → WsR (fz T h') k v (putB b u e) → K (.agg #[k, v]) h') : callM P fn_omap_Map_string_uint32_With #[.agg #[kw, vw], .string u, .int .u32 e] h K := by
  apply e_omap_Map_string_uint32_With
  unfold d_omap_Map_string_uint32_With
  rw [zcMap2]
  refine nw_agg fun v1 h1 n1 e1 c1 => ?_
  refine nw_intro fun v5 h5 n5 e5 c5 => ?_
  have ne15 := ne_fresh c1 n5
  have c1 := e5 _ _ c1
  have n5 : h v5 = none := fresh_of e1 n5
  have e0 := e1.trans e5
  have kl : (keysL b).length = b.length := by simp [keysL]
  simp -implicitDefEqProofs [ld_at c1, cel_of c1, stm_at c1, stm_upd, ld_same, cel_same, over]
  refine mfind_ok (keysL b) so u x.2.1.one.2 (x.1.ext (@StrR.ext) ((fz_ext T h).trans e0)) (by omega) fun h6 e6 => ?_
  have c1 := e6 _ _ c1
  have c5 := e6 _ _ c5
  have e0 := e0.trans e6
  have w6 := w.ext e0
  have x6 : WsR (fz T h6) kw vw b := x.ext (fz_of_ext e0)
  unfold d_omap_Map_string_uint32_With_1
  simp -implicitDefEqProofs only [exV_0, exV_1, ov_s]
  rw [seqM_eq]
  unfold d_omap_Map_string_uint32_With_2
  simp -implicitDefEqProofs only [cd_b]
  have o1 := x6.1.one
  have o2 := x6.2.1.one
  obtain ⟨Lk, k1, k2⟩ := x.1.els StrR.one
  obtain ⟨Lv, l1, l2⟩ := x.2.1.els MaskR.one
  simp -implicitDefEqProofs only [List.length_map] at k1 l1
  have lk := k2.len
  have lv := l2.len
  simp -implicitDefEqProofs only [List.length_map] at lk lv
  refine ⟨fun hy => ?_, fun hno => ?_⟩
  · have hyes : hasL b u = true := hy
    have hmem := hasL_iff.1 hyes
    obtain ⟨p1, p2⟩ := (mem_pos so u).1 hmem
    have hpb : pos (keysL b) u < b.length := by omega
    have put : putB b u e = b.take (pos (keysL b) u) ++ [(u, e)] ++ b.drop (pos (keysL b) u + 1) := putB_has so hmem
    have keq : (putB b u e).map (·.1) = b.map (·.1) := keys_put_has so hmem
    obtain ⟨p, hp⟩ : ∃ p, pos (keysL b) u = p := ⟨_, rfl⟩
    rw [hp] at hpb put ⊢
    -- what is left once the values lie anew
    have fin : ∀ (h7 : Heap) (vo v' : Value) (o : Nat) (s : Env) (m : List Nat), vo = ptr o → Ext h6 h7 → h6 o = none → h7 o = some (.cells #[kw, v'] ty_omap_Map_string_uint32 (0, 0)) → rowOf v' ≠ some o → Rf 1 ty_uint32 h6 h7 v' b.length Lv.flatten →
        s 9 = vo → s 2 = .int .u32 e → s 6 = ptr v5 → s 7 = .int .i64 p → d_omap_Map_string_uint32_With_8 s h7 (thenM (fun m s13 h14 => d_omap_Map_string_uint32_With_9 s13 h14 m K) (retM P [.cell 6 ty_omap_Map_string_uint32] K)) [] := by
      rintro h7 vo v' o s m rfl e7 no co hro r s9 s2 s6 s7
      have nov : v5 ≠ o := ne_fresh c5 no
      have c1' := c1
      have c5' := c5
      have c1 := e7 _ _ c1
      have c5 := e7 _ _ c5
      obtain ⟨g, q1, q2, q3, ⟨go, q4⟩, q5⟩ := r.st (i := p) (c := .int .u32 e) (k := .i64) l2.size (by omega) hpb (by simp) (by simp)
      have hgo : g ≠ o := fun hh => hro (by rw [q1, hh])
      have hg5 : v5 ≠ g := ne_fresh c5' q3
      have hg1 : v1 ≠ g := ne_fresh c1' q3
      simp -implicitDefEqProofs only [Nat.mul_one] at q2 q5
      unfold d_omap_Map_string_uint32_With_8
      have ov' := r.row.one
      simp -implicitDefEqProofs [s9, s2, s6, s7, ld_at co, cel_of co, stm_at co, ld_at c5, cel_of c5, stm_at c5, stm_upd, ld_same, cel_same, over, q2]
      refine q5 _ fun o' r' => ?_
      have e8 := ext_upd (o := o') q3 e7
      simp -implicitDefEqProofs [ld_at co, cel_of co, stm_at co, ld_at c5, cel_of c5, stm_at c5, stm_skip hgo, stm_skip (Ne.symm hgo), ld_skip hgo, ld_skip (Ne.symm hgo), cel_skip hgo, cel_skip (Ne.symm hgo), stm_skip hg5, stm_skip (Ne.symm hg5), ld_skip hg5, ld_skip (Ne.symm hg5), cel_skip hg5, cel_skip (Ne.symm hg5), stm_upd, ld_same, cel_same, over, s9, s2, s6, s7, o1.1, ov'.1, tgMap2]
      rw [upd_comm hg5]
      have e9 := ext_upd (o := .cells #[kw, v'] ty_omap_Map_string_uint32 (0, 0)) n5 (e0.trans e8)
      refine hk _ kw v' e9 ⟨?_, ?_, x.2.2.1, r'.row.sn⟩
      · rw [keq]; exact x.1.ext (@StrR.ext) (fz_of_ext e9)
      · have r9 := (r'.back e0).skip (o := .cells #[kw, v'] ty_omap_Map_string_uint32 (0, 0)) n5 (by rw [q1]; intro hh; cases hh; exact hg5 rfl)
        rw [put]
        simp -implicitDefEqProofs only [List.map_append, List.map_take, List.map_drop, List.map_cons, List.map_nil]
        have l3 := l2.ext (@MaskR.ext) (fz_of_ext e9)
        exact r9.sl w (by simp; omega) (((l3.take p).app (El.sing (c := [.int .u32 e]) (by simp) (by simp) rfl)).app (l3.drop (p + 1)))
    unfold d_omap_Map_string_uint32_With_3
    rw [seqM_eq]
    unfold d_omap_Map_string_uint32_With_4
    have lv6 := (l1.ext ((fz_ext T h).trans e0))
    simp -implicitDefEqProofs [ld_at c1, cel_of c1, stm_at c1, stm_upd, ld_same, cel_same, over]
    refine ⟨?_, ?_⟩
    · unfold d_omap_Map_string_uint32_With_5
      refine cloneEU32 lv6 x.2.2.2 l2.fone (by omega) fun v' h7 r7 => ?_
      have c1' := r7.ex _ _ c1
      unfold d_omap_Map_string_uint32_With_6
      simp -implicitDefEqProofs [ld_at c1', cel_of c1', stm_at c1', stm_upd, ld_same, cel_same, over, bdMapS2 (sl_sl x.1) (row_sl r7.row), zcMap2]
      intro o no
      have ne := ne_fresh c1' no
      have no6 := fresh_of r7.ex no
      have hro : rowOf v' ≠ some o := fun hh => by obtain ⟨z, hz⟩ := r7.row.lt o hh; rw [no] at hz; cases hz
      simp -implicitDefEqProofs [ld_at c1', cel_of c1', stm_at c1', stm_skip ne, stm_skip (Ne.symm ne), ld_skip ne, ld_skip (Ne.symm ne), cel_skip ne, cel_skip (Ne.symm ne), stm_upd, ld_same, cel_same, over, o1.1, r7.row.one.1]
      refine fin _ _ v' o _ [] rfl (ext_upd no6 r7.ex) no6 (upd_same' _ _ _) hro (r7.skip no6 hro) ?_ ?_ ?_ ?_ <;> simp
    · unfold d_omap_Map_string_uint32_With_7
      rw [zcMap2]
      simp -implicitDefEqProofs only [nwM_s]
      intro o no
      have ne := ne_fresh c1 no
      have e7 : Ext h6 (upd h6 o _) := Ext.upd no (.cells #[.slice none 0 0, .slice none 0 0] ty_omap_Map_string_uint32 (0, 0))
      have co := upd_same' h6 o (.cells #[.slice none 0 0, .slice none 0 0] ty_omap_Map_string_uint32 (0, 0))
      have c1' := e7 _ _ c1
      generalize upd h6 o _ = h7 at *
      simp -implicitDefEqProofs [ld_at c1', cel_of c1', stm_at c1', stm_upd, ld_same, cel_same, over]
      refine cloneEU32 (lv6.ext e7) x.2.2.2 l2.fone (by omega) fun v' h8 r8 => ?_
      have c1' := r8.ex _ _ c1'
      have co0 := co
      have co := r8.ex _ _ co
      have hro : rowOf v' ≠ some o := fun hh => by have h1 := r8.new o hh; rw [co0] at h1; cases h1
      simp -implicitDefEqProofs [ld_at c1', cel_of c1', stm_at c1', ld_at co, cel_of co, stm_at co, stm_upd, ld_same, cel_same, over, o1.1, r8.row.one.1, bdMapS2 (sl_sl x.1) (row_sl r8.row)]
      refine fin _ _ v' o _ [] rfl (ext_upd no (e7.trans r8.ex)) no (upd_same' _ _ _) hro ((r8.back e7).skip no hro) ?_ ?_ ?_ ?_ <;> simp
  · have hno' : hasL b u = false := hno
    have hmem : u ∉ keysL b := fun hh => by rw [hasL_iff.2 hh] at hno'; cases hno'
    have put : putB b u e = b.take (pos (keysL b) u) ++ [(u, e)] ++ b.drop (pos (keysL b) u) := putB_new so hmem
    have hpb := (pos_spec so u).1
    obtain ⟨p, hp⟩ : ∃ p, pos (keysL b) u = p := ⟨_, rfl⟩
    rw [hp] at hpb put ⊢
    have hpb : p ≤ b.length := by omega
    have k0 := k1.ext ((fz_ext T h).trans e0)
    have l0 := l1.ext ((fz_ext T h).trans e0)
    have k0 : SlC 1 h6 kw b.length Lk.flatten := k0
    have l0 : SlC 1 h6 vw b.length Lv.flatten := l0
    have fin2 : ∀ (h' : Heap) (vk vv : Value), Ext h6 h' → Rf 1 ty_string h6 h' vk (b.length + 1) (Lk.flatten.take (p * 1) ++ (Value.string u).cells.toList ++ Lk.flatten.drop (p * 1)) →
        Rf 1 ty_uint32 h6 h' vv (b.length + 1) (Lv.flatten.take (p * 1) ++ (Value.int .u32 e).cells.toList ++ Lv.flatten.drop (p * 1)) → ∀ s : Env, s 6 = ptr v5 →
        ov (bdV (binf P ty_omap_Map_string_uint32) [(0, vk), (1, vv)]) fun v => stM (some 2) (ptr v5) v h' fun h'' => retM P [.cell 6 ty_omap_Map_string_uint32] K .ret [] s h'' := by
      intro h' vk vv e7 rk rv s s6
      have c5' := e7 _ _ c5
      have u1 := rk.row.one
      have u2 := rv.row.one
      have nk : rowOf vk ≠ some v5 := Rf.ne_old rk c5
      have nv : rowOf vv ≠ some v5 := Rf.ne_old rv c5
      simp -implicitDefEqProofs [bdMapS2 (row_sl rk.row) (row_sl rv.row), ld_at c5', cel_of c5', stm_at c5', stm_upd, ld_same, cel_same, over, u1.1, u2.1, tgMap2, s6]
      have e9 := ext_upd (o := .cells #[vk, vv] ty_omap_Map_string_uint32 (0, 0)) n5 (e0.trans e7)
      have rk9 := (rk.back e0).skip (o := .cells #[vk, vv] ty_omap_Map_string_uint32 (0, 0)) n5 nk
      have rv9 := (rv.back e0).skip (o := .cells #[vk, vv] ty_omap_Map_string_uint32 (0, 0)) n5 nv
      have k3 := k2.ext (@StrR.ext) (fz_of_ext e9)
      have l3 := l2.ext (@MaskR.ext) (fz_of_ext e9)
      refine hk _ vk vv e9 ⟨?_, ?_, rk.row.sn, rv.row.sn⟩
      · have := ((k3.take p).app (El.sing (c := [.string u]) (y := u) (by simp) (by simp) ⟨rfl, hu⟩)).app (k3.drop p)
        rw [k2.ftake, k2.fdrop] at rk9
        rw [put]
        simp -implicitDefEqProofs only [List.map_append, List.map_take, List.map_drop, List.map_cons, List.map_nil]
        have e8 : (Lk.take p).flatten ++ (Value.string u).cells.toList ++ (Lk.drop p).flatten = (Lk.take p ++ [[Value.string u]] ++ Lk.drop p).flatten := by simp
        rw [e8] at rk9
        exact rk9.sl w (by simp; omega) this
      · have := ((l3.take p).app (El.sing (c := [.int .u32 e]) (by simp) (by simp) rfl)).app (l3.drop p)
        rw [l2.ftake, l2.fdrop] at rv9
        rw [put]
        simp -implicitDefEqProofs only [List.map_append, List.map_take, List.map_drop, List.map_cons, List.map_nil]
        have e8 : (Lv.take p).flatten ++ (Value.int .u32 e).cells.toList ++ (Lv.drop p).flatten = (Lv.take p ++ [(Value.int .u32 e).cells.toList] ++ Lv.drop p).flatten := by simp
        rw [e8] at rv9
        exact rv9.sl w (by simp; omega) this
    have main : ∀ s : Env, s 1 = .string u → s 3 = ptr v1 → s 2 = .int .u32 e → s 6 = ptr v5 → s 7 = .int .i64 p → d_omap_Map_string_uint32_With_10 s h6 (thenM (fun m s42 h43 => (retM P [.cell 6 ty_omap_Map_string_uint32] K) .ret m s42 h43) (retM P [.cell 6 ty_omap_Map_string_uint32] K)) [] := by
      intro s s1 s3 s2 s6 s7
      have ec0 := Ext.refl h6
      unfold d_omap_Map_string_uint32_With_10
      simp -implicitDefEqProofs [ld_at c1, cel_of c1, stm_at c1, stm_upd, ld_same, cel_same, over, s1, s3, s2, s6, s7]
      refine ⟨?_, ?_, ?_⟩
      ·
        unfold d_omap_Map_string_uint32_With_11
        try simp only [s1, s3, s2, s6, s7]
        refine cloneEStr (k0.ext ec0) x.2.2.1 k2.fone (by omega) fun vk1 h1_ rk1 => ?_
        have eb1 := ec0
        have ec1 := ec0.trans rk1.ex
        have c1_1 := ec1 _ _ c1
        unfold d_omap_Map_string_uint32_With_12
        try simp only [s1, s3, s2, s6, s7]
        refine ⟨by simp [ld_at c1_1, cel_of c1_1, stm_at c1_1, stm_upd, ld_same, cel_same, over], ?_⟩
        refine ⟨?_, ?_⟩
        ·
          refine bs_one cBsStr (by simp) (by omega) fun b2 h2_ n2 e2 bk2 => ?_
          have nn2 := Rf.ne_new rk1 n2
          have rkk2 := rk1.ext e2
          have ec2 := ec1.trans e2
          have c1_2 := ec2 _ _ c1
          refine ⟨by simp [ld_at c1_2, cel_of c1_2, stm_at c1_2, stm_upd, ld_same, cel_same, over], ?_⟩
          refine ⟨?_, ?_⟩
          ·
            refine insEStr rkk2 rfl bk2 nn2 (by omega) (by omega) (by simp) fun vk3 h3_ rk3 kb3 => ?_
            have ec3 := eb1.trans rk3.ex
            have rk03 := rk3.back eb1
            have c1_3 := ec3 _ _ c1
            unfold d_omap_Map_string_uint32_With_13
            try simp only [s1, s3, s2, s6, s7]
            refine ⟨by simp [ld_at c1_3, cel_of c1_3, stm_at c1_3, stm_upd, ld_same, cel_same, over], ?_⟩
            refine ⟨?_, ?_⟩
            ·
              refine cloneEU32 (l0.ext ec3) x.2.2.2 l2.fone (by omega) fun vv4 h4_ rv4 => ?_
              have rkk4 := rk03.ext rv4.ex
              have eb4 := ec3
              have ec4 := ec3.trans rv4.ex
              have c1_4 := ec4 _ _ c1
              unfold d_omap_Map_string_uint32_With_14
              try simp only [s1, s3, s2, s6, s7]
              refine bs_one cBsU32 rfl (by omega) fun b5 h5_ n5 e5 bv5 => ?_
              have nn5 := Rf.ne_new rkk4 n5
              have rkk5 := rkk4.ext e5
              have nv5 := Rf.ne_new rv4 n5
              have rvv5 := rv4.ext e5
              have ec5 := ec4.trans e5
              have c1_5 := ec5 _ _ c1
              refine insEU32 rvv5 rfl bv5 nv5 (by omega) (by omega) (by simp) fun vv6 h6_ rv6 kb6 => ?_
              have ec6 := eb4.trans rv6.ex
              have c1_6 := ec6 _ _ c1
              unfold d_omap_Map_string_uint32_With_15
              try simp only [s1, s3, s2, s6, s7]
              exact fin2 _ _ _ ec6 (rk03.ext rv6.ex) (rv6.back eb4) _ (by simp [s6])
            ·
              refine bs_one cBsU32 rfl (by omega) fun b8 h8_ n8 e8 bv8 => ?_
              have nn8 := Rf.ne_new rk03 n8
              have rkk8 := rk03.ext e8
              have ec8 := ec3.trans e8
              have c1_8 := ec8 _ _ c1
              refine ⟨by simp [ld_at c1_8, cel_of c1_8, stm_at c1_8, stm_upd, ld_same, cel_same, over], ?_⟩
              refine cloneEU32 (l0.ext ec8) x.2.2.2 l2.fone (by omega) fun vv9 h9_ rv9 => ?_
              have rkk9 := rkk8.ext rv9.ex
              have nbv9 := Rf.ne_old rv9 bv8
              have bv9 := rv9.ex _ _ bv8
              have eb9 := ec8
              have ec9 := ec8.trans rv9.ex
              have c1_9 := ec9 _ _ c1
              refine insEU32 rv9 rfl bv9 nbv9 (by omega) (by omega) (by simp) fun vv10 h10_ rv10 kb10 => ?_
              have ec10 := eb9.trans rv10.ex
              have c1_10 := ec10 _ _ c1
              unfold d_omap_Map_string_uint32_With_16
              try simp only [s1, s3, s2, s6, s7]
              exact fin2 _ _ _ ec10 (rkk8.ext rv10.ex) (rv10.back eb9) _ (by simp [s6])
          ·
            refine bs_one cBsU32 rfl (by omega) fun b12 h12_ n12 e12 bv12 => ?_
            have nn12 := Rf.ne_new rkk2 n12
            have rkk12 := rkk2.ext e12
            have bk12 := e12 _ _ bk2
            have ec12 := ec2.trans e12
            have c1_12 := ec12 _ _ c1
            refine ⟨by simp [ld_at c1_12, cel_of c1_12, stm_at c1_12, stm_upd, ld_same, cel_same, over], ?_⟩
            refine insEStr rkk12 rfl bk12 nn2 (by omega) (by omega) (by simp) fun vk13 h13_ rk13 kb13 => ?_
            have bv13 := kb13 _ _ bv12 nn12
            have ec13 := eb1.trans rk13.ex
            have rk013 := rk13.back eb1
            have c1_13 := ec13 _ _ c1
            refine ⟨by simp [ld_at c1_13, cel_of c1_13, stm_at c1_13, stm_upd, ld_same, cel_same, over], ?_⟩
            refine cloneEU32 (l0.ext ec13) x.2.2.2 l2.fone (by omega) fun vv14 h14_ rv14 => ?_
            have rkk14 := rk013.ext rv14.ex
            have nbv14 := Rf.ne_old rv14 bv13
            have bv14 := rv14.ex _ _ bv13
            have eb14 := ec13
            have ec14 := ec13.trans rv14.ex
            have c1_14 := ec14 _ _ c1
            refine insEU32 rv14 rfl bv14 nbv14 (by omega) (by omega) (by simp) fun vv15 h15_ rv15 kb15 => ?_
            have ec15 := eb14.trans rv15.ex
            have c1_15 := ec15 _ _ c1
            unfold d_omap_Map_string_uint32_With_17
            try simp only [s1, s3, s2, s6, s7]
            exact fin2 _ _ _ ec15 (rk013.ext rv15.ex) (rv15.back eb14) _ (by simp [s6])
        ·
          refine bs_one cBsU32 rfl (by omega) fun b17 h17_ n17 e17 bv17 => ?_
          have nn17 := Rf.ne_new rk1 n17
          have rkk17 := rk1.ext e17
          have ec17 := ec1.trans e17
          have c1_17 := ec17 _ _ c1
          refine ⟨by simp [ld_at c1_17, cel_of c1_17, stm_at c1_17, stm_upd, ld_same, cel_same, over], ?_⟩
          refine bs_one cBsStr (by simp) (by omega) fun b18 h18_ n18 e18 bk18 => ?_
          have nn18 := Rf.ne_new rkk17 n18
          have rkk18 := rkk17.ext e18
          have bv18 := e18 _ _ bv17
          have ec18 := ec17.trans e18
          have c1_18 := ec18 _ _ c1
          refine ⟨by simp [ld_at c1_18, cel_of c1_18, stm_at c1_18, stm_upd, ld_same, cel_same, over], ?_⟩
          refine insEStr rkk18 rfl bk18 nn18 (by omega) (by omega) (by simp) fun vk19 h19_ rk19 kb19 => ?_
          have bv19 := kb19 _ _ bv18 nn17
          have ec19 := eb1.trans rk19.ex
          have rk019 := rk19.back eb1
          have c1_19 := ec19 _ _ c1
          refine ⟨by simp [ld_at c1_19, cel_of c1_19, stm_at c1_19, stm_upd, ld_same, cel_same, over], ?_⟩
          refine cloneEU32 (l0.ext ec19) x.2.2.2 l2.fone (by omega) fun vv20 h20_ rv20 => ?_
          have rkk20 := rk019.ext rv20.ex
          have nbv20 := Rf.ne_old rv20 bv19
          have bv20 := rv20.ex _ _ bv19
          have eb20 := ec19
          have ec20 := ec19.trans rv20.ex
          have c1_20 := ec20 _ _ c1
          refine insEU32 rv20 rfl bv20 nbv20 (by omega) (by omega) (by simp) fun vv21 h21_ rv21 kb21 => ?_
          have ec21 := eb20.trans rv21.ex
          have c1_21 := ec21 _ _ c1
          unfold d_omap_Map_string_uint32_With_18
          try simp only [s1, s3, s2, s6, s7]
          exact fin2 _ _ _ ec21 (rk019.ext rv21.ex) (rv21.back eb20) _ (by simp [s6])
      ·
        unfold d_omap_Map_string_uint32_With_19
        try simp only [s1, s3, s2, s6, s7]
        refine bs_one cBsStr (by simp) (by omega) fun b23 h23_ n23 e23 bk23 => ?_
        have ec23 := ec0.trans e23
        have c1_23 := ec23 _ _ c1
        refine ⟨by simp [ld_at c1_23, cel_of c1_23, stm_at c1_23, stm_upd, ld_same, cel_same, over], ?_⟩
        refine ⟨by simp [ld_at c1_23, cel_of c1_23, stm_at c1_23, stm_upd, ld_same, cel_same, over], ?_⟩
        refine ⟨?_, ?_⟩
        ·
          refine cloneEStr (k0.ext ec23) x.2.2.1 k2.fone (by omega) fun vk24 h24_ rk24 => ?_
          have nbk24 := Rf.ne_old rk24 bk23
          have bk24 := rk24.ex _ _ bk23
          have eb24 := ec23
          have ec24 := ec23.trans rk24.ex
          have c1_24 := ec24 _ _ c1
          unfold d_omap_Map_string_uint32_With_20
          try simp only [s1, s3, s2, s6, s7]
          refine ⟨by simp [ld_at c1_24, cel_of c1_24, stm_at c1_24, stm_upd, ld_same, cel_same, over], ?_⟩
          refine ⟨?_, ?_⟩
          ·
            refine insEStr rk24 rfl bk24 nbk24 (by omega) (by omega) (by simp) fun vk25 h25_ rk25 kb25 => ?_
            have ec25 := eb24.trans rk25.ex
            have rk025 := rk25.back eb24
            have c1_25 := ec25 _ _ c1
            unfold d_omap_Map_string_uint32_With_21
            try simp only [s1, s3, s2, s6, s7]
            refine ⟨by simp [ld_at c1_25, cel_of c1_25, stm_at c1_25, stm_upd, ld_same, cel_same, over], ?_⟩
            refine ⟨?_, ?_⟩
            ·
              refine cloneEU32 (l0.ext ec25) x.2.2.2 l2.fone (by omega) fun vv26 h26_ rv26 => ?_
              have rkk26 := rk025.ext rv26.ex
              have eb26 := ec25
              have ec26 := ec25.trans rv26.ex
              have c1_26 := ec26 _ _ c1
              unfold d_omap_Map_string_uint32_With_22
              try simp only [s1, s3, s2, s6, s7]
              refine bs_one cBsU32 rfl (by omega) fun b27 h27_ n27 e27 bv27 => ?_
              have nn27 := Rf.ne_new rkk26 n27
              have rkk27 := rkk26.ext e27
              have nv27 := Rf.ne_new rv26 n27
              have rvv27 := rv26.ext e27
              have ec27 := ec26.trans e27
              have c1_27 := ec27 _ _ c1
              refine insEU32 rvv27 rfl bv27 nv27 (by omega) (by omega) (by simp) fun vv28 h28_ rv28 kb28 => ?_
              have ec28 := eb26.trans rv28.ex
              have c1_28 := ec28 _ _ c1
              unfold d_omap_Map_string_uint32_With_23
              try simp only [s1, s3, s2, s6, s7]
              exact fin2 _ _ _ ec28 (rk025.ext rv28.ex) (rv28.back eb26) _ (by simp [s6])
            ·
              refine bs_one cBsU32 rfl (by omega) fun b30 h30_ n30 e30 bv30 => ?_
              have nn30 := Rf.ne_new rk025 n30
              have rkk30 := rk025.ext e30
              have ec30 := ec25.trans e30
              have c1_30 := ec30 _ _ c1
              refine ⟨by simp [ld_at c1_30, cel_of c1_30, stm_at c1_30, stm_upd, ld_same, cel_same, over], ?_⟩
              refine cloneEU32 (l0.ext ec30) x.2.2.2 l2.fone (by omega) fun vv31 h31_ rv31 => ?_
              have rkk31 := rkk30.ext rv31.ex
              have nbv31 := Rf.ne_old rv31 bv30
              have bv31 := rv31.ex _ _ bv30
              have eb31 := ec30
              have ec31 := ec30.trans rv31.ex
              have c1_31 := ec31 _ _ c1
              refine insEU32 rv31 rfl bv31 nbv31 (by omega) (by omega) (by simp) fun vv32 h32_ rv32 kb32 => ?_
              have ec32 := eb31.trans rv32.ex
              have c1_32 := ec32 _ _ c1
              unfold d_omap_Map_string_uint32_With_24
              try simp only [s1, s3, s2, s6, s7]
              exact fin2 _ _ _ ec32 (rkk30.ext rv32.ex) (rv32.back eb31) _ (by simp [s6])
          ·
            refine bs_one cBsU32 rfl (by omega) fun b34 h34_ n34 e34 bv34 => ?_
            have nn34 := Rf.ne_new rk24 n34
            have rkk34 := rk24.ext e34
            have bk34 := e34 _ _ bk24
            have ec34 := ec24.trans e34
            have c1_34 := ec34 _ _ c1
            refine ⟨by simp [ld_at c1_34, cel_of c1_34, stm_at c1_34, stm_upd, ld_same, cel_same, over], ?_⟩
            refine insEStr rkk34 rfl bk34 nbk24 (by omega) (by omega) (by simp) fun vk35 h35_ rk35 kb35 => ?_
            have bv35 := kb35 _ _ bv34 nn34
            have ec35 := eb24.trans rk35.ex
            have rk035 := rk35.back eb24
            have c1_35 := ec35 _ _ c1
            refine ⟨by simp [ld_at c1_35, cel_of c1_35, stm_at c1_35, stm_upd, ld_same, cel_same, over], ?_⟩
            refine cloneEU32 (l0.ext ec35) x.2.2.2 l2.fone (by omega) fun vv36 h36_ rv36 => ?_
            have rkk36 := rk035.ext rv36.ex
            have nbv36 := Rf.ne_old rv36 bv35
            have bv36 := rv36.ex _ _ bv35
            have eb36 := ec35
            have ec36 := ec35.trans rv36.ex
            have c1_36 := ec36 _ _ c1
            refine insEU32 rv36 rfl bv36 nbv36 (by omega) (by omega) (by simp) fun vv37 h37_ rv37 kb37 => ?_
            have ec37 := eb36.trans rv37.ex
            have c1_37 := ec37 _ _ c1
            unfold d_omap_Map_string_uint32_With_25
            try simp only [s1, s3, s2, s6, s7]
            exact fin2 _ _ _ ec37 (rk035.ext rv37.ex) (rv37.back eb36) _ (by simp [s6])
        ·
          refine bs_one cBsU32 rfl (by omega) fun b39 h39_ n39 e39 bv39 => ?_
          have bk39 := e39 _ _ bk23
          have ec39 := ec23.trans e39
          have c1_39 := ec39 _ _ c1
          refine ⟨by simp [ld_at c1_39, cel_of c1_39, stm_at c1_39, stm_upd, ld_same, cel_same, over], ?_⟩
          refine ⟨by simp [ld_at c1_39, cel_of c1_39, stm_at c1_39, stm_upd, ld_same, cel_same, over], ?_⟩
          refine cloneEStr (k0.ext ec39) x.2.2.1 k2.fone (by omega) fun vk40 h40_ rk40 => ?_
          have nbk40 := Rf.ne_old rk40 bk39
          have bk40 := rk40.ex _ _ bk39
          have nx40 := Rf.ne_old rk40 bv39
          have bv40 := rk40.ex _ _ bv39
          have eb40 := ec39
          have ec40 := ec39.trans rk40.ex
          have c1_40 := ec40 _ _ c1
          refine ⟨by simp [ld_at c1_40, cel_of c1_40, stm_at c1_40, stm_upd, ld_same, cel_same, over], ?_⟩
          refine insEStr rk40 rfl bk40 nbk40 (by omega) (by omega) (by simp) fun vk41 h41_ rk41 kb41 => ?_
          have bv41 := kb41 _ _ bv40 nx40
          have ec41 := eb40.trans rk41.ex
          have rk041 := rk41.back eb40
          have c1_41 := ec41 _ _ c1
          refine ⟨by simp [ld_at c1_41, cel_of c1_41, stm_at c1_41, stm_upd, ld_same, cel_same, over], ?_⟩
          refine cloneEU32 (l0.ext ec41) x.2.2.2 l2.fone (by omega) fun vv42 h42_ rv42 => ?_
          have rkk42 := rk041.ext rv42.ex
          have nbv42 := Rf.ne_old rv42 bv41
          have bv42 := rv42.ex _ _ bv41
          have eb42 := ec41
          have ec42 := ec41.trans rv42.ex
          have c1_42 := ec42 _ _ c1
          refine insEU32 rv42 rfl bv42 nbv42 (by omega) (by omega) (by simp) fun vv43 h43_ rv43 kb43 => ?_
          have ec43 := eb42.trans rv43.ex
          have c1_43 := ec43 _ _ c1
          unfold d_omap_Map_string_uint32_With_26
          try simp only [s1, s3, s2, s6, s7]
          exact fin2 _ _ _ ec43 (rk041.ext rv43.ex) (rv43.back eb42) _ (by simp [s6])
      ·
        unfold d_omap_Map_string_uint32_With_27
        try simp only [s1, s3, s2, s6, s7]
        refine bs_one cBsU32 rfl (by omega) fun b45 h45_ n45 e45 bv45 => ?_
        have ec45 := ec0.trans e45
        have c1_45 := ec45 _ _ c1
        refine ⟨by simp [ld_at c1_45, cel_of c1_45, stm_at c1_45, stm_upd, ld_same, cel_same, over], ?_⟩
        refine ⟨by simp [ld_at c1_45, cel_of c1_45, stm_at c1_45, stm_upd, ld_same, cel_same, over], ?_⟩
        refine ⟨?_, ?_⟩
        ·
          refine cloneEStr (k0.ext ec45) x.2.2.1 k2.fone (by omega) fun vk46 h46_ rk46 => ?_
          have nx46 := Rf.ne_old rk46 bv45
          have bv46 := rk46.ex _ _ bv45
          have eb46 := ec45
          have ec46 := ec45.trans rk46.ex
          have c1_46 := ec46 _ _ c1
          unfold d_omap_Map_string_uint32_With_28
          try simp only [s1, s3, s2, s6, s7]
          refine ⟨by simp [ld_at c1_46, cel_of c1_46, stm_at c1_46, stm_upd, ld_same, cel_same, over], ?_⟩
          refine bs_one cBsStr (by simp) (by omega) fun b47 h47_ n47 e47 bk47 => ?_
          have nn47 := Rf.ne_new rk46 n47
          have rkk47 := rk46.ext e47
          have bv47 := e47 _ _ bv46
          have ec47 := ec46.trans e47
          have c1_47 := ec47 _ _ c1
          refine ⟨by simp [ld_at c1_47, cel_of c1_47, stm_at c1_47, stm_upd, ld_same, cel_same, over], ?_⟩
          refine insEStr rkk47 rfl bk47 nn47 (by omega) (by omega) (by simp) fun vk48 h48_ rk48 kb48 => ?_
          have bv48 := kb48 _ _ bv47 nx46
          have ec48 := eb46.trans rk48.ex
          have rk048 := rk48.back eb46
          have c1_48 := ec48 _ _ c1
          refine ⟨by simp [ld_at c1_48, cel_of c1_48, stm_at c1_48, stm_upd, ld_same, cel_same, over], ?_⟩
          refine cloneEU32 (l0.ext ec48) x.2.2.2 l2.fone (by omega) fun vv49 h49_ rv49 => ?_
          have rkk49 := rk048.ext rv49.ex
          have nbv49 := Rf.ne_old rv49 bv48
          have bv49 := rv49.ex _ _ bv48
          have eb49 := ec48
          have ec49 := ec48.trans rv49.ex
          have c1_49 := ec49 _ _ c1
          refine insEU32 rv49 rfl bv49 nbv49 (by omega) (by omega) (by simp) fun vv50 h50_ rv50 kb50 => ?_
          have ec50 := eb49.trans rv50.ex
          have c1_50 := ec50 _ _ c1
          unfold d_omap_Map_string_uint32_With_29
          try simp only [s1, s3, s2, s6, s7]
          exact fin2 _ _ _ ec50 (rk048.ext rv50.ex) (rv50.back eb49) _ (by simp [s6])
        ·
          refine bs_one cBsStr (by simp) (by omega) fun b52 h52_ n52 e52 bk52 => ?_
          have bv52 := e52 _ _ bv45
          have ec52 := ec45.trans e52
          have c1_52 := ec52 _ _ c1
          refine ⟨by simp [ld_at c1_52, cel_of c1_52, stm_at c1_52, stm_upd, ld_same, cel_same, over], ?_⟩
          refine ⟨by simp [ld_at c1_52, cel_of c1_52, stm_at c1_52, stm_upd, ld_same, cel_same, over], ?_⟩
          refine cloneEStr (k0.ext ec52) x.2.2.1 k2.fone (by omega) fun vk53 h53_ rk53 => ?_
          have nbk53 := Rf.ne_old rk53 bk52
          have bk53 := rk53.ex _ _ bk52
          have nx53 := Rf.ne_old rk53 bv52
          have bv53 := rk53.ex _ _ bv52
          have eb53 := ec52
          have ec53 := ec52.trans rk53.ex
          have c1_53 := ec53 _ _ c1
          refine ⟨by simp [ld_at c1_53, cel_of c1_53, stm_at c1_53, stm_upd, ld_same, cel_same, over], ?_⟩
          refine insEStr rk53 rfl bk53 nbk53 (by omega) (by omega) (by simp) fun vk54 h54_ rk54 kb54 => ?_
          have bv54 := kb54 _ _ bv53 nx53
          have ec54 := eb53.trans rk54.ex
          have rk054 := rk54.back eb53
          have c1_54 := ec54 _ _ c1
          refine ⟨by simp [ld_at c1_54, cel_of c1_54, stm_at c1_54, stm_upd, ld_same, cel_same, over], ?_⟩
          refine cloneEU32 (l0.ext ec54) x.2.2.2 l2.fone (by omega) fun vv55 h55_ rv55 => ?_
          have rkk55 := rk054.ext rv55.ex
          have nbv55 := Rf.ne_old rv55 bv54
          have bv55 := rv55.ex _ _ bv54
          have eb55 := ec54
          have ec55 := ec54.trans rv55.ex
          have c1_55 := ec55 _ _ c1
          refine insEU32 rv55 rfl bv55 nbv55 (by omega) (by omega) (by simp) fun vv56 h56_ rv56 kb56 => ?_
          have ec56 := eb55.trans rv56.ex
          have c1_56 := ec56 _ _ c1
          unfold d_omap_Map_string_uint32_With_30
          try simp only [s1, s3, s2, s6, s7]
          exact fin2 _ _ _ ec56 (rk054.ext rv56.ex) (rv56.back eb55) _ (by simp [s6])
    simp -implicitDefEqProofs only [thenM_n]
    unfold d_omap_Map_string_uint32_With_9
    rw [seqM_eq]
    refine main _ ?_ ?_ ?_ ?_ ?_ <;> simp
end Go.Proofs.YtcnphhhcknhhaaaGreat
namespace Go.Den
open Go
set_option linter.unusedVariables false
variable {P : Program} {g : Nat → Bool}
theorem rf_itL (hg : GoodP P g) (hm : P.follows .mixedOrders = true) {gv : Value} {gf : FuncId} {lb : Array Value} {xs : List (Array Value)} {hA : Heap} (hgv : gv = .func (.func gf) #[] lb) (hgf : g gf = true) (it : It P gf lb xs hA)
    {ps : Array Tmp} {zas bd : Code} {m : List Nat} {s : Env} {h : Heap} {Q : Post} (J : Nat → Nat → Nat → Heap → Prop) (S : Nat → Nat → Exit → Heap → Prop)
    (h0 : ∀ l b, h l = none → h b = none → J l b 0 h) (hx : ∀ l b i h', J l b i h' → Ext hA h') (hk : ∀ l b, h l = none → h b = none → ∀ i h' h'', J l b i h' → Keep (some l) h' h'' → J l b i h'') (hkS : ∀ l b, h l = none → h b = none → ∀ e h' h'', S l b e h' → Keep (some l) h' h'' → S l b e h'')
    (hsz : ∀ i (hi : i < xs.length), xs[i].size = ps.size)
    (round : ∀ i (hi : i < xs.length) l b h' h2, h l = none → h b = none → J l b i h' → Keep (some l) h' h2 → (∃ o, h2 l = some o) → (∃ o, h2 b = some o) →
      ∃ A : List Nat → Env → Heap → Prop, (∀ m2 s2 h3 h4, A m2 s2 h3 → Keep (some l) h3 h4 → A m2 s2 h4) ∧
        den P g zas [] (puts s (ps.toList.zip xs[i].toList)) h2 (fun e m2 s2 h3 => e = .normal ∧ A m2 s2 h3 ∧ h3 l = h2 l ∧ h3 b = h2 b) ∧
        ∀ m2 s2 h3, A m2 s2 h3 → (∃ o, h3 l = some o) → (∃ o, h3 b = some o) →
          den P g bd m2 s2 h3 (fun e _ _ h4 => h4 l = h3 l ∧ h4 b = h3 b ∧ match e with
            | .normal => J l b (i + 1) h4
            | .ret => S l b .ret h4
            | .exit id => S l b (.exit id) h4
            | _ => False))
    (hend : ∀ l b h', h l = none → l ≠ b → h b = none → h' b = some (.deferred (some [])) → J l b xs.length h' → Q .normal (b :: m) s h')
    (hret : ∀ l b h', h l = none → l ≠ b → h b = none → h' b = some (.deferred (some [])) → S l b .ret h' → Q .ret (b :: m) s h')
    (hexit : ∀ id l b h', h l = none → l ≠ b → h b = none → h' b = some (.deferred (some [])) → S l b (.exit id) h' → Q (.exit id) (b :: m) s h') : rfM P g gv ps zas bd m s h Q := by
  refine ⟨gf, lb, hgv, hgf, fun fn tmps b l hs hf hb hl hlb => ?_⟩
  obtain ⟨R, hR⟩ : ∃ R : Loop, R = { state := .ready, pending := none, fn, tmps, params := ps, assign := zas, body := bd, defers := b } := ⟨_, rfl⟩
  rw [← hR]
  have hfb : fz (fun _ => []) h = h := fz_nil h
  let I : Nat → Heap → Prop := fun i h' => J l b i h' ∧ h' b = some (.deferred (some [])) ∧ h' l = some (.loop R)
  let St : Heap → Prop := fun h' => h' b = some (.deferred (some [])) ∧ ((∃ r : Loop, h' l = some (.loop r) ∧ r.state = .done ∧ r.pending = some .ret ∧ S l b .ret h') ∨ (∃ id, ∃ r : Loop, h' l = some (.loop r) ∧ r.state = .done ∧ r.pending = some (.exit id) ∧ S l b (.exit id) h'))
  have e1 : Ext h (upd (upd h b (.deferred (some []))) l (.loop R)) := ext_upd hl (Ext.upd hb _)
  have start : I 0 (upd (upd h b (.deferred (some []))) l (.loop R)) := by
    refine ⟨hk l b hl hb 0 h _ (h0 l b hl hb) fun k o e _ => e1 k o e, ?_, upd_same' _ _ _⟩
    rw [upd_ne (Ne.symm hlb), upd_same']
  refine it (.func (.yield l) #[] #[]) I St _ _ (fun i h' hi => hx l b i h' hi.1) (fun i h' h'' hi e => ⟨hk l b hl hb i h' h'' hi.1 fun k o ek _ => e k o ek, e _ _ hi.2.1, e _ _ hi.2.2⟩) start ?_ ?_ ?_
  · intro i hi h' K' hI hK1 hK2
    obtain ⟨hJ, hb', hl'⟩ := hI
    have hps : ps = R.params := by rw [hR]
    refine nx_yield hl' (by rw [hsz i hi, hps]) ?_
    simp only [Bool.and_eq_true] at hf
    obtain ⟨⟨⟨⟨f1, f2⟩, f3⟩, f4⟩, f5⟩ := hf
    have hR1 : R.params = ps := hps.symm
    have hR2 : R.tmps = tmps := by rw [hR]
    have hR3 : R.assign = zas := by rw [hR]
    have hR4 : R.body = bd := by rw [hR]
    have hR5 : R.state = .ready := by rw [hR]
    rw [hR1, hR2, hR3, hR4]
    have hfold : (ps.zip xs[i]).foldl (fun tmps (t, a) => tmps.setIfInBounds t a) tmps = (ps.toList.zip xs[i].toList).foldl (fun tmps (x : Tmp × Value) => tmps.setIfInBounds x.1 x.2) tmps := by
      rw [← Array.foldl_toList, Array.toList_zip]
    rw [hfold]
    obtain ⟨g1, g2⟩ := getD_fold (ps := ps.toList) (xs := xs[i].toList) hs f1
    obtain ⟨A, a1, a2, a3⟩ := round i hi l b h' h' hl hb hJ (fun k o e _ => e) ⟨_, hl'⟩ ⟨_, hb'⟩
    refine round_of_den2 hg hm g1 (by rw [g2]; simp [f2, f3, f4, f5]) a2 (fun m2 s2 h2 hq => ?_) (fun e m2 s2 h2 he hq => he hq.1)
    obtain ⟨_, hA2, hl2, hb2⟩ := hq
    have hl2' : h2 l = some (.loop R) := by rw [hl2]; exact hl'
    have hb2' : h2 b = some (.deferred (some [])) := by rw [hb2]; exact hb'
    refine ⟨R, hl2', hR5, _, a3 m2 s2 _ (a1 _ _ _ _ hA2 keep_upd) ⟨_, upd_same' _ _ _⟩ ⟨_, by rw [upd_ne (Ne.symm hlb)]; exact hb2'⟩, fun e m4 s4 h4 hq => ?_⟩
    obtain ⟨hl4, hb4, hq⟩ := hq
    rw [upd_same'] at hl4
    rw [upd_ne (Ne.symm hlb)] at hb4
    have hb4' : h4 b = some (.deferred (some [])) := by rw [hb4]; exact hb2'
    refine ⟨_, hl4, ?_⟩
    cases e with
    | normal =>
      refine hK1 _ ⟨hk l b hl hb _ _ _ hq keep_upd, by rw [upd_ne (Ne.symm hlb)]; exact hb4', ?_⟩
      rw [upd_same', hR]
    | ret =>
      refine hK2 _ ⟨by rw [upd_ne (Ne.symm hlb)]; exact hb4', .inl ⟨_, upd_same' _ _ _, rfl, rfl, hkS l b hl hb _ _ _ hq keep_upd⟩⟩
    | exit id =>
      refine hK2 _ ⟨by rw [upd_ne (Ne.symm hlb)]; exact hb4', .inr ⟨id, _, upd_same' _ _ _, rfl, rfl, hkS l b hl hb _ _ _ hq keep_upd⟩⟩
    | _ => exact hq.elim
  · intro v h' hI
    refine ⟨R, hI.2.2, by rw [hR]; simp, ?_⟩
    have : R.pending = none := by rw [hR]
    rw [this]
    exact hend l b _ hl hlb hb (by rw [upd_ne (Ne.symm hlb)]; exact hI.2.1) (hk l b hl hb _ _ _ hI.1 keep_upd)
  · intro v h' hS
    obtain ⟨hb', hS⟩ := hS
    rcases hS with ⟨r, hl', hst, hp, hs'⟩ | ⟨id, r, hl', hst, hp, hs'⟩
    · refine ⟨r, hl', by rw [hst]; simp, ?_⟩
      rw [hp]
      exact hret l b _ hl hlb hb (by rw [upd_ne (Ne.symm hlb)]; exact hb') (hkS l b hl hb _ _ _ hs' keep_upd)
    · refine ⟨r, hl', by rw [hst]; simp, ?_⟩
      rw [hp]
      exact hexit id l b _ hl hlb hb (by rw [upd_ne (Ne.symm hlb)]; exact hb') (hkS l b hl hb _ _ _ hs' keep_upd)
/-- The same, with what the assignments leave told apart. -/
theorem rf_go (hg : GoodP P g) (hm : P.follows .mixedOrders = true) {gv : Value} {gf : FuncId} {lb : Array Value} {xs : List (Array Value)} {hA : Heap} (hgv : gv = .func (.func gf) #[] lb) (hgf : g gf = true) (it : It P gf lb xs hA)
    {ps : Array Tmp} {zas bd : Code} {m : List Nat} {s : Env} {h : Heap} {Q : Post} (J : Nat → Nat → Nat → Heap → Prop) (S : Nat → Nat → Exit → Heap → Prop) (C : Nat → Nat → Nat → Env → Heap → Prop)
    (h0 : ∀ l b, h l = none → h b = none → J l b 0 h) (hx : ∀ l b i h', J l b i h' → Ext hA h') (hk : ∀ l b, h l = none → h b = none → ∀ i h' h'', J l b i h' → Keep (some l) h' h'' → J l b i h'') (hkS : ∀ l b, h l = none → h b = none → ∀ e h' h'', S l b e h' → Keep (some l) h' h'' → S l b e h'')
    (hC : ∀ l b i s2 h3 h4, h l = none → h b = none → C l b i s2 h3 → Keep (some l) h3 h4 → C l b i s2 h4)
    (hsz : ∀ i (hi : i < xs.length), xs[i].size = ps.size)
    (asg : ∀ i (hi : i < xs.length) l b h2, h l = none → h b = none → (∃ o, h2 l = some o) → (∃ o, h2 b = some o) → J l b i h2 →
      den P g zas [] (puts s (ps.toList.zip xs[i].toList)) h2 (fun e m2 s2 h3 => e = .normal ∧ (m2 = [] ∧ C l b i s2 h3) ∧ h3 l = h2 l ∧ h3 b = h2 b))
    (body : ∀ i (hi : i < xs.length) l b s2 h3, h l = none → h b = none → (∃ o, h3 l = some o) → (∃ o, h3 b = some o) → C l b i s2 h3 →
      den P g bd [] s2 h3 (fun e _ _ h4 => h4 l = h3 l ∧ h4 b = h3 b ∧ match e with
            | .normal => J l b (i + 1) h4
            | .ret => S l b .ret h4
            | .exit id => S l b (.exit id) h4
            | _ => False))
    (hend : ∀ l b h', h l = none → l ≠ b → h b = none → h' b = some (.deferred (some [])) → J l b xs.length h' → Q .normal (b :: m) s h')
    (hret : ∀ l b h', h l = none → l ≠ b → h b = none → h' b = some (.deferred (some [])) → S l b .ret h' → Q .ret (b :: m) s h')
    (hexit : ∀ id l b h', h l = none → l ≠ b → h b = none → h' b = some (.deferred (some [])) → S l b (.exit id) h' → Q (.exit id) (b :: m) s h') : rfM P g gv ps zas bd m s h Q := by
  refine rf_itL hg hm hgv hgf it J S h0 hx hk hkS hsz (fun i hi l b h' h2 hl hb hJ hkp hl2 hb2 => ?_) hend hret hexit
  refine ⟨fun m2 s2 h3 => m2 = [] ∧ C l b i s2 h3, fun m2 s2 h3 h4 hc hkp => ⟨hc.1, hC l b i s2 h3 h4 hl hb hc.2 hkp⟩, ?_, fun m2 s2 h3 hc hl3 hb3 => ?_⟩
  · exact asg i hi l b h2 hl hb hl2 hb2 (hk l b hl hb i h' h2 hJ hkp)
  · obtain ⟨rfl, hc⟩ := hc
    exact body i hi l b s2 h3 hl hb hl3 hb3 hc
end Go.Den
namespace Go.Proofs.YtcnphhhcknhhaaaGreat
open Go Go.Den Go.MapKept
set_option linter.unusedSimpArgs false
set_option linter.unusedVariables false
set_option maxRecDepth 20000
theorem mask_at {F : Heap} {v : Value} {l : List Int} (x : Sl 1 MaskR F v l) {i : Nat} (hi : i < l.length) {k : IntKind} : ∃ b p, iaV (some (none, 1)) v (.int k i) = some (.pointer (some ⟨b, p, none⟩)) ∧ ∀ h', Ext F h' → cel h' b p = some (.int .u32 l[i]) := by
  obtain ⟨b, p, c, h1, h2, h3⟩ := x.at (k := k) (i := i) (by omega) (by omega)
  refine ⟨b, p, h1, fun h' e => ?_⟩
  have hc : c = [.int .u32 l[i]] := h3
  subst hc
  have := (cels_get (cels_ext e h2)).2 0 (by simp)
  simpa using this
/-- A key's mask. -/
theorem mget_ok (b : List (ByteArray × Int)) (so : SrtK (keysL b)) (u : ByteArray) {F h : Heap} (eF : Ext F h) {kw vw : Value} (x : WsR F kw vw b) (hl : b.length < 1000000) {K : Value → Heap → Prop}
    (hk : ∀ h', Ext h h' → K (.tuple #[.int .u32 (valL 0 b u), .bool (hasL b u)]) h') : callM P fn_omap_Map_string_uint32_Get #[.agg #[kw, vw], .string u] h K := by
  apply e_omap_Map_string_uint32_Get
  unfold d_omap_Map_string_uint32_Get
  refine nw_agg fun v1 h1 n1 e1 c1 => ?_
  simp -implicitDefEqProofs [ld_at c1, cel_of c1, stm_at c1, stm_upd, ld_same, cel_same, over]
  refine mfind_ok (keysL b) so u x.2.1.one.2 (x.1.ext (@StrR.ext) (eF.trans e1)) (by simpa [keysL] using hl) fun h6 e6 => ?_
  have c1 := e6 _ _ c1
  have e0 := e1.trans e6
  unfold d_omap_Map_string_uint32_Get_1
  simp -implicitDefEqProofs only [exV_0, exV_1, ov_s, unV_n, cd_b]
  refine ⟨fun hn => ?_, fun hy => ?_⟩
  · have hno' : hasL b u = false := by
      have h2 : (!hasL b u) = true := hn
      cases h3 : hasL b u with
      | false => rfl
      | true => rw [h3] at h2; cases h2
    have hno : u ∉ keysL b := fun hh => by rw [hasL_iff.2 hh] at hno'; cases hno'
    exact kv (hk _ e0) (by rw [valL_none hno, hno'])
  · have hyes : hasL b u = true := by
      have h2 : (!hasL b u) = false := hy
      cases h3 : hasL b u with
      | true => rfl
      | false => rw [h3] at h2; cases h2
    obtain ⟨h1, h2⟩ := (mem_pos so u).1 (hasL_iff.1 hyes)
    have hlen : (keysL b).length = b.length := by simp [keysL]
    have hp : pos (keysL b) u < b.length := by omega
    have hu : b[pos (keysL b) u].1 = u := by simpa [keysL] using h2
    have he : valL 0 b u = b[pos (keysL b) u].2 := by
      have := valL_mem (d := 0) so hp
      rw [hu] at this; exact this
    obtain ⟨eb, eo, i1, i2⟩ := mask_at x.2.1 (k := .i64) (i := pos (keysL b) u) (by simpa using hp)
    have i2 := i2 _ (eF.trans e0)
    unfold d_omap_Map_string_uint32_Get_2
    simp -implicitDefEqProofs [ld_at c1, cel_of c1, stm_at c1, stm_upd, ld_same, cel_same, over, i1, i2]
    exact kv (hk _ e0) (by rw [hyes, he])
/-- A key is taken out. -/
theorem mwithout_ok (b : List (ByteArray × Int)) (so : SrtK (keysL b)) (u : ByteArray) {T : Tags} {h : Heap} (w : Wf T h) {kw vw : Value} (x : WsR (fz T h) kw vw b) (hl : b.length < 1000000) {K : Value → Heap → Prop}
    (hk : ∀ h' k v, Ext h h' → WsR (fz T h') k v (delB b u) → K (.agg #[k, v]) h') : callM P fn_omap_Map_string_uint32_Without #[.agg #[kw, vw], .string u] h K := by
  apply e_omap_Map_string_uint32_Without
  unfold d_omap_Map_string_uint32_Without
  rw [zcMap2]
  refine nw_agg fun v1 h1 n1 e1 c1 => ?_
  refine nw_intro fun v3 h3 n3 e3 c3 => ?_
  have c1 := e3 _ _ c1
  have n3 := fresh_of e1 n3
  have e0 := e1.trans e3
  have kl : (keysL b).length = b.length := by simp [keysL]
  have o1 := x.1.one
  have o2 := x.2.1.one
  simp -implicitDefEqProofs [ld_at c1, cel_of c1, stm_at c1, stm_upd, ld_same, cel_same, over]
  refine mfind_ok (keysL b) so u x.2.1.one.2 (x.1.ext (@StrR.ext) ((fz_ext T h).trans e0)) (by omega) fun h6 e6 => ?_
  have c1 := e6 _ _ c1
  have c3 := e6 _ _ c3
  have e0 := e0.trans e6
  unfold d_omap_Map_string_uint32_Without_1
  simp -implicitDefEqProofs only [exV_0, exV_1, ov_s, unV_n, cd_b]
  obtain ⟨Lk, k1, k2⟩ := x.1.els StrR.one
  obtain ⟨Lv, l1, l2⟩ := x.2.1.els MaskR.one
  simp -implicitDefEqProofs only [List.length_map] at k1 l1
  refine ⟨fun hn => ?_, fun hy => ?_⟩
  · have hno' : hasL b u = false := by
      have : (!hasL b u) = true := hn
      simpa using this
    have hno : u ∉ keysL b := fun hh => by rw [hasL_iff.2 hh] at hno'; cases hno'
    simp -implicitDefEqProofs [ld_at c1, cel_of c1, stm_at c1, ld_at c3, cel_of c3, stm_at c3, stm_upd, ld_same, cel_same, over, o1.1, o2.1]
    refine hk _ kw vw (ext_upd n3 e0) ?_
    rw [delB_none hno]
    exact x.ext (fz_of_ext (ext_upd n3 e0))
  · have hyes : hasL b u = true := by
      have : (!hasL b u) = false := hy
      simpa using this
    have hmem := hasL_iff.1 hyes
    obtain ⟨p1, p2⟩ := (mem_pos so u).1 hmem
    have del : delB b u = b.take (pos (keysL b) u) ++ b.drop (pos (keysL b) u + 1) := delB_has so hmem
    have hpb : pos (keysL b) u < b.length := by omega
    obtain ⟨p, hp⟩ : ∃ p, pos (keysL b) u = p := ⟨_, rfl⟩
    rw [hp] at hpb del ⊢
    have w1 : IntKind.i64.wrap ((p : Int) + 1) = (p + 1 : Nat) := by rw [wrap64_id (by omega) (by omega)]; omega
    unfold d_omap_Map_string_uint32_Without_2
    simp -implicitDefEqProofs [ld_at c1, cel_of c1, stm_at c1, stm_upd, ld_same, cel_same, over, w1, -Int.natCast_add]
    refine cloneEStr (k1.ext ((fz_ext T h).trans e0)) x.2.2.1 k2.fone (by omega) fun k' h7 r7 => ?_
    have c1 := r7.ex _ _ c1
    unfold d_omap_Map_string_uint32_Without_3
    simp -implicitDefEqProofs only [ldV_c, cel_of c1, List.getElem?_toArray, List.getElem?_cons_succ, List.getElem?_cons_zero, true_and]
    refine delEStr r7 hpb (by omega) fun k'' h8 r8 => ?_
    have c1' := r8.ex _ _ (e6 _ _ (e3 _ _ ‹_›))
    have c3 := r8.ex _ _ c3
    have c1 := c1'
    simp -implicitDefEqProofs only [ldV_c, cel_of c1, List.getElem?_toArray, List.getElem?_cons_succ, List.getElem?_cons_zero, true_and]
    have e8 := e0.trans r8.ex
    refine cloneEU32 (l1.ext ((fz_ext T h).trans e8)) x.2.2.2 l2.fone (by omega) fun v' h9 r9 => ?_
    refine delEU32 r9 hpb (by omega) fun v'' ha ra => ?_
    unfold d_omap_Map_string_uint32_Without_4
    have c3 := ra.ex _ _ c3
    have rk := (r8.back e0).ext ra.ex
    have rv := ra.back e8
    have nk : rowOf k'' ≠ some v3 := Rf.ne_old r8 ‹_›
    have nv : rowOf v'' ≠ some v3 := Rf.ne_old ra ‹_›
    have u1 := rk.row.one
    have u2 := rv.row.one
    have e9 := ext_upd (o := .cells #[k'', v''] ty_omap_Map_string_uint32 (0, 0)) n3 (e8.trans ra.ex)
    have rk9 := rk.skip (o := .cells #[k'', v''] ty_omap_Map_string_uint32 (0, 0)) n3 nk
    have rv9 := rv.skip (o := .cells #[k'', v''] ty_omap_Map_string_uint32 (0, 0)) n3 nv
    have k3 := k2.ext (@StrR.ext) (fz_of_ext e9)
    have l3 := l2.ext (@MaskR.ext) (fz_of_ext e9)
    simp -implicitDefEqProofs [bdMapS2 (row_sl rk.row) (row_sl rv.row), ld_at c3, cel_of c3, stm_at c3, stm_upd, ld_same, cel_same, over, u1.1, u2.1]
    refine hk _ k'' v'' e9 ⟨?_, ?_, rk.row.sn, rv.row.sn⟩
    · rw [k2.ftake, k2.fdrop, ← List.flatten_append] at rk9
      rw [del]
      simp -implicitDefEqProofs only [List.map_append, List.map_take, List.map_drop]
      exact rk9.sl w (by simp; omega) ((k3.take p).app (k3.drop (p + 1)))
    · rw [l2.ftake, l2.fdrop, ← List.flatten_append] at rv9
      rw [del]
      simp -implicitDefEqProofs only [List.map_append, List.map_take, List.map_drop]
      exact rv9.sl w (by simp; omega) ((l3.take p).app (l3.drop (p + 1)))
/-- All keys, with what is kept of them: a function that goes through them. -/
def mallX (b : List (ByteArray × Int)) (Lv : List (List Value)) : List (Array Value) := (List.range b.length).map fun i => #[.string (b.getD i (⟨#[]⟩, 0)).1, (Lv.getD i []).getD 0 undef]
theorem mall_it (b : List (ByteArray × Int)) {hA : Heap} {p : Nat} {kw vw : Value} {Lv : List (List Value)} (cp : hA p = some (.cells #[kw, vw] ty_omap_Map_string_uint32 (0, 0))) (x : WsR hA kw vw b) (l1 : SlC 1 hA vw b.length Lv.flatten) (l2 : ∀ c ∈ Lv, c.length = 1) (l3 : Lv.length = b.length) :
    It P fn_omap_Map_string_uint32_All_c1 #[ptr p] (mallX b Lv) hA := by
  intro yv I S h K hx hs h0 hround hK1 hK2
  apply e_omap_Map_string_uint32_All_c1
  unfold d_omap_Map_string_uint32_All_c1
  have ca0 := hx _ _ h0 _ _ cp
  have hlen := x.1.len
  simp -implicitDefEqProofs [ld_at ca0, cel_of ca0, stm_at ca0, stm_upd, ld_same, cel_same, over, hlen]
  refine loop_on [0, 1, 6, 7] (fun s h' => ∃ k : Nat, k ≤ b.length ∧ s 8 = .int .i64 k ∧ I k h') (fun s _ => (b.length - num (s 8)).toNat) ⟨0, by omega, rfl, h0⟩ ?_
  rintro s h1 hf ⟨k, hk, s8, hI⟩
  have s0 : s 0 = yv := by simpa using hf 0 (by simp)
  have s1 : s 1 = ptr p := by simpa using hf 1 (by simp)
  have s6 : s 6 = kw := by simpa using hf 6 (by simp)
  have s7 : s 7 = .int .i64 b.length := by simpa using hf 7 (by simp)
  unfold d_omap_Map_string_uint32_All_c1_1
  simp -implicitDefEqProofs only [s8, s7, bin_lss, ov_s, cd_b]
  refine ⟨fun hc => ?_, fun hc => ?_⟩
  rotate_left
  · have : k = b.length := by have : ¬ ((k : Int) < b.length) := by simpa using hc
                              omega
    subst this
    simp -implicitDefEqProofs
    exact hK1 _ _ (by simpa [mallX] using hI)
  have hlt : k < b.length := by have : ((k : Int) < b.length) := by simpa using hc
                                omega
  have eA := hx _ _ hI
  have ca1 := eA _ _ cp
  obtain ⟨eb, eo, i1, i2⟩ := str_at x.1 (k := .i64) (i := k) (by simpa using hlt)
  simp -implicitDefEqProofs only [List.getElem_map] at i2
  have i2 := i2 _ eA
  have hmx := x.1.max
  simp -implicitDefEqProofs only [List.length_map] at hmx
  have hw : IntKind.i64.wrap ((k : Int) + 1) = k + 1 := wrap64_id (by omega) (by omega)
  have hv : ∃ vb vo, iaV (some (none, 1)) vw (.int .i64 k) = some (.pointer (some ⟨vb, vo, none⟩)) ∧ cels h1 vb vo 1 = some (Lv[k]'(by omega)) := by
    rcases l1 with ⟨h1, _⟩ | ⟨vb, vo, cap, rfl, h2⟩
    · omega
    · have hk9 : (k : Int) < b.length := by omega
      refine ⟨vb, vo + k * 1, by simp [iaV, hk9], ?_⟩
      obtain ⟨q1, q2⟩ := cels_get (cels_ext eA h2)
      have h8 : (Lv[k]'(by omega)).length = 1 := l2 _ (List.getElem_mem _)
      have h9 := flat_drop (i := k) l2
      have h7 : (Lv.drop k) = Lv[k]'(by omega) :: Lv.drop (k + 1) := List.drop_eq_getElem_cons _
      rw [h7, List.flatten_cons] at h9
      have hm : (k + 1) * 1 ≤ b.length * 1 := Nat.mul_le_mul_right _ hlt
      have := cels_sub (cels_ext eA h2) (j := k * 1) (m := 1) (by omega)
      rw [this, h9, List.take_append_of_le_length (by omega), List.take_of_length_le (by omega)]
  obtain ⟨vb, vo, j1, j2⟩ := hv
  have j3 := j2
  have j4 : cel h1 vb vo = some ((Lv[k]).getD 0 undef) := by
    have h8 : (Lv[k]'(by omega)).length = 1 := l2 _ (List.getElem_mem _)
    have := (cels_get j2).2 0 (by omega)
    simpa [List.getD_eq_getElem?_getD, h8] using this
  unfold d_omap_Map_string_uint32_All_c1_2
  simp -implicitDefEqProofs only [s6, s8, s1, i1, i2, j1, faV_p, ov_s, ldV_c, Nat.zero_add, cel_of ca1, List.getElem?_toArray, List.getElem?_cons_succ, List.getElem?_cons_zero, j4, s0]
  have hj' : k < (mallX b Lv).length := by simpa [mallX] using hlt
  have hr := hround k hj' h1
  have hx' : (mallX b Lv)[k] = #[.string b[k].1, (Lv[k]).getD 0 undef] := by simp [mallX, hlt, List.getD_eq_getElem?_getD, l3]
  rw [hx'] at hr
  refine hr _ hI (fun h3 hI3 => ?_) (fun h3 hS => ?_)
  · unfold d_omap_Map_string_uint32_All_c1_3 d_omap_Map_string_uint32_All_c1_5
    simp -implicitDefEqProofs [s8, hw, s0, s1, s6, s7]
    exact ⟨⟨k + 1, by omega, by simp, hI3⟩, by omega⟩
  · unfold d_omap_Map_string_uint32_All_c1_3 d_omap_Map_string_uint32_All_c1_4
    simp -implicitDefEqProofs
    exact hK2 _ _ hS
theorem mall_ok (b : List (ByteArray × Int)) {F h : Heap} (eF : Ext F h) {kw vw : Value} (x : WsR F kw vw b) {K : Value → Heap → Prop}
    (hk : ∀ p h', h p = none → Ext h h' → h' p = some (.cells #[kw, vw] ty_omap_Map_string_uint32 (0, 0)) → K (.func (.func fn_omap_Map_string_uint32_All_c1) #[] #[ptr p]) h') : callM P fn_omap_Map_string_uint32_All #[.agg #[kw, vw]] h K := by
  apply e_omap_Map_string_uint32_All
  unfold d_omap_Map_string_uint32_All
  refine nw_agg fun v1 h1 n1 e1 c1 => ?_
  simp -implicitDefEqProofs only [ov_s]
  exact hk v1 h1 n1 e1 c1
end Go.Proofs.YtcnphhhcknhhaaaGreat
namespace Go.Den
open Go
set_option linter.unusedVariables false
set_option linter.unusedSimpArgs false
def addU (a b : Int) : Int := if 18446744073709551615 - a < b then 18446744073709551615 else a + b
theorem addU_rng {a b : Int} (ha : U64 a) (hb : U64 b) : U64 (addU a b) := by unfold addU U64 at *; split <;> omega
def purgeS (l : List Sess) (now : Int) : List Sess := l.filter fun s => !late now s.un
def SrtI (l : List Sess) : Prop := l.Pairwise fun a b => a.id < b.id
def hasI (l : List Sess) (id : Int) : Bool := l.any fun s => decide (s.id = id)
def putS : List Sess → Sess → List Sess
  | [], s => [s]
  | x :: r, s => if x.id < s.id then x :: putS r s else if x.id = s.id then s :: r else s :: x :: r
def delS (l : List Sess) (id : Int) : List Sess := l.filter fun s => !decide (s.id = id)
def setS (l : List Sess) (s : Sess) (most : Int) : List Sess × Int := if hasI l s.id = false ∧ most ≤ l.length then (l, 2) else (putS l s, 0)
def beatS (l : List Sess) (id un : Int) : List Sess × Int := if hasI l id then (l.map fun s => if s.id = id then { s with un := max s.un un } else s, 0) else (l, 3)
def clearS (l : List Sess) (id : Int) : List Sess × Int := if hasI l id then (delS l id, 0) else (l, 3)
theorem SrtI.purge {l : List Sess} (s : SrtI l) (now : Int) : SrtI (purgeS l now) := s.sublist List.filter_sublist
theorem SrtI.del {l : List Sess} (s : SrtI l) (id : Int) : SrtI (delS l id) := s.sublist List.filter_sublist
theorem mem_putS {x y : Sess} : ∀ {l : List Sess}, y ∈ putS l x → y = x ∨ y ∈ l
  | [], h => by simp [putS] at h; exact .inl h
  | a :: r, h => by
    simp only [putS] at h
    split at h
    · rcases List.mem_cons.1 h with h | h
      · exact .inr (by simp [h])
      · rcases mem_putS h with h | h
        · exact .inl h
        · exact .inr (by simp [h])
    · split at h
      · rcases List.mem_cons.1 h with h | h
        · exact .inl h
        · exact .inr (by simp [h])
      · rcases List.mem_cons.1 h with h | h
        · exact .inl h
        · exact .inr h
theorem SrtI.put {x : Sess} : ∀ {l : List Sess}, SrtI l → SrtI (putS l x)
  | [], _ => by simp [putS, SrtI]
  | a :: r, s => by
    obtain ⟨s1, s2⟩ := List.pairwise_cons.1 s
    simp only [putS]
    by_cases ha : a.id < x.id
    · rw [if_pos ha]
      refine List.pairwise_cons.2 ⟨fun y hy => ?_, SrtI.put s2⟩
      rcases mem_putS hy with rfl | hy
      · exact ha
      · exact s1 y hy
    · rw [if_neg ha]
      by_cases hid : a.id = x.id
      · rw [if_pos hid]; exact List.pairwise_cons.2 ⟨fun y hy => by have := s1 y hy; omega, s2⟩
      · rw [if_neg hid]
        refine List.pairwise_cons.2 ⟨fun y hy => ?_, s⟩
        rcases List.mem_cons.1 hy with rfl | hy
        · omega
        · have := s1 y hy; omega
theorem putS_len {x : Sess} : ∀ {l : List Sess}, (putS l x).length ≤ l.length + 1
  | [] => by simp [putS]
  | a :: r => by
    have := putS_len (x := x) (l := r)
    simp only [putS]; split
    · simp; omega
    · split <;> simp
end Go.Den
namespace Go.Proofs.YtcnphhhcknhhaaaGreat
open Go Go.Den Go.MapKept
set_option linter.unusedSimpArgs false
set_option linter.unusedVariables false
set_option maxRecDepth 20000
theorem tickShut_ok (t : Tm) {h : Heap} {K : Value → Heap → Prop} (hk : ∀ h', Ext h h' → K (.agg (tmC { t with closed := true }).toArray) h') : callM P fn_tick_Shut #[.agg (tmC t).toArray] h K := by
  apply e_tick_Shut
  unfold d_tick_Shut
  rw [zcTime]
  refine nw_agg fun v1 h1 n1 e1 c1 => ?_
  refine nw_intro fun v3 h3 n3 e3 c3 => ?_
  have ne := ne_fresh c1 n3
  have c1 := e3 _ _ c1
  simp -implicitDefEqProofs only [tmC] at c1
  simp -implicitDefEqProofs [ld_at c1, cel_of c1, stm_at c1, ld_at c3, cel_of c3, stm_at c3, stm_skip ne, stm_skip (Ne.symm ne), ld_skip ne, ld_skip (Ne.symm ne), cel_skip ne, cel_skip (Ne.symm ne), stm_upd, ld_same, cel_same, over]
  refine kv (hk _ ?_) rfl
  exact ext_upd n1 (ext_upd (fresh_of e1 n3) (e1.trans e3))
end Go.Proofs.YtcnphhhcknhhaaaGreat
namespace Go.Den
open Go
set_option linter.unusedVariables false
structure Chg where
  user : ByteArray
  old : Pres
  new : Pres
def chgC (c : Chg) : List Value := .string c.user :: (presC c.old ++ presC c.new)
def ChgR (_ : Heap) (l : List Value) (c : Chg) : Prop := l = chgC c
theorem ChgR.ext {h h' : Heap} {c : List Value} {x : Chg} (_ : Ext h h') (r : ChgR h c x) : ChgR h' c x := r
theorem chgC_one (c : Chg) : ∀ u ∈ chgC c, u.oneCell' = true := by
  intro u hu
  simp [chgC, presC] at hu; rcases hu with rfl | rfl | rfl | rfl | rfl | rfl | rfl <;> rfl
def settleB (b : Book) (u : ByteArray) (ss : List Sess) (now : Int) : Book × List Chg :=
  (if ss = [] then delB b u else putB b u ⟨ss, presOf ss now⟩, if presOf ss now = (entOf b u).told then [] else [⟨u, (entOf b u).told, presOf ss now⟩])
/-- What an op makes of a user's sessions. -/
def workS (ss : List Sess) (x : OpD) (now most : Int) : List Sess × Int :=
  if x.kind = 1 then setS ss ⟨x.id, x.status, x.prio, addU now x.ttl⟩ most else if x.kind = 2 then beatS ss x.id (addU now x.ttl) else if x.kind = 3 then clearS ss x.id else (ss, 0)
def writeB (b : Book) (x : OpD) (now most : Int) : Book × List Chg × Int :=
  let w := workS (purgeS (entOf b x.user).ss now) x now most
  let s := settleB b x.user w.1 now
  (s.1, s.2, w.2)
def sweepTo (b0 : Book) (now : Int) : Nat → Book × List Chg
  | 0 => (b0, [])
  | n + 1 =>
    let p := sweepTo b0 now n
    let x := b0.getD n (⟨#[]⟩, ent0)
    let s := settleB p.1 x.1 (purgeS x.2.ss now) now
    (s.1, p.2 ++ s.2)
def sweepB (b : Book) (now : Int) : Book × List Chg := sweepTo b now b.length
/-- What is asked of a book that is written. -/
structure BkW (b : Book) : Prop where
  so : SrtK (keysB b)
  us : ∀ x ∈ b, SrtI x.2.ss ∧ ∀ s ∈ x.2.ss, U64 s.un
theorem entOf_cases (b : Book) (u : ByteArray) : entOf b u = ent0 ∨ ∃ x ∈ b, x.1 = u ∧ entOf b u = x.2 := by
  induction b with
  | nil => exact .inl rfl
  | cons x b ih =>
    obtain ⟨k, e⟩ := x
    simp only [entOf]
    by_cases h : k = u
    · rw [if_pos h]; exact .inr ⟨(k, e), by simp, h, rfl⟩
    · rw [if_neg h]
      rcases ih with ih | ⟨x, h1, h2, h3⟩
      · exact .inl ih
      · exact .inr ⟨x, by simp [h1], h2, h3⟩
theorem BkW.ent {b : Book} (w : BkW b) (u : ByteArray) : SrtI (entOf b u).ss ∧ ∀ s ∈ (entOf b u).ss, U64 s.un := by
  rcases entOf_cases b u with h | ⟨x, h1, h2, h3⟩
  · rw [h]; exact ⟨List.Pairwise.nil, by simp [ent0]⟩
  · rw [h3]; exact w.us x h1
theorem SrtI.beat {l : List Sess} (s : SrtI l) (id un : Int) : SrtI (beatS l id un).1 := by
  unfold beatS
  split
  · refine List.pairwise_map.2 (s.imp fun {a b} h => ?_)
    split <;> split <;> exact h
  · exact s
theorem SrtI.set {l : List Sess} (s : SrtI l) (x : Sess) (most : Int) : SrtI (setS l x most).1 := by
  unfold setS
  split
  · exact s
  · exact s.put
theorem SrtI.clear {l : List Sess} (s : SrtI l) (id : Int) : SrtI (clearS l id).1 := by
  unfold clearS
  split
  · exact s.del id
  · exact s
theorem work_srt {ss : List Sess} (s : SrtI ss) (x : OpD) (now most : Int) : SrtI (workS ss x now most).1 := by
  unfold workS
  split
  · exact s.set _ _
  · split
    · exact s.beat _ _
    · split
      · exact s.clear _
      · exact s
theorem work_un {ss : List Sess} (s : ∀ y ∈ ss, U64 y.un) (x : OpD) {now : Int} (most : Int) (hn : U64 now) (ht : U64 x.ttl) : ∀ y ∈ (workS ss x now most).1, U64 y.un := by
  have ha := addU_rng hn ht
  intro y hy
  unfold workS at hy
  split at hy
  · unfold setS at hy
    split at hy
    · exact s y hy
    · rcases mem_putS hy with rfl | hy
      · exact ha
      · exact s y hy
  · split at hy
    · unfold beatS at hy
      split at hy
      · obtain ⟨z, hz, rfl⟩ := List.mem_map.1 hy
        have := s z hz
        split
        · unfold U64 at *; simp only; omega
        · exact this
      · exact s y hy
    · split at hy
      · unfold clearS at hy
        split at hy
        · exact s y (List.mem_filter.1 hy).1
        · exact s y hy
      · exact s y hy
theorem work_len {ss : List Sess} (x : OpD) (now most : Int) : (workS ss x now most).1.length ≤ ss.length + 1 := by
  unfold workS
  split
  · unfold setS; split
    · exact Nat.le_succ _
    · exact putS_len
  · split
    · unfold beatS; split <;> simp
    · split
      · unfold clearS; split
        · have := List.length_filter_le (fun s : Sess => !decide (s.id = x.id)) ss; unfold delS; simp only; omega
        · exact Nat.le_succ _
      · exact Nat.le_succ _
theorem mem_putB {b : Book} {u : ByteArray} {e : Ent} {x : ByteArray × Ent} : x ∈ putB b u e → x = (u, e) ∨ x ∈ b := by
  induction b with
  | nil => intro h; simp [putB] at h; exact .inl h
  | cons y b ih =>
    obtain ⟨k, f⟩ := y
    intro h
    simp only [putB] at h
    split at h
    · rcases List.mem_cons.1 h with h | h
      · exact .inr (by simp [h])
      · rcases ih h with h | h
        · exact .inl h
        · exact .inr (by simp [h])
    · split at h
      · rcases List.mem_cons.1 h with h | h
        · exact .inl h
        · exact .inr (by simp [h])
      · rcases List.mem_cons.1 h with h | h
        · exact .inl h
        · exact .inr h
theorem BkW.settle {b : Book} (w : BkW b) (u : ByteArray) {ss : List Sess} (now : Int) (h1 : SrtI ss) (h2 : ∀ s ∈ ss, U64 s.un) : BkW (settleB b u ss now).1 := by
  unfold settleB
  dsimp only
  split
  · exact ⟨delB_srt w.so, fun x hx => w.us x (List.mem_filter.1 hx).1⟩
  · refine ⟨putB_srt w.so, fun x hx => ?_⟩
    rcases mem_putB hx with rfl | hx
    · exact ⟨h1, h2⟩
    · exact w.us x hx
theorem settle_len (b : Book) (u : ByteArray) (ss : List Sess) (now : Int) : (settleB b u ss now).1.length ≤ b.length + 1 := by
  unfold settleB
  dsimp only
  split
  · exact Nat.le_succ_of_le delB_len
  · exact putB_len
theorem BkW.purge {l : List Sess} (h1 : SrtI l) (h2 : ∀ s ∈ l, U64 s.un) (now : Int) : SrtI (purgeS l now) ∧ ∀ s ∈ purgeS l now, U64 s.un := ⟨h1.purge now, fun s hs => h2 s (List.mem_filter.1 hs).1⟩
theorem BkW.write {b : Book} (w : BkW b) (x : OpD) {now : Int} (most : Int) (hn : U64 now) (ht : U64 x.ttl) : BkW (writeB b x now most).1 := by
  obtain ⟨h1, h2⟩ := w.ent x.user
  obtain ⟨h3, h4⟩ := BkW.purge h1 h2 now
  exact w.settle _ _ (work_srt h3 x now most) (work_un h4 x most hn ht)
theorem BkW.sweepTo {b : Book} (w : BkW b) (now : Int) : ∀ n, n ≤ b.length → BkW (sweepTo b now n).1
  | 0, _ => w
  | n + 1, hn => by
    have ih := BkW.sweepTo w now n (by omega)
    have hm : b.getD n (⟨#[]⟩, ent0) ∈ b := by rw [List.getD_eq_getElem?_getD, List.getElem?_eq_getElem (by omega)]; exact List.getElem_mem _
    obtain ⟨h1, h2⟩ := w.us _ hm
    obtain ⟨h3, h4⟩ := BkW.purge h1 h2 now
    exact ih.settle _ _ h3 h4
end Go.Den
namespace Go.Den
open Go
end Go.Den
namespace Go.Den
open Go
theorem fz_keep {T : Tags} {h h' : Heap} {l : Nat} (ht : T l ≠ []) (k : Keep (some l) h h') : Ext (fz T h) (fz T h') := fun b o e => by
  unfold fz at e ⊢
  split at e
  · rename_i hb
    rw [if_pos hb]
    exact k b o e fun hh => ht (by cases hh; exact hb)
  · cases e
theorem Rf.keep {sz : Nat} {e : TypeId} {h0 h h' : Heap} {v : Value} {n : Nat} {xs : List Value} {l : Nat} (r : Rf sz e h0 h v n xs) (k : Keep (some l) h h') (hl : h0 l = none) (hv : rowOf v ≠ some l) : Rf sz e h0 h' v n xs :=
  ⟨fun b o e => k b o (r.ex b o e) (fun hh => by cases hh; rw [hl] at e; cases e), r.row.of_at fun g hg => by
    obtain ⟨o, ho⟩ := r.row.lt g hg
    rw [ho, k g o ho (fun hh => hv (by rw [hg, hh]))], r.new, r.one⟩
/-- Several local variables. -/
def tls (T : Tags) (l : List Nat) : Tags := fun b => if b ∈ l then lc else T b
theorem tls_in {T : Tags} {l : List Nat} {b : Nat} (h : b ∈ l) : tls T l b = lc := if_pos h
theorem ChgR.one {h : Heap} : ∀ c y, ChgR h c y → ∀ u ∈ c, u.oneCell' = true := fun c y r u hu => by
  have : c = chgC y := r
  subst this; exact chgC_one y u hu
theorem srt_sub {l m : List ByteArray} (hl : SrtK l) (hm : SrtK m) (h : ∀ k ∈ l, k ∈ m) : l.length ≤ m.length := by
  induction m generalizing l with
  | nil => cases l with
    | nil => simp
    | cons a l => have := h a (by simp); simp at this
  | cons b m ih =>
    have hm' := (List.pairwise_cons.1 hm)
    cases l with
    | nil => simp
    | cons a l =>
      have hl' := List.pairwise_cons.1 hl
      simp only [List.length_cons, Nat.add_le_add_iff_right]
      refine ih hl'.2 hm'.2 fun k hk => ?_
      rcases List.mem_cons.1 (h k (by simp [hk])) with hh | hh
      · subst hh
        have h1 := hl'.1 k hk
        rcases List.mem_cons.1 (h a (by simp)) with ha | ha
        · subst ha; rw [ltS_irrefl] at h1; cases h1
        · have h2 := hm'.1 a ha
          rw [ltS_asymm h1] at h2; cases h2
      · exact hh
theorem settle_keys {b : Book} {u : ByteArray} {ss : List Sess} {now : Int} {k : ByteArray} (h : k ∈ keysL (settleB b u ss now).1) : k = u ∨ k ∈ keysL b := by
  unfold settleB at h
  dsimp only at h
  split at h
  · obtain ⟨x, hx, rfl⟩ := List.mem_map.1 h
    exact .inr (List.mem_map_of_mem (List.mem_filter.1 hx).1)
  · exact keys_putB h
theorem sweep_keys {b : Book} {now : Int} : ∀ {n : Nat}, n ≤ b.length → ∀ k ∈ keysL (sweepTo b now n).1, k ∈ keysL b
  | 0, _, k, h => h
  | n + 1, hn, k, h => by
    rcases settle_keys h with rfl | h
    · rw [List.getD_eq_getElem?_getD, List.getElem?_eq_getElem (by omega)]
      exact List.mem_map_of_mem (List.getElem_mem _)
    · exact sweep_keys (by omega) k h
theorem sweep_len {b : Book} (w : BkW b) {now : Int} {n : Nat} (hn : n ≤ b.length) : (sweepTo b now n).1.length ≤ b.length := by
  have := srt_sub (l := keysL (sweepTo b now n).1) (m := keysL b) (w.sweepTo now n hn).so w.so (sweep_keys hn)
  simpa [keysL] using this
end Go.Den
namespace Go.Proofs.YtcnphhhcknhhaaaGreat
open Go Go.Den Go.MapKept
set_option linter.unusedSimpArgs false
set_option linter.unusedVariables false
set_option maxRecDepth 20000
def swL (v5 v7 v10 l b : Nat) (av : Value) : List Nat := v5 :: v7 :: v10 :: l :: b :: (rowOf av).toList
structure SwJ (T : Tags) (h hB : Heap) (b0 : Book) (now : Int) (v5 v7 v10 l b i : Nat) (h' : Heap) (k v av : Value) : Prop where
  kb : ∀ q o, hB q = some o → q ≠ v7 → q ≠ v10 → h' q = some o
  c10 : h' v10 = some (.cells #[k, v] ty_omap_Map_string_doorman_book_Entry (0, 0))
  bk : BookR (fz (tls T (swL v5 v7 v10 l b av)) h') k v (sweepTo b0 now i).1
  c7 : h' v7 = some (.cells #[av] ty_Sl_book_Change (0, 0))
  rw : Rf 7 ty_book_Change h h' av (sweepTo b0 now i).2.length ((sweepTo b0 now i).2.flatMap chgC)
  nl : rowOf av ≠ some l
  nb : rowOf av ≠ some b
  nB : ∀ q, rowOf av = some q → hB q = none
theorem SwJ.keep {T : Tags} {h hB : Heap} {b0 : Book} {now : Int} {v5 v7 v10 l b i : Nat} {h' h'' : Heap} {k v av : Value} (x : SwJ T h hB b0 now v5 v7 v10 l b i h' k v av) (hl : hB l = none) (e : Ext h hB) (b7 : ∃ o, hB v7 = some o) (b10 : ∃ o, hB v10 = some o) (kp : Keep (some l) h' h'') :
    SwJ T h hB b0 now v5 v7 v10 l b i h'' k v av := by
  have ne : ∀ q, (∃ o, hB q = some o) → some q ≠ some l := fun q ⟨o, ho⟩ hh => by cases hh; rw [hl] at ho; cases ho
  exact ⟨fun q o ho n7 n10 => kp q o (x.kb q o ho n7 n10) (ne q ⟨o, ho⟩), kp _ _ x.c10 (ne _ b10), x.bk.ext (fz_keep (by rw [tls_in (by simp [swL])]; simp) kp), kp _ _ x.c7 (ne _ b7),
    x.rw.keep kp (fresh_of e hl) x.nl, x.nl, x.nb, x.nB⟩
end Go.Proofs.YtcnphhhcknhhaaaGreat
namespace Go.Den
open Go
set_option linter.unusedVariables false
def endV (v : Int) : Int := if wrt v then v + 1 else v
def Ring.put (r : Ring) (x : Evt) : Ring := if r.room ≤ r.l.length then { r with lost := true } else { r with l := r.l ++ [x] }
def qset (q : Nat → Ring) (i : Nat) (r : Ring) : Nat → Ring := fun k => if k = i then r else q k
def clientB (who : Int) : Bool := decide (0 ≤ who ∧ who < 8)
def mbit (m who : Int) : Bool := m / 2 ^ who.toNat % 2 == 1
def Feed.watching (f : Feed) (who : Int) (u : ByteArray) : Bool := clientB who && mbit (valL 0 f.ws u) who
def Feed.tell1 (f : Feed) (c : Chg) (seq : Int) : Nat → Feed
  | 0 => f
  | n + 1 => let g := f.tell1 c seq n; if f.watching n c.user then { g with qs := qset g.qs n ((g.qs n).put ⟨c.user, c.old, c.new, seq⟩) } else g
def Feed.tell (f : Feed) (l : List Chg) (seq : Int) : Feed := l.foldl (fun f c => f.tell1 c seq 8) f
theorem tell1_ws (f : Feed) (c : Chg) (seq : Int) : ∀ n, (f.tell1 c seq n).ws = f.ws
  | 0 => rfl
  | n + 1 => by
    have ih := tell1_ws f c seq n
    simp only [Feed.tell1]
    split <;> exact ih
/-- What is asked of a queue, and of a feed. -/
def RiG (r : Ring) : Prop := 0 ≤ r.room ∧ r.room ≤ 16 ∧ r.l.length ≤ 16
structure FdG (f : Feed) : Prop where
  so : SrtK (keysL f.ws)
  len : f.ws.length < 1000000
  ms : ∀ x ∈ f.ws, 0 ≤ x.2 ∧ x.2 < 4294967296
  qs : ∀ j, j < 8 → RiG (f.qs j)
theorem RiG.put {r : Ring} (g : RiG r) (x : Evt) : RiG (r.put x) := by
  obtain ⟨h1, h2, h3⟩ := g
  unfold Ring.put
  split
  · exact ⟨h1, h2, h3⟩
  · refine ⟨h1, h2, ?_⟩
    simp only [List.length_append, List.length_cons, List.length_nil]; omega
theorem FdG.tell1 {f : Feed} (g : FdG f) (c : Chg) (seq : Int) : ∀ n, FdG (f.tell1 c seq n)
  | 0 => g
  | n + 1 => by
    have ih := FdG.tell1 g c seq n
    simp only [Feed.tell1]
    split
    · refine ⟨ih.so, ih.len, ih.ms, fun j hj => ?_⟩
      simp only [qset]
      split
      · rename_i h; subst h; exact (ih.qs _ hj).put _
      · exact ih.qs j hj
    · exact ih
theorem FdG.tell {f : Feed} (g : FdG f) (seq : Int) : ∀ l : List Chg, FdG (f.tell l seq) := by
  intro l
  unfold Feed.tell
  induction l generalizing f with
  | nil => exact g
  | cons c l ih => exact ih (g.tell1 c seq 8)
end Go.Den
namespace Go.Den
open Go
theorem bin_shr32 (t : Nat) (c : Bool) {m n : Int} (h0 : 0 ≤ n) (h1 : n < 8) (hm : 0 ≤ m) : binV .shr t c (.int .u32 m) (.int .i64 n) = some (.int .u32 (m / 2 ^ n.toNat)) := by
  have : m.fdiv (2 ^ n.toNat) = m / 2 ^ n.toNat := Int.fdiv_eq_ediv_of_nonneg _ (Int.pow_nonneg (by omega))
  simp [binV, intV, IntKind.bits, this]
  exact ⟨h0, by rw [Nat.min_eq_left (by omega), this]⟩
theorem wrapU32_id {n : Int} (h0 : 0 ≤ n) (h1 : n < 4294967296) : IntKind.u32.wrap n = n := by
  simp only [IntKind.wrap, IntKind.bits, IntKind.signed]
  simp
  omega
theorem bin_and32 (t : Nat) (c : Bool) {b : Int} (hb : 0 ≤ b) (h2 : b < 4294967296) : binV .and t c (.int .u32 b) (.int .u32 1) = some (.int .u32 (b % 2)) := by
  have h : binV .and t c (.int .u32 b) (.int .u32 1) = some (.int .u32 (IntKind.u32.wrap (BitVec.ofInt 32 b &&& BitVec.ofInt 32 1).toNat)) := rfl
  obtain ⟨n, rfl⟩ : ∃ n : Nat, b = n := ⟨b.toNat, by omega⟩
  have e : (BitVec.ofInt 32 (n : Int) &&& BitVec.ofInt 32 1).toNat = n % 2 := by
    rw [BitVec.toNat_and]
    have : (BitVec.ofInt 32 (n : Int)).toNat = n := by simp; omega
    rw [this]
    have : (BitVec.ofInt 32 1).toNat = 1 := by rfl
    rw [this, Nat.and_one_is_mod]
  rw [h, e, wrapU32_id (by omega) (by omega)]
  congr 2
theorem valL_rng {b : List (ByteArray × Int)} {u : ByteArray} (h : ∀ x ∈ b, 0 ≤ x.2 ∧ x.2 < 4294967296) : 0 ≤ valL 0 b u ∧ valL 0 b u < 4294967296 := by
  induction b with
  | nil => simp [valL]
  | cons x b ih =>
    obtain ⟨k, e⟩ := x
    simp only [valL]
    split
    · exact h (k, e) (by simp)
    · exact ih fun x hx => h x (by simp [hx])
end Go.Den
namespace Go.Proofs.YtcnphhhcknhhaaaGreat
open Go Go.Den Go.MapKept
set_option linter.unusedSimpArgs false
set_option linter.unusedVariables false
set_option maxRecDepth 20000
theorem bsEv : bsI P ty_Sl_api_Event = some (ty_api_Event, 8, #[.string ⟨#[]⟩, .int .i64 0, .int .i64 0, .int .i64 0, .int .i64 0, .int .i64 0, .int .i64 0, .int .u64 0]) := by kernel_rfl
theorem unSlEv : P.underlying ty_Sl_api_Event = some (.slice ty_api_Event) := by kernel_rfl
theorem apEv : apC P ty_api_Event = some (8, 72, 8) := by kernel_rfl
theorem client_ok (who : Int) {h : Heap} {K : Value → Heap → Prop} (hk : K (.bool (clientB who)) h) : callM P fn_feed_client #[.int .i64 who] h K := by
  apply e_feed_client
  unfold d_feed_client
  simp +contextual -implicitDefEqProofs
  exact kb hk (by unfold clientB; rw [Bool.decide_and])
theorem watching_ok (who : Int) (u : ByteArray) {T : Tags} {h : Heap} {g : Tag} {p : Nat} {f : Feed} (x : FeedR T h g p f) (fg : FdG f) {K : Value → Heap → Prop}
    (hk : ∀ h', Ext h h' → K (.bool (f.watching who u)) h') : callM P fn_feed_Feed_Watching #[ptr p, .int .i64 who, .string u] h K := by
  apply e_feed_Feed_Watching
  unfold d_feed_Feed_Watching
  obtain ⟨kw, vw, q, cp, tp, x1, x2, xq, s1, s2⟩ := x
  have hag : ldV (some (some 2)) (ptr p) h = some (.agg #[kw, vw]) := by simp [ld_at cp, feedC, feedG, List.range_succ]
  simp -implicitDefEqProofs [hag]
  refine mget_ok f.ws fg.so u (fz_ext T h) ⟨x1, x2, s1, s2⟩ fg.len fun h1 e1 => ?_
  unfold d_feed_Feed_Watching_1
  simp -implicitDefEqProofs only [exV_0, exV_1, ov_s]
  refine client_ok who ?_
  unfold d_feed_Feed_Watching_2
  obtain ⟨m0, m1⟩ := valL_rng (u := u) fg.ms
  cases hc : clientB who with
  | false =>
    simp -implicitDefEqProofs
    exact kb (hk _ e1) (by simp [Feed.watching, hc])
  | true =>
    have hc' : 0 ≤ who ∧ who < 8 := by simpa [clientB] using hc
    have m2 : 0 ≤ valL 0 f.ws u / 2 ^ who.toNat := Int.ediv_nonneg m0 (Int.pow_nonneg (by omega))
    have m3 : valL 0 f.ws u / 2 ^ who.toNat < 4294967296 := Int.lt_of_le_of_lt (Int.ediv_le_self _ m0) m1
    simp -implicitDefEqProofs [bin_shr32 _ _ hc'.1 hc'.2 m0, bin_and32 _ _ m2 m3]
    exact kb (hk _ e1) (by simp [Feed.watching, hc, mbit])
end Go.Proofs.YtcnphhhcknhhaaaGreat
namespace Go.Proofs.YtcnphhhcknhhaaaGreat
open Go Go.Den Go.MapKept
set_option linter.unusedSimpArgs false
set_option linter.unusedVariables false
set_option maxRecDepth 20000
/-- A feed, with where its queues lie. -/
structure FeedX (T : Tags) (h : Heap) (g : Tag) (p : Nat) (f : Feed) (kw vw : Value) (q : Nat → Nat) : Prop where
  hp : h p = some (.cells (feedC kw vw fun j => ptr (q j)).toArray ty_feed_Feed (0, 0))
  tp : T p = g ++ [0]
  x1 : Sl 1 StrR (fz T h) kw (f.ws.map (·.1))
  x2 : Sl 1 MaskR (fz T h) vw (f.ws.map (·.2))
  xq : ∀ j, j < 8 → RingR T h (g ++ [1, j]) (q j) (f.qs j)
  s1 : Sn kw
  s2 : Sn vw
theorem FeedX.r {T : Tags} {h : Heap} {g : Tag} {p : Nat} {f : Feed} {kw vw : Value} {q : Nat → Nat} (x : FeedX T h g p f kw vw q) : FeedR T h g p f := ⟨kw, vw, q, x.hp, x.tp, x.x1, x.x2, x.xq, x.s1, x.s2⟩
theorem FeedX.kp {U : Tag → Prop} {T T' : Tags} {h h' : Heap} {g : Tag} {p : Nat} {f : Feed} {kw vw : Value} {q : Nat → Nat} (x : FeedX T h g p f kw vw q) (k : Kp U T h T' h') (o : Off U g) (n : ¬ U []) : FeedX T' h' g p f kw vw q :=
  ⟨(k.at x.hp x.tp (o.at _)).1, (k.at x.hp x.tp (o.at _)).2, x.x1.ext (@StrR.ext) (k.ext n), x.x2.ext (@MaskR.ext) (k.ext n), fun j hj => (x.xq j hj).kp k (o.app _), x.s1, x.s2⟩
end Go.Proofs.YtcnphhhcknhhaaaGreat
namespace Go.Den
open Go
set_option linter.unusedVariables false
def Hall.end_ (H : Hall) (who : Int) (s : Nat) : Hall := (H.did who 4 (4 * s + 2)).put s { H.ss s with v := endV (H.ss s).v }
def Hall.pub (H : Hall) (who : Int) (s : Nat) : Hall := ((H.did who 1 (4 * s + 4)).did who 4 (4 * s + 3)).put s { H.ss s with snap := (H.ss s).book }
def Hall.take (H : Hall) (who : Int) : Hall := { H.did who 4 0 with t := { H.t with seq := addU H.t.seq 1 } }
def Hall.shut (H : Hall) (who : Int) : Hall := { H.did who 4 0 with t := { H.t with closed := true } }
def Hall.wr (H : Hall) (who : Int) (s : Nat) : Hall := H.did who 2 (4 * s + 4)
def Hall.sweep (H : Hall) (who : Int) (s : Nat) (t : Tm) : Hall :=
  (H.wr who s).put s { H.ss s with book := (sweepB (H.ss s).book t.now).1, feed := (H.ss s).feed.tell (sweepB (H.ss s).book t.now).2 t.seq }
def Hall.write (H : Hall) (who : Int) (s : Nat) (x : OpD) (t : Tm) : Hall × Int :=
  if t.closed then (H.wr who s, 5) else
    ((H.wr who s).put s { H.ss s with book := (writeB (H.ss s).book x t.now H.c.sessions).1, feed := (H.ss s).feed.tell (writeB (H.ss s).book x t.now H.c.sessions).2.1 t.seq }, (writeB (H.ss s).book x t.now H.c.sessions).2.2)
end Go.Den
namespace Go.Proofs.YtcnphhhcknhhaaaGreat
open Go Go.Den Go.MapKept
set_option linter.unusedSimpArgs false
set_option linter.unusedVariables false
set_option maxRecDepth 20000
/-- The time is written. -/
theorem HallX.tst {T : Tags} {h : Heap} {g : Tag} {p : Nat} {H : Hall} {sv av : Value} {Y : Nat → SV} (x : HallX T h g p H sv av Y) (w : Wf T h) (t : Tm) :
    Only (fun u => u = g ++ [0]) T h T (upd h p (.cells (hallC { H with t := t } sv av).toArray ty_hall_Hall (0, 0))) ∧ HallX T (upd h p (.cells (hallC { H with t := t } sv av).toArray ty_hall_Hall (0, 0))) g p { H with t := t } sv av Y := by
  have o : Only (fun u => u = g ++ [0]) T h T (upd h p (.cells (hallC { H with t := t } sv av).toArray ty_hall_Hall (0, 0))) := Only.upd w x.hp x.tp
  exact ⟨o, upd_same' _ _ _, x.tp, x.st.kp o.k (ne_tag (by simp)), x.ac.kp o.k (ne_tag (by simp)), fun i hi => (x.sr i hi).kp o.k (off_eq (by simp)) (by simp)⟩
theorem hshut_ok (who : Int) {T : Tags} {h : Heap} {g : Tag} {p : Nat} {H : Hall} (w : Wf T h) (gg : Gd g) (x : HallR T h g p H) (hl : H.acts.length < 1000000) {K : Value → Heap → Prop}
    (hk : ∀ T' h', Only (pre g) T h T' h' → HallR T' h' g p (H.shut who) → K (.bool (!H.t.closed)) h') : callM P fn_hall_Hall_Shut #[ptr p, .int .i64 who] h K := by
  apply e_hall_Hall_Shut
  unfold d_hall_Hall_Shut
  obtain ⟨sv, av, Y, x⟩ := x
  refine did_ok who 4 0 w gg x hl fun T2 h2 av2 o2 x2 => ?_
  have cp := x2.hp
  simp -implicitDefEqProofs only [hallC, Hall.did] at cp
  unfold d_hall_Hall_Shut_1
  have hld : ldV (some (some 3)) (.pointer (some ⟨p, 7, none⟩)) h2 = some (.agg (tmC H.t).toArray) := by simp [ld_at cp, tmC]
  have hcl : cel h2 p 9 = some (.bool H.t.closed) := by simp [cel_of cp]
  simp -implicitDefEqProofs only [ncV_p, faV_p, ov_s, Nat.zero_add, ldV_c, hcl, hld]
  refine tickShut_ok H.t fun h3 e3 => ?_
  have o3 : Only non T2 h2 T2 h3 := Only.of_ext o2.wf e3
  have x3 : HallX T2 h3 g p (H.did who 4 0) sv av2 Y := ⟨e3 _ _ x2.hp, x2.tp, x2.st.kp o3.k (not_non _), x2.ac.kp o3.k (not_non _), fun i hi => (x2.sr i hi).kp o3.k (Off.non _) (not_non _)⟩
  have cp := x3.hp
  simp -implicitDefEqProofs only [hallC] at cp
  obtain ⟨o4, x4⟩ := x3.tst o3.wf { H.t with closed := true }
  simp -implicitDefEqProofs [ld_at cp, cel_of cp, stm_at cp, stm_upd, ld_same, cel_same, over, tmC]
  exact hk T2 _ (((o2.mono fun _ => U02.pre).up o3 non_up).up o4 fun t => eq_pre) ⟨sv, av2, Y, x4⟩
end Go.Proofs.YtcnphhhcknhhaaaGreat
namespace Go.Proofs.YtcnphhhcknhhaaaGreat
open Go Go.Den Go.MapKept
set_option linter.unusedSimpArgs false
set_option linter.unusedVariables false
set_option maxRecDepth 20000
/-- A stripe is about to be written: the act is kept, and where the stripe lies. -/
theorem hwr_ok (who : Int) {s : Nat} {T : Tags} {h : Heap} {g : Tag} {p : Nat} {H : Hall} (w : Wf T h) (gg : Gd g) {sv av : Value} {Y : Nat → SV} (x : HallX T h g p H sv av Y) (hs : s < H.n) (h8 : H.n ≤ 8) (hl : H.acts.length < 1000000) {K : Value → Heap → Prop}
    (hk : ∀ T' h' av' b, Only (U02 g) T h T' h' → HallX T' h' g p (H.wr who s) sv av' Y → rowOf sv = some b → K (.pointer (some ⟨b, s * 8, none⟩)) h') : callM P fn_hall_Hall_write #[ptr p, .int .i64 who, .int .i64 s] h K := by
  apply e_hall_Hall_write
  unfold d_hall_Hall_write
  refine place_ok s 4 (by omega) ?_
  unfold d_hall_Hall_write_1
  refine did_ok who 2 _ w gg x hl fun T2 h2 av2 o2 x2 => ?_
  have cp := x2.hp
  simp -implicitDefEqProofs only [hallC] at cp
  obtain ⟨b, ob, rb, hb1, tb, ia, l1, l2, l3, l4, l5, l6⟩ := x2.lds (s := s) (k := .i64) hs
  simp -implicitDefEqProofs [ld_at cp, cel_of cp, stm_at cp, stm_upd, ld_same, cel_same, over, ia]
  exact hk T2 h2 av2 b o2 x2 rb
/-- A stripe's feed has become another one. -/
theorem HallX.fed {T T' : Tags} {h h' : Heap} {g : Tag} {p : Nat} {H : Hall} {sv av : Value} {Y : Nat → SV} (x : HallX T h g p H sv av Y) {s : Nat} (hs : s < H.n) {f : Feed} (o : Only (pre (g ++ [3, s])) T h T' h') (gg : Gd g) (r : FeedR T' h' (g ++ [3, s]) (Y s).fp f) :
    HallX T' h' g p (H.put s { H.ss s with feed := f }) sv av Y := by
  have b := o.k.at x.hp x.tp (not_pre (by simp))
  have n : ¬ pre (g ++ [3, s]) [] := (gg.app _).nil
  refine ⟨b.1, b.2, ?_, x.ac.kp o.k (not_pre (by simp)), fun i hi => ?_⟩
  · have := x.st.kp o.k (not_pre (by simp))
    have e : seqF H.n (fun i => strC (H.ss i) (Y i)) = seqF H.n fun i => strC ((H.put s { H.ss s with feed := f }).ss i) (Y i) := seqF_congr fun i hi => by
      simp -implicitDefEqProofs only [Hall.put, sput]
      by_cases his : i = s
      · subst his; rw [if_pos rfl]; rfl
      · rw [if_neg his]
    rw [e] at this
    exact this
  · simp -implicitDefEqProofs only [Hall.put, sput]
    by_cases his : i = s
    · subst his
      rw [if_pos rfl]
      have y := x.sr i hi
      exact ⟨y.1.ext (o.ext n), y.2.1.ext (o.ext n), r⟩
    · rw [if_neg his]; exact (x.sr i hi).kp o.k (off_pre (by simp; omega) (by simp; omega)) n
end Go.Proofs.YtcnphhhcknhhaaaGreat
namespace Go.Den
open Go
set_option linter.unusedVariables false
/-- A mask with a client's bit, and without it. -/
def mor (m who : Int) : Int := ((BitVec.ofInt 32 m ||| BitVec.ofInt 32 (2 ^ who.toNat)).toNat : Int)
def mclr (m who : Int) : Int := ((BitVec.ofInt 32 m &&& ~~~ BitVec.ofInt 32 (2 ^ who.toNat)).toNat : Int)
theorem mbit_nat (m w : Nat) : mbit (m : Int) (w : Int) = m.testBit w := by
  unfold mbit
  rw [Nat.testBit_eq_decide_div_mod_eq]
  have : ((m : Int) / 2 ^ ((w : Int)).toNat % 2) = ((m / 2 ^ w % 2 : Nat) : Int) := by push_cast; simp
  rw [this]
  rcases Nat.mod_two_eq_zero_or_one (m / 2 ^ w) with h | h <;> simp [h]
theorem mbit_bv {n : Nat} (b : BitVec n) (w : Nat) : mbit (b.toNat : Int) (w : Int) = b.getLsbD w := by rw [mbit_nat]; rfl
theorem bv_pow (w : Nat) : BitVec.ofInt 32 (2 ^ w) = BitVec.twoPow 32 w := by
  apply BitVec.eq_of_toNat_eq
  rw [BitVec.toNat_twoPow]
  have : (2 ^ w : Int) = ((2 ^ w : Nat) : Int) := by push_cast; rfl
  rw [this, BitVec.ofInt_natCast, BitVec.toNat_ofNat]
theorem bv_of {m : Int} (h0 : 0 ≤ m) (h1 : m < 4294967296) : ((BitVec.ofInt 32 m).toNat : Int) = m := by
  rw [BitVec.toNat_ofInt]; omega
theorem mor_rng (m who : Int) : 0 ≤ mor m who ∧ mor m who < 4294967296 := by
  have := (BitVec.ofInt 32 m ||| BitVec.ofInt 32 (2 ^ who.toNat)).isLt
  unfold mor; omega
theorem mclr_rng (m who : Int) : 0 ≤ mclr m who ∧ mclr m who < 4294967296 := by
  have := (BitVec.ofInt 32 m &&& ~~~ BitVec.ofInt 32 (2 ^ who.toNat)).isLt
  unfold mclr; omega
theorem mbit_mor {m : Int} (h0 : 0 ≤ m) (h1 : m < 4294967296) {w j : Nat} (hw : w < 8) (hj : j < 8) : mbit (mor m w) j = (mbit m j || decide (j = w)) := by
  unfold mor
  rw [mbit_bv, BitVec.getLsbD_or, Int.toNat_natCast, bv_pow, BitVec.getLsbD_twoPow, ← mbit_bv, bv_of h0 h1]
  have : decide (w < 32) = true := by simp; omega
  rw [this, Bool.true_and]
  congr 1
  exact decide_eq_decide.2 eq_comm
theorem mbit_mclr {m : Int} (h0 : 0 ≤ m) (h1 : m < 4294967296) {w j : Nat} (hw : w < 8) (hj : j < 8) : mbit (mclr m w) j = (mbit m j && !decide (j = w)) := by
  unfold mclr
  rw [mbit_bv, BitVec.getLsbD_and, BitVec.getLsbD_not, Int.toNat_natCast, bv_pow, BitVec.getLsbD_twoPow, ← mbit_bv, bv_of h0 h1]
  have h1 : decide (w < 32) = true := by simp; omega
  have h2 : decide (j < 32) = true := by simp; omega
  simp only [h1, h2, Bool.true_and]
  congr 2
  exact decide_eq_decide.2 eq_comm
theorem mbit_zero (j : Int) : mbit 0 j = false := by simp [mbit]
theorem mem_putB' {α : Type} {u : ByteArray} {e : α} {x : ByteArray × α} : ∀ {b : List (ByteArray × α)}, x ∈ putB b u e → x = (u, e) ∨ x ∈ b
  | [], h => by simp [putB] at h; exact .inl h
  | (k, y) :: r, h => by
    simp only [putB] at h
    split at h
    · rcases List.mem_cons.1 h with h | h
      · exact .inr (by simp [h])
      · rcases mem_putB' h with h | h
        · exact .inl h
        · exact .inr (by simp [h])
    · split at h
      · rcases List.mem_cons.1 h with h | h
        · exact .inl h
        · exact .inr (by simp [h])
      · rcases List.mem_cons.1 h with h | h
        · exact .inl h
        · exact .inr h
def Feed.watch (f : Feed) (who : Int) (u : ByteArray) : Feed := if clientB who then { f with ws := putB f.ws u (mor (valL 0 f.ws u) who) } else f
def Feed.unwatch (f : Feed) (who : Int) (u : ByteArray) : Feed :=
  if clientB who = true ∧ valL 0 f.ws u ≠ 0 then (if mclr (valL 0 f.ws u) who = 0 then { f with ws := delB f.ws u } else { f with ws := putB f.ws u (mclr (valL 0 f.ws u) who) }) else f
def Feed.count (f : Feed) (who : Int) : Nat := (f.ws.filter fun x => clientB who && mbit x.2 who).length
def Feed.drain (f : Feed) (who : Int) : Feed := if clientB who then { f with qs := qset f.qs who.toNat ⟨(f.qs who.toNat).room, [], false⟩ } else f
def Feed.told (f : Feed) (who : Int) : List Evt := if clientB who then (f.qs who.toNat).l else []
def Feed.lost (f : Feed) (who : Int) : Bool := clientB who && (f.qs who.toNat).lost
theorem FdG.watch {f : Feed} (g : FdG f) (who : Int) (u : ByteArray) (hl : f.ws.length < 999999) : FdG (f.watch who u) := by
  unfold Feed.watch
  split
  · refine ⟨putB_srt g.so, ?_, fun x hx => ?_, g.qs⟩
    · have := putB_len (u := u) (e := mor (valL 0 f.ws u) who) (b := f.ws); show (putB _ _ _).length < _; omega
    · rcases mem_putB' (b := f.ws) hx with rfl | hx
      · exact mor_rng _ _
      · exact g.ms x hx
  · exact g
theorem FdG.unwatch {f : Feed} (g : FdG f) (who : Int) (u : ByteArray) (hl : f.ws.length < 999999) : FdG (f.unwatch who u) := by
  unfold Feed.unwatch
  split
  · split
    · refine ⟨delB_srt g.so, ?_, fun x hx => ?_, g.qs⟩
      · have := delB_len (u := u) (b := f.ws); show (delB _ _).length < _; omega
      · exact g.ms x (List.mem_filter.1 hx).1
    · refine ⟨putB_srt g.so, ?_, fun x hx => ?_, g.qs⟩
      · have := putB_len (u := u) (e := mclr (valL 0 f.ws u) who) (b := f.ws); show (putB _ _ _).length < _; omega
      · rcases mem_putB' (b := f.ws) hx with rfl | hx
        · exact mclr_rng _ _
        · exact g.ms x hx
  · exact g
theorem FdG.drain {f : Feed} (g : FdG f) (who : Int) : FdG (f.drain who) := by
  unfold Feed.drain
  split
  · refine ⟨g.so, g.len, g.ms, fun j hj => ?_⟩
    simp only [qset]
    split
    · rename_i h; subst h; exact ⟨(g.qs _ hj).1, (g.qs _ hj).2.1, by simp⟩
    · exact g.qs j hj
  · exact g
end Go.Den
namespace Go.Den
open Go
set_option linter.unusedVariables false
set_option linter.unusedSimpArgs false
structure PairD where
  who : Int
  user : ByteArray
theorem putB_perm {α : Type} {u : ByteArray} {e : α} : ∀ {b : List (ByteArray × α)}, SrtK (keysL b) → (putB b u e).Perm ((u, e) :: delB b u)
  | [], _ => by simp [putB, delB]
  | (k, x) :: r, s => by
    obtain ⟨s1, s2⟩ := List.pairwise_cons.1 s
    simp only [putB]
    cases hk : ltS k u with
    | true =>
      have hne : k ≠ u := fun e => by rw [e, ltS_irrefl] at hk; cases hk
      have e : delB ((k, x) :: r) u = (k, x) :: delB r u := by simp [delB, hne]
      rw [if_pos rfl, e]
      exact (List.Perm.cons _ (putB_perm s2)).trans (List.Perm.swap _ _ _)
    | false =>
      simp only [Bool.false_eq_true, if_false]
      by_cases hku : k = u
      · rw [if_pos hku]
        have hn : u ∉ keysL r := fun h => by
          have := s1 u h
          rw [hku, ltS_irrefl] at this; cases this
        have e : delB ((k, x) :: r) u = r := by
          have := delB_none hn
          unfold delB at this ⊢
          simp [hku, this]
        rw [e]
      · rw [if_neg hku]
        have hn : u ∉ keysL r := fun h => by
          have := s1 u h
          rw [hk] at this; cases this
        have e : delB ((k, x) :: r) u = (k, x) :: r := by
          have := delB_none hn
          unfold delB at this ⊢
          simp [hku, this]
        rw [e]
theorem self_perm {u : ByteArray} {α : Type} {d : α} : ∀ {b : List (ByteArray × α)}, SrtK (keysL b) → u ∈ keysL b → b.Perm ((u, valL d b u) :: delB b u)
  | [], _, h => by simp [keysL] at h
  | (k, x) :: r, s, h => by
    obtain ⟨s1, s2⟩ := List.pairwise_cons.1 s
    by_cases hku : k = u
    · have hn : u ∉ keysL r := fun h => by
        have := s1 u h
        rw [hku, ltS_irrefl] at this; cases this
      have e : delB ((k, x) :: r) u = r := by
        have := delB_none hn
        unfold delB at this ⊢
        simp [hku, this]
      rw [e]; simp [valL, hku]
    · have hr : u ∈ keysL r := by
        simp only [keysL, List.map_cons, List.mem_cons] at h
        exact h.resolve_left (Ne.symm hku)
      have e : delB ((k, x) :: r) u = (k, x) :: delB r u := by simp [delB, hku]
      rw [e]; simp only [valL, if_neg hku]
      exact (List.Perm.cons _ (self_perm s2 hr)).trans (List.Perm.swap _ _ _)
/-- Whom a client watches. -/
def wsOf (ws : List (ByteArray × Int)) (j : Nat) : List ByteArray := (ws.filter fun x => mbit x.2 j).map (·.1)
def psOf (ps : List PairD) (j : Nat) : List ByteArray := (ps.filter fun p => decide (p.who = (j : Int))).map (·.user)
theorem wsOf_put {ws : List (ByteArray × Int)} (s : SrtK (keysL ws)) (u : ByteArray) (e : Int) (j : Nat) : (wsOf (putB ws u e) j).Perm ((if mbit e j then [u] else []) ++ wsOf (delB ws u) j) := by
  refine (((putB_perm s).filter _).map _).trans ?_
  rw [List.filter_cons]
  unfold wsOf
  split <;> simp
theorem wsOf_self {ws : List (ByteArray × Int)} (s : SrtK (keysL ws)) (u : ByteArray) (j : Nat) : (wsOf ws j).Perm ((if mbit (valL 0 ws u) j then [u] else []) ++ wsOf (delB ws u) j) := by
  by_cases h : u ∈ keysL ws
  · refine (((self_perm (d := 0) s h).filter _).map _).trans ?_
    rw [List.filter_cons]
    unfold wsOf
    split <;> simp
  · rw [valL_none h, mbit_zero, delB_none h]; simp
theorem wsOf_del_not {ws : List (ByteArray × Int)} {u : ByteArray} {j : Nat} : u ∉ wsOf (delB ws u) j := by
  intro h
  obtain ⟨x, hx, rfl⟩ := List.mem_map.1 h
  have := (List.mem_filter.1 hx).1
  simp [delB] at this
theorem wsOf_mem {ws : List (ByteArray × Int)} (s : SrtK (keysL ws)) {u : ByteArray} {j : Nat} : u ∈ wsOf ws j ↔ mbit (valL 0 ws u) j = true := by
  rw [(wsOf_self s u j).mem_iff, List.mem_append]
  constructor
  · rintro (h | h)
    · split at h
      · assumption
      · simp at h
    · exact absurd h wsOf_del_not
  · intro h; rw [if_pos h]; simp
/-- Pairs that say what masks say. -/
structure FdP (f : Feed) (ps : List PairD) : Prop where
  pm : ∀ j, j < 8 → (psOf ps j).Perm (wsOf f.ws j)
  rg : ∀ p ∈ ps, 0 ≤ p.who ∧ p.who < 8
def pairIs (who : Int) (u : ByteArray) (p : PairD) : Bool := decide (p.who = who) && decide (p.user = u)
theorem psOf_mem {ps : List PairD} {u : ByteArray} {j : Nat} : u ∈ psOf ps j ↔ ps.any (pairIs j u) = true := by
  unfold psOf
  simp only [List.mem_map, List.mem_filter, List.any_eq_true, pairIs, Bool.and_eq_true, decide_eq_true_eq]
  constructor
  · rintro ⟨p, ⟨h1, h2⟩, h3⟩; exact ⟨p, h1, h2, h3⟩
  · rintro ⟨p, h1, h2, h3⟩; exact ⟨p, ⟨h1, h2⟩, h3⟩
theorem FdP.watching {f : Feed} {ps : List PairD} (x : FdP f ps) (g : FdG f) (who : Int) (u : ByteArray) : ps.any (pairIs who u) = f.watching who u := by
  unfold Feed.watching
  cases hc : clientB who with
  | false =>
    rw [Bool.false_and, Bool.eq_false_iff]
    intro h
    obtain ⟨p, hp, hq⟩ := List.any_eq_true.1 h
    have := x.rg p hp
    simp only [pairIs, Bool.and_eq_true, decide_eq_true_eq] at hq
    rw [hq.1] at this
    simp [clientB] at hc; omega
  | true =>
    have hc' : 0 ≤ who ∧ who < 8 := by simpa [clientB] using hc
    obtain ⟨j, rfl⟩ : ∃ j : Nat, who = j := ⟨who.toNat, by omega⟩
    rw [Bool.true_and, Bool.eq_iff_iff, ← psOf_mem, (x.pm j (by omega)).mem_iff, wsOf_mem g.so]
theorem FdP.count {f : Feed} {ps : List PairD} (x : FdP f ps) (who : Int) : (ps.filter fun p => decide (p.who = who)).length = f.count who := by
  unfold Feed.count
  cases hc : clientB who with
  | false =>
    have : ps.filter (fun p => decide (p.who = who)) = [] := List.filter_eq_nil_iff.2 fun p hp hq => by
      have := x.rg p hp
      simp only [decide_eq_true_eq] at hq
      rw [hq] at this
      simp [clientB] at hc; omega
    rw [this]; simp [List.filter_eq_nil_iff.2]
  | true =>
    have hc' : 0 ≤ who ∧ who < 8 := by simpa [clientB] using hc
    obtain ⟨j, rfl⟩ : ∃ j : Nat, who = j := ⟨who.toNat, by omega⟩
    have := (x.pm j (by omega)).length_eq
    simpa [psOf, wsOf] using this
theorem psOf_append (ps qs : List PairD) (j : Nat) : psOf (ps ++ qs) j = psOf ps j ++ psOf qs j := by simp [psOf]
def psWatch (ps : List PairD) (who : Int) (u : ByteArray) : List PairD := if clientB who = true ∧ ps.any (pairIs who u) = false then ps ++ [⟨who, u⟩] else ps
def psUnwatch (ps : List PairD) (who : Int) (u : ByteArray) : List PairD := ps.filter fun p => !pairIs who u p
theorem FdP.watch {f : Feed} {ps : List PairD} (x : FdP f ps) (g : FdG f) (who : Int) (u : ByteArray) : FdP (f.watch who u) (psWatch ps who u) := by
  unfold Feed.watch psWatch
  cases hc : clientB who with
  | false => simp; exact x
  | true =>
    have hc' : 0 ≤ who ∧ who < 8 := by simpa [clientB] using hc
    obtain ⟨w, rfl⟩ : ∃ j : Nat, who = j := ⟨who.toNat, by omega⟩
    have hwt := x.watching g w u
    obtain ⟨m0, m1⟩ := valL_rng (u := u) g.ms
    simp only [Feed.watching, hc, Bool.true_and] at hwt
    rw [hwt]
    simp only [if_true, true_and]
    constructor
    · intro j hj
      refine List.Perm.trans ?_ (wsOf_put g.so u _ j).symm
      rw [mbit_mor m0 m1 (by omega) hj]
      have h1 := (x.pm j hj).trans (wsOf_self g.so u j)
      by_cases hjw : j = w
      · subst hjw
        cases hm : mbit (valL 0 f.ws u) j with
        | true => rw [hm] at h1; simpa using h1
        | false =>
          rw [hm] at h1
          simp only [Bool.false_eq_true, if_false, List.nil_append] at h1
          simp only [if_true, psOf_append, Bool.false_or, decide_true]
          have e : psOf [⟨(j : Int), u⟩] j = [u] := by simp [psOf]
          rw [e]
          exact (List.perm_append_comm).trans (List.Perm.append_left _ h1)
      · have e : (mbit (valL 0 f.ws u) j || decide (j = w)) = mbit (valL 0 f.ws u) j := by simp [hjw]
        rw [e]
        have e2 : psOf [⟨(w : Int), u⟩] j = [] := by
          have : ¬ ((w : Int) = j) := by omega
          simp [psOf, this]
        split
        · rw [psOf_append, e2, List.append_nil]; exact h1
        · exact h1
    · intro p hp
      split at hp
      · rcases List.mem_append.1 hp with hp | hp
        · exact x.rg p hp
        · simp at hp; subst hp; exact hc'
      · exact x.rg p hp
theorem psOf_un (ps : List PairD) (w j : Nat) (u : ByteArray) : psOf (psUnwatch ps w u) j = if j = w then (psOf ps j).filter (fun k => !decide (k = u)) else psOf ps j := by
  induction ps with
  | nil => simp [psUnwatch, psOf]
  | cons p ps ih =>
    unfold psOf psUnwatch at ih ⊢
    rw [List.filter_cons]
    cases hp : pairIs w u p with
    | true =>
      simp only [Bool.not_true, Bool.false_eq_true, if_false]
      simp only [pairIs, Bool.and_eq_true, decide_eq_true_eq] at hp
      rw [ih]
      by_cases hjw : j = w
      · subst hjw; simp [List.filter_cons, hp.1, hp.2]
      · have : ¬ ((w : Int) = j) := by omega
        simp [hjw, List.filter_cons, hp.1, this]
    | false =>
      simp only [Bool.not_false, if_true, List.filter_cons]
      simp only [pairIs, Bool.and_eq_false_iff, decide_eq_false_iff_not] at hp
      by_cases hq : p.who = j
      · simp only [hq, decide_true, if_true, List.map_cons, ih]
        by_cases hjw : j = w
        · subst hjw
          have : ¬ p.user = u := by rcases hp with hp | hp; · exact absurd hq hp
                                    · exact hp
          simp [this]
        · simp [hjw]
      · simp only [hq, decide_false, Bool.false_eq_true, if_false, ih]
theorem FdP.unwatch {f : Feed} {ps : List PairD} (x : FdP f ps) (g : FdG f) (who : Int) (u : ByteArray) : FdP (f.unwatch who u) (psUnwatch ps who u) := by
  have hrg : ∀ p ∈ psUnwatch ps who u, 0 ≤ p.who ∧ p.who < 8 := fun p hp => x.rg p (List.mem_filter.1 hp).1
  have hsame : (∀ p ∈ ps, pairIs who u p = false) → psUnwatch ps who u = ps := fun h => List.filter_eq_self.2 fun p hp => by rw [h p hp]; rfl
  have hwt := x.watching g who u
  unfold Feed.unwatch
  cases hc : clientB who with
  | false =>
    simp
    rw [hsame fun p hp => ?_]
    · exact x
    · have := x.rg p hp
      have hne : ¬ p.who = who := fun h => by simp [clientB] at hc; omega
      simp [pairIs, hne]
  | true =>
    have hc' : 0 ≤ who ∧ who < 8 := by simpa [clientB] using hc
    obtain ⟨w, rfl⟩ : ∃ j : Nat, who = j := ⟨who.toNat, by omega⟩
    obtain ⟨m0, m1⟩ := valL_rng (u := u) g.ms
    by_cases hv : valL 0 f.ws u = 0
    · simp only [hv, ne_eq, not_true_eq_false, and_false, if_false]
      rw [hsame fun p hp => ?_]
      · exact x
      · rw [Feed.watching, hv, mbit_zero, Bool.and_false] at hwt
        have := List.any_eq_false.1 hwt p hp
        simpa using this
    · have main : ∀ ws' : List (ByteArray × Int), (∀ j, j < 8 → (wsOf ws' j).Perm ((if mbit (mclr (valL 0 f.ws u) w) j then [u] else []) ++ wsOf (delB f.ws u) j)) → FdP { f with ws := ws' } (psUnwatch ps w u) := by
        intro ws' hws
        refine ⟨fun j hj => ?_, hrg⟩
        refine List.Perm.trans ?_ (hws j hj).symm
        rw [mbit_mclr m0 m1 (by omega) hj, psOf_un]
        have h1 := (x.pm j hj).trans (wsOf_self g.so u j)
        by_cases hjw : j = w
        · subst hjw
          rw [if_pos rfl]
          have h2 := h1.filter (fun k => !decide (k = u))
          refine h2.trans ?_
          rw [List.filter_append]
          have e1 : (if mbit (valL 0 f.ws u) j = true then [u] else []).filter (fun k => !decide (k = u)) = [] := by split <;> simp
          have e2 : (wsOf (delB f.ws u) j).filter (fun k => !decide (k = u)) = wsOf (delB f.ws u) j := List.filter_eq_self.2 fun k hk => by
            have : ¬ k = u := fun h => wsOf_del_not (h ▸ hk)
            simp [this]
          rw [e1, e2]; simp
        · rw [if_neg hjw]
          simpa [hjw] using h1
      simp only [ne_eq, hv, not_false_eq_true, and_true, if_true]
      split
      · rename_i h0
        refine main _ fun j hj => ?_
        rw [h0, mbit_zero]; simp
      · exact main _ fun j hj => wsOf_put g.so u _ j
end Go.Den
namespace Go.Den
open Go
set_option linter.unusedVariables false
set_option linter.unusedSimpArgs false
/-- What is kept of a book, with a bound on its sizes. -/
structure BkM (m : Nat) (b : Book) : Prop where
  bw : BkW b
  bl : b.length ≤ m
  bs : ∀ y ∈ b, y.1.size ≤ maxLen
  bn : ∀ y ∈ b, y.2.ss.length ≤ m
structure FdM (m : Nat) (f : Feed) : Prop where
  so : SrtK (keysL f.ws)
  len : f.ws.length ≤ m
  ms : ∀ x ∈ f.ws, 0 ≤ x.2 ∧ x.2 < 4294967296
  ks : ∀ x ∈ f.ws, x.1.size ≤ maxLen
  qs : ∀ j, j < 8 → RiG (f.qs j)
/-- What is kept of a stripe. -/
structure StM (m : Nat) (x : Strp) : Prop where
  sn : BkM m x.snap
  bk : BkM m x.book
  v0 : 0 ≤ x.v ∧ x.v ≤ x.bound
  vb : x.bound % 2 = 0 ∧ x.bound ≤ 18446744073709551615
  wh : 0 ≤ x.who ∧ x.who ≤ 1000
  fd : FdM m x.feed
/-- What is kept of a table; so much was done. -/
structure HS (m : Nat) (H : Hall) : Prop where
  rt : rightB H.c = true
  cw : CfgW H.c
  nn : (H.n : Int) = H.c.stripes
  ac : H.acts.length ≤ 2 * m
  st : ∀ s, s < H.n → StM m (H.ss s)
  tn : U64 H.t.now
  ts : U64 H.t.seq
theorem HS.n8 {m : Nat} {H : Hall} (x : HS m H) : 1 ≤ H.n ∧ H.n ≤ 8 := by
  have h1 := x.rt; have h2 := x.nn
  simp only [rightB, decide_eq_true_eq] at h1; omega
theorem BkM.mono {m k : Nat} {b : Book} (x : BkM m b) (h : m ≤ k) : BkM k b := ⟨x.bw, Nat.le_trans x.bl h, x.bs, fun y hy => Nat.le_trans (x.bn y hy) h⟩
theorem FdM.mono {m k : Nat} {f : Feed} (x : FdM m f) (h : m ≤ k) : FdM k f := ⟨x.so, Nat.le_trans x.len h, x.ms, x.ks, x.qs⟩
theorem StM.mono {m k : Nat} {s : Strp} (x : StM m s) (h : m ≤ k) : StM k s := ⟨x.sn.mono h, x.bk.mono h, x.v0, x.vb, x.wh, x.fd.mono h⟩
theorem HS.mono {m k : Nat} {H : Hall} (x : HS m H) (h : m ≤ k) : HS k H := ⟨x.rt, x.cw, x.nn, Nat.le_trans x.ac (by omega), fun s hs => (x.st s hs).mono h, x.tn, x.ts⟩
theorem FdM.g {m : Nat} {f : Feed} (x : FdM m f) (h : m < 100000) : FdG f := ⟨x.so, by have := x.len; omega, x.ms, x.qs⟩
theorem BkM.g {m : Nat} {b : Book} (x : BkM m b) (h : m < 100000) : BkG b := by
  refine ⟨x.bw.so, by have := x.bl; omega, fun u => ?_⟩
  rcases entOf_cases b u with e | ⟨y, h1, h2, h3⟩
  · rw [e]; simp [ent0]
  · rw [h3]; have := x.bn y h1; omega
theorem BkM.ent {m : Nat} {b : Book} (x : BkM m b) (u : ByteArray) : (entOf b u).ss.length ≤ m := by
  rcases entOf_cases b u with e | ⟨y, h1, h2, h3⟩
  · rw [e]; simp [ent0]
  · rw [h3]; exact x.bn y h1
theorem StM.wr {m : Nat} {x : Strp} (s : StM m x) : U64 x.v ∧ U64 x.bound ∧ (wrt x.v = true → x.v < 18446744073709551615) := by
  have h1 := s.v0; have h2 := s.vb
  refine ⟨by unfold U64; omega, by unfold U64; omega, fun h => ?_⟩
  simp [wrt] at h; omega
theorem HS.g {m : Nat} {H : Hall} (x : HS m H) (h : m < 100000) : HG H :=
  ⟨x.n8.2, by have := x.ac; omega, fun s hs => ⟨(x.st s hs).sn.g h, (x.st s hs).bk.g h⟩, fun s hs => ⟨(x.st s hs).wr.1, (x.st s hs).wr.2.1⟩, fun s hs => by have := (x.st s hs).wh; omega, x.cw, by have := x.n8; have := x.nn; omega⟩
/-- Acts are kept. -/
theorem HS.did {m : Nat} {H : Hall} (x : HS m H) (w k p : Int) : HS (m + 1) (H.did w k p) :=
  ⟨x.rt, x.cw, x.nn, by have := x.ac; simp [Hall.did]; omega, fun s hs => (x.st s hs).mono (by omega), x.tn, x.ts⟩
theorem HS.put {m : Nat} {H : Hall} (x : HS m H) {s : Nat} {y : Strp} (h : StM m y) : HS m (H.put s y) :=
  ⟨x.rt, x.cw, x.nn, x.ac, fun t ht => by simp only [Hall.put, sput]; split; exact h; exact x.st t ht, x.tn, x.ts⟩
theorem HS.did2 {m : Nat} {H : Hall} (x : HS m H) (w k p w' k' p' : Int) : HS (m + 1) ((H.did w k p).did w' k' p') :=
  ⟨x.rt, x.cw, x.nn, by have := x.ac; simp [Hall.did]; omega, fun s hs => (x.st s hs).mono (by omega), x.tn, x.ts⟩
variable {m : Nat} {H : Hall}
theorem HS.look (x : HS m H) (w : Int) : HS (m + 1) (H.look w) := x.did _ _ _
theorem HS.epoch (x : HS m H) (w : Int) (s : Nat) : HS (m + 1) (H.epoch w s) := x.did _ _ _
theorem HS.snap (x : HS m H) (w : Int) (s : Nat) : HS (m + 1) (H.snap w s) := x.did _ _ _
theorem HS.read (x : HS m H) (w : Int) (s : Nat) : HS (m + 1) (H.read w s) := x.did _ _ _
theorem HS.wr (x : HS m H) (w : Int) (s : Nat) : HS (m + 1) (H.wr w s) := x.did _ _ _
theorem HS.take (x : HS m H) (w : Int) : HS (m + 1) (H.take w) :=
  have y := x.did w 4 0
  ⟨y.rt, y.cw, y.nn, y.ac, y.st, y.tn, addU_rng x.ts (by simp [U64])⟩
theorem HS.shut (x : HS m H) (w : Int) : HS (m + 1) (H.shut w) :=
  have y := x.did w 4 0
  ⟨y.rt, y.cw, y.nn, y.ac, y.st, y.tn, y.ts⟩
theorem HS.lock (x : HS m H) {w : Int} {s : Nat} (hs : s < H.n) (hw : w ≤ 900) : HS (m + 1) (H.lock w s) := by
  unfold Hall.lock
  split
  · rename_i hc
    have hc' : 0 ≤ w ∧ (H.ss s).who = 0 := by simpa [canTake] using hc
    have y := (x.st s hs).mono (Nat.le_succ m)
    exact (x.did _ _ _).put ⟨y.sn, y.bk, y.v0, y.vb, by show 0 ≤ w + 1 ∧ w + 1 ≤ 1000; omega, y.fd⟩
  · exact x.mono (by omega)
theorem HS.unlock (x : HS m H) {w : Int} {s : Nat} (hs : s < H.n) : HS (m + 1) (H.unlock w s) := by
  unfold Hall.unlock
  split
  · have y := (x.st s hs).mono (Nat.le_succ m)
    exact (x.did _ _ _).put ⟨y.sn, y.bk, y.v0, y.vb, by simp, y.fd⟩
  · exact x.mono (by omega)
theorem HS.begin (x : HS m H) {w : Int} {s : Nat} (hs : s < H.n) : HS (m + 1) (H.begin w s) := by
  have y := (x.st s hs).mono (Nat.le_succ m)
  refine (x.did _ _ _).put ⟨y.sn, y.bk, ?_, y.vb, y.wh, y.fd⟩
  have h1 := y.v0
  show 0 ≤ bgn _ _ ∧ bgn _ _ ≤ (H.ss s).bound
  unfold bgn; split <;> omega
theorem HS.end_ (x : HS m H) {w : Int} {s : Nat} (hs : s < H.n) : HS (m + 1) (H.end_ w s) := by
  have y := (x.st s hs).mono (Nat.le_succ m)
  refine (x.did _ _ _).put ⟨y.sn, y.bk, ?_, y.vb, y.wh, y.fd⟩
  have h1 := y.v0; have h2 := y.vb
  show 0 ≤ endV _ ∧ endV _ ≤ (H.ss s).bound
  unfold endV wrt; simp; split <;> omega
theorem HS.pub (x : HS m H) {w : Int} {s : Nat} (hs : s < H.n) : HS (m + 1) (H.pub w s) := by
  have y := (x.st s hs).mono (Nat.le_succ m)
  exact (x.did2 _ _ _ _ _ _).put ⟨y.bk, y.bk, y.v0, y.vb, y.wh, y.fd⟩
theorem FdM.tell1 {f : Feed} (g : FdM m f) (c : Chg) (seq : Int) : ∀ n, FdM m (f.tell1 c seq n)
  | 0 => g
  | n + 1 => by
    have ih := FdM.tell1 g c seq n
    simp only [Feed.tell1]
    split
    · refine ⟨ih.so, ih.len, ih.ms, ih.ks, fun j hj => ?_⟩
      simp only [qset]
      split
      · rename_i h; subst h; exact (ih.qs _ hj).put _
      · exact ih.qs j hj
    · exact ih
theorem FdM.tell {f : Feed} (g : FdM m f) (seq : Int) : ∀ l : List Chg, FdM m (f.tell l seq) := by
  intro l
  unfold Feed.tell
  induction l generalizing f with
  | nil => exact g
  | cons c l ih => exact ih (g.tell1 c seq 8)
theorem settle_mem {b : Book} {u : ByteArray} {ss : List Sess} {now : Int} {y : ByteArray × Ent} (h : y ∈ (settleB b u ss now).1) : y = (u, ⟨ss, presOf ss now⟩) ∨ y ∈ b := by
  unfold settleB at h
  dsimp only at h
  split at h
  · exact .inr (List.mem_filter.1 h).1
  · exact mem_putB' h
theorem BkM.settle {b : Book} (x : BkM m b) {k : Nat} (hk : m ≤ k) {u : ByteArray} (hu : u.size ≤ maxLen) {ss : List Sess} (now : Int) (h1 : SrtI ss) (h2 : ∀ s ∈ ss, U64 s.un) (h3 : ss.length ≤ k) (h4 : (settleB b u ss now).1.length ≤ k) : BkM k (settleB b u ss now).1 := by
  refine ⟨x.bw.settle u now h1 h2, h4, fun y hy => ?_, fun y hy => ?_⟩
  · rcases settle_mem hy with rfl | hy
    · exact hu
    · exact x.bs y hy
  · rcases settle_mem hy with rfl | hy
    · exact h3
    · exact Nat.le_trans (x.bn y hy) hk
theorem BkM.write {b : Book} (x : BkM m b) {o : OpD} (ow : OpW o) {now : Int} (hn : U64 now) (most : Int) : BkM (m + 1) (writeB b o now most).1 := by
  obtain ⟨h1, h2⟩ := x.bw.ent o.user
  obtain ⟨h3, h4⟩ := BkW.purge h1 h2 now
  have hp : (purgeS (entOf b o.user).ss now).length ≤ m := Nat.le_trans (List.length_filter_le _ _) (x.ent o.user)
  have hw := work_len (ss := purgeS (entOf b o.user).ss now) o now most
  refine x.settle (k := m + 1) (by omega) ow.s1 now (work_srt h3 o now most) (work_un h4 o most hn ow.u1) (by omega) ?_
  have := settle_len b o.user (workS (purgeS (entOf b o.user).ss now) o now most).1 now
  have := x.bl; omega
theorem BkM.sweepTo {b : Book} (x : BkM m b) (now : Int) : ∀ n, n ≤ b.length → BkM m (sweepTo b now n).1
  | 0, _ => x
  | n + 1, hn => by
    have ih := BkM.sweepTo x now n (by omega)
    have hm : b.getD n (⟨#[]⟩, ent0) ∈ b := by rw [List.getD_eq_getElem?_getD, List.getElem?_eq_getElem (by omega)]; exact List.getElem_mem _
    obtain ⟨h1, h2⟩ := x.bw.us _ hm
    obtain ⟨h3, h4⟩ := BkW.purge h1 h2 now
    exact ih.settle (Nat.le_refl _) (x.bs _ hm) now h3 h4 (Nat.le_trans (List.length_filter_le _ _) (x.bn _ hm)) (Nat.le_trans (sweep_len x.bw (now := now) hn) x.bl)
theorem HS.sweep (x : HS m H) {w : Int} {s : Nat} (t : Tm) (hs : s < H.n) : HS (m + 1) (H.sweep w s t) := by
  have y := (x.st s hs).mono (Nat.le_succ m)
  exact (x.wr w s).put ⟨y.sn, y.bk.sweepTo t.now _ (Nat.le_refl _), y.v0, y.vb, y.wh, y.fd.tell _ _⟩
theorem HS.write (x : HS m H) {w : Int} {s : Nat} {o : OpD} (ow : OpW o) (t : Tm) (ht : U64 t.now) (hs : s < H.n) : HS (m + 1) (H.write w s o t).1 := by
  have y := x.st s hs
  have y' := y.mono (Nat.le_succ m)
  unfold Hall.write
  split
  · exact x.wr w s
  · exact (x.wr w s).put ⟨y'.sn, y.bk.write ow ht _, y.v0, y.vb, y.wh, y'.fd.tell _ _⟩
theorem FdM.watch {f : Feed} (g : FdM m f) (who : Int) (u : ByteArray) (hu : u.size ≤ maxLen) : FdM (m + 1) (f.watch who u) := by
  have g' := g.mono (Nat.le_succ m)
  unfold Feed.watch
  split
  · refine ⟨putB_srt g.so, ?_, fun x hx => ?_, fun x hx => ?_, g.qs⟩
    · have := putB_len (u := u) (e := mor (valL 0 f.ws u) who) (b := f.ws); have := g.len; show (putB _ _ _).length ≤ _; omega
    · rcases mem_putB' (b := f.ws) hx with rfl | hx
      · exact mor_rng _ _
      · exact g.ms x hx
    · rcases mem_putB' (b := f.ws) hx with rfl | hx
      · exact hu
      · exact g.ks x hx
  · exact g'
theorem FdM.unwatch {f : Feed} (g : FdM m f) (who : Int) (u : ByteArray) (hu : u.size ≤ maxLen) : FdM (m + 1) (f.unwatch who u) := by
  have g' := g.mono (Nat.le_succ m)
  unfold Feed.unwatch
  split
  · split
    · refine ⟨delB_srt g.so, ?_, fun x hx => g.ms x (List.mem_filter.1 hx).1, fun x hx => g.ks x (List.mem_filter.1 hx).1, g.qs⟩
      have := delB_len (u := u) (b := f.ws); have := g.len; show (delB _ _).length ≤ _; omega
    · refine ⟨putB_srt g.so, ?_, fun x hx => ?_, fun x hx => ?_, g.qs⟩
      · have := putB_len (u := u) (e := mclr (valL 0 f.ws u) who) (b := f.ws); have := g.len; show (putB _ _ _).length ≤ _; omega
      · rcases mem_putB' (b := f.ws) hx with rfl | hx
        · exact mclr_rng _ _
        · exact g.ms x hx
      · rcases mem_putB' (b := f.ws) hx with rfl | hx
        · exact hu
        · exact g.ks x hx
  · exact g'
theorem FdM.drain {f : Feed} (g : FdM m f) (who : Int) : FdM m (f.drain who) := by
  unfold Feed.drain
  split
  · refine ⟨g.so, g.len, g.ms, g.ks, fun j hj => ?_⟩
    simp only [qset]
    split
    · rename_i h; subst h; exact ⟨(g.qs _ hj).1, (g.qs _ hj).2.1, by simp⟩
    · exact g.qs j hj
  · exact g
/-- A feed that becomes another one. -/
def Hall.fed (H : Hall) (who : Int) (s : Nat) (f : Feed) : Hall := (H.wr who s).put s { H.ss s with feed := f }
def Hall.watch (H : Hall) (who : Int) (s : Nat) (u : ByteArray) (on : Bool) : Hall := H.fed who s (if on then (H.ss s).feed.watch who u else (H.ss s).feed.unwatch who u)
def Hall.drain (H : Hall) (who : Int) (s : Nat) : Hall := H.fed who s ((H.ss s).feed.drain who)
theorem HS.fed (x : HS m H) {w : Int} {s : Nat} {f : Feed} (hs : s < H.n) (hf : FdM (m + 1) f) : HS (m + 1) (H.fed w s f) := by
  have y := (x.st s hs).mono (Nat.le_succ m)
  exact (x.wr w s).put ⟨y.sn, y.bk, y.v0, y.vb, y.wh, hf⟩
theorem HS.watch (x : HS m H) {w : Int} {s : Nat} (hs : s < H.n) {u : ByteArray} (hu : u.size ≤ maxLen) (on : Bool) : HS (m + 1) (H.watch w s u on) := by
  refine x.fed hs ?_
  split
  · exact (x.st s hs).fd.watch w u hu
  · exact (x.st s hs).fd.unwatch w u hu
theorem HS.drain (x : HS m H) {w : Int} {s : Nat} (hs : s < H.n) : HS (m + 1) (H.drain w s) := x.fed hs (((x.st s hs).fd.drain w).mono (by omega))
theorem HS.new {c : Cfg} (cw : CfgW c) (hr : rightB c = true) {n : Nat} (hn : (n : Int) = c.stripes) : HS 0 (hall0 c n) := by
  have hr' := hr
  simp only [rightB, decide_eq_true_eq] at hr'
  have h1 := cw.u1
  have he : 0 ≤ evn c.epochs ∧ evn c.epochs % 2 = 0 ∧ evn c.epochs ≤ 18446744073709551615 := by unfold evn U64 at *; omega
  have bk : BkM 0 [] := ⟨⟨List.Pairwise.nil, by simp⟩, by simp, by simp, by simp⟩
  refine ⟨hr, cw, hn, by simp [hall0], fun s hs => ⟨bk, bk, ⟨by show (0:Int) ≤ 0; omega, he.1⟩, he.2, by simp [hall0, strp0], ⟨List.Pairwise.nil, by simp [hall0, strp0, feed0], by simp [hall0, strp0, feed0], by simp [hall0, strp0, feed0], fun j hj => ?_⟩⟩, cw.u2, by simp [hall0, U64]⟩
  simp only [hall0, strp0, feed0, ring0, RiG, List.length_nil]
  omega
end Go.Den
namespace Go.Den
open Go
set_option linter.unusedVariables false
set_option linter.unusedSimpArgs false
/-- What a section is told to do. -/
inductive WK where
  | bad
  | op (x : OpD)
  | sweep
structure WP where
  who : Int
  s : Nat
  k : WK
  at_ : Nat
  t : Tm
  placed : Int
  err : Int
def WK.isBad : WK → Bool
  | .bad => true
  | _ => false
def WP.done (p : WP) : Bool := decide (7 ≤ p.at_)
def WP.waits (p : WP) : Int := if p.k.isBad = true ∨ 0 < p.at_ then -1 else p.s
def WP.enabled (p : WP) (H : Hall) : Bool := !p.done && (decide (p.waits < 0) || decide ((H.ss p.s).who = 0))
def WK.run (k : WK) (H : Hall) (who : Int) (s : Nat) (t : Tm) : Hall × Int := match k with
  | .bad => (H, 0)
  | .op x => H.write who s x t
  | .sweep => (H.sweep who s t, 0)
/-- A step that is enabled, of one that is not bad. -/
def WP.stp (p : WP) (H : Hall) (n : Int) : WP × Hall :=
  if p.at_ = 0 then ({ p with at_ := 1 }, H.lock p.who p.s)
  else if p.at_ = 1 then ({ p with at_ := 2 }, H.begin p.who p.s)
  else if p.at_ = 2 then ({ p with at_ := 3, placed := n, t := (H.take p.who).t }, H.take p.who)
  else if p.at_ = 3 then ({ p with at_ := 4, err := (p.k.run H p.who p.s p.t).2 }, (p.k.run H p.who p.s p.t).1)
  else if p.at_ = 4 then ({ p with at_ := 5 }, H.pub p.who p.s)
  else if p.at_ = 5 then ({ p with at_ := 6 }, H.end_ p.who p.s)
  else ({ p with at_ := 7 }, H.unlock p.who p.s)
theorem stp0 {p : WP} (H : Hall) (n : Int) (h : p.at_ = 0) : p.stp H n = ({ p with at_ := 1 }, H.lock p.who p.s) := by simp [WP.stp, h]
theorem stp1 {p : WP} (H : Hall) (n : Int) (h : p.at_ = 1) : p.stp H n = ({ p with at_ := 2 }, H.begin p.who p.s) := by simp [WP.stp, h]
theorem stp2 {p : WP} (H : Hall) (n : Int) (h : p.at_ = 2) : p.stp H n = ({ p with at_ := 3, placed := n, t := (H.take p.who).t }, H.take p.who) := by simp [WP.stp, h]
theorem stp3 {p : WP} (H : Hall) (n : Int) (h : p.at_ = 3) : p.stp H n = ({ p with at_ := 4, err := (p.k.run H p.who p.s p.t).2 }, (p.k.run H p.who p.s p.t).1) := by simp [WP.stp, h]
theorem stp4 {p : WP} (H : Hall) (n : Int) (h : p.at_ = 4) : p.stp H n = ({ p with at_ := 5 }, H.pub p.who p.s) := by simp [WP.stp, h]
theorem stp5 {p : WP} (H : Hall) (n : Int) (h : p.at_ = 5) : p.stp H n = ({ p with at_ := 6 }, H.end_ p.who p.s) := by simp [WP.stp, h]
theorem stp6 {p : WP} (H : Hall) (n : Int) (h : 6 ≤ p.at_) : p.stp H n = ({ p with at_ := 7 }, H.unlock p.who p.s) := by
  unfold WP.stp
  rw [if_neg (by omega), if_neg (by omega), if_neg (by omega), if_neg (by omega), if_neg (by omega), if_neg (by omega)]
def WP.step (p : WP) (H : Hall) (n : Int) : WP × Hall :=
  if p.enabled H = true then (if p.k.isBad then ({ p with err := 1, placed := n, at_ := 7 }, H) else p.stp H n) else (p, H)
/-- What is asked of a process. -/
structure WG (n : Nat) (p : WP) : Prop where
  s : p.s < n
  w : -1 ≤ p.who ∧ p.who ≤ 900
  a : p.at_ ≤ 7
  t : U64 p.t.now ∧ U64 p.t.seq
  o : ∀ x, p.k = .op x → OpW x
theorem HS.run {m : Nat} {H : Hall} (x : HS m H) {k : WK} {w : Int} {s : Nat} {t : Tm} (ho : ∀ o, k = .op o → OpW o) (ht : U64 t.now) (hs : s < H.n) : HS (m + 1) (k.run H w s t).1 := by
  cases k with
  | bad => exact x.mono (by omega)
  | op o => exact x.write (ho o rfl) t ht hs
  | sweep => exact x.sweep t hs
theorem HS.stp {m : Nat} {H : Hall} (x : HS m H) {p : WP} (g : WG H.n p) (n : Int) : HS (m + 1) (p.stp H n).2 := by
  unfold WP.stp
  split
  · exact x.lock g.s g.w.2
  split
  · exact x.begin g.s
  split
  · exact x.take _
  split
  · exact x.run g.o g.t.1 g.s
  split
  · exact x.pub g.s
  split
  · exact x.end_ g.s
  · exact x.unlock g.s
theorem HS.wstep {m : Nat} {H : Hall} (x : HS m H) {p : WP} (g : WG H.n p) (n : Int) : HS (m + 1) (p.step H n).2 := by
  unfold WP.step
  split
  · split
    · exact x.mono (by omega)
    · exact x.stp g n
  · exact x.mono (by omega)
theorem run_n (k : WK) (H : Hall) (w : Int) (s : Nat) (t : Tm) : (k.run H w s t).1.n = H.n ∧ (k.run H w s t).1.c = H.c := by
  cases k with
  | bad => exact ⟨rfl, rfl⟩
  | op o => simp only [WK.run, Hall.write]; split <;> exact ⟨rfl, rfl⟩
  | sweep => exact ⟨rfl, rfl⟩
theorem stp_n (p : WP) (H : Hall) (n : Int) : (p.stp H n).2.n = H.n ∧ (p.stp H n).2.c = H.c := by
  unfold WP.stp
  have h1 := lock_n H p.who p.s
  have h2 := unlock_n H p.who p.s
  split
  · exact ⟨h1.1, h1.2.1⟩
  split
  · exact ⟨rfl, rfl⟩
  split
  · exact ⟨rfl, rfl⟩
  split
  · exact run_n _ _ _ _ _
  split
  · exact ⟨rfl, rfl⟩
  split
  · exact ⟨rfl, rfl⟩
  · exact ⟨h2.1, h2.2.1⟩
theorem wstep_n (p : WP) (H : Hall) (n : Int) : (p.step H n).2.n = H.n ∧ (p.step H n).2.c = H.c := by
  unfold WP.step
  split
  · split
    · exact ⟨rfl, rfl⟩
    · exact stp_n p H n
  · exact ⟨rfl, rfl⟩
theorem stp_k (p : WP) (H : Hall) (n : Int) : (p.stp H n).1.k = p.k ∧ (p.stp H n).1.who = p.who ∧ (p.stp H n).1.s = p.s := by
  unfold WP.stp
  split
  · exact ⟨rfl, rfl, rfl⟩
  split
  · exact ⟨rfl, rfl, rfl⟩
  split
  · exact ⟨rfl, rfl, rfl⟩
  split
  · exact ⟨rfl, rfl, rfl⟩
  split
  · exact ⟨rfl, rfl, rfl⟩
  split <;> exact ⟨rfl, rfl, rfl⟩
theorem wstep_k (p : WP) (H : Hall) (n : Int) : (p.step H n).1.k = p.k ∧ (p.step H n).1.who = p.who ∧ (p.step H n).1.s = p.s := by
  unfold WP.step
  split
  · split
    · exact ⟨rfl, rfl, rfl⟩
    · exact stp_k p H n
  · exact ⟨rfl, rfl, rfl⟩
theorem stp_at (p : WP) (H : Hall) (n : Int) (h : p.at_ < 7) : (p.stp H n).1.at_ = p.at_ + 1 := by
  unfold WP.stp
  split
  · simp_all
  split
  · simp_all
  split
  · simp_all
  split
  · simp_all
  split
  · simp_all
  split
  · simp_all
  · show 7 = _; omega
theorem enabled_at {p : WP} {H : Hall} (h : p.enabled H = true) : p.at_ < 7 := by
  simp [WP.enabled, WP.done] at h; omega
theorem WG.step {m : Nat} {H : Hall} (x : HS m H) {p : WP} (g : WG H.n p) (n : Int) : WG H.n (p.step H n).1 := by
  obtain ⟨k1, k2, k3⟩ := wstep_k p H n
  refine ⟨by rw [k3]; exact g.s, by rw [k2]; exact g.w, ?_, ?_, by rw [k1]; exact g.o⟩
  · unfold WP.step
    split
    · rename_i he
      split
      · simp
      · rw [stp_at p H n (enabled_at he)]; have := enabled_at he; omega
    · exact g.a
  · unfold WP.step
    split
    · split
      · exact g.t
      · have ht := x.take p.who
        unfold WP.stp
        split
        · exact g.t
        split
        · exact g.t
        split
        · exact ⟨ht.tn, ht.ts⟩
        split
        · exact g.t
        split
        · exact g.t
        split <;> exact g.t
    · exact g.t
/-- The sweeper. -/
structure SwP where
  stripe : Nat
  rounds : Nat
  now : WP
def sect (who : Int) (s : Nat) (k : WK) : WP := ⟨who, s, k, 0, ⟨0, 0, false⟩, -1, 0⟩
def SwP.new : SwP := ⟨0, 0, sect 8 0 .sweep⟩
/-- What a sweeper becomes when its stripe is swept. -/
def SwP.nxt (p : SwP) (n : Nat) : SwP := if p.stripe + 1 = n then ⟨0, p.rounds + 1, sect 8 0 .sweep⟩ else ⟨p.stripe + 1, p.rounds, sect 8 (p.stripe + 1) .sweep⟩
def SwP.step (p : SwP) (H : Hall) (n : Int) : SwP × Hall × Bool :=
  let r := p.now.step H n
  if r.1.done then ({ p with now := r.1 }.nxt H.n, r.2, true) else ({ p with now := r.1 }, r.2, false)
structure SwG (n : Nat) (p : SwP) : Prop where
  g : WG n p.now
  s : p.stripe < n
  e : p.now.s = p.stripe
  k : p.now.k = .sweep
  r : p.rounds < 1000000
theorem sect_g {n s : Nat} (hs : s < n) {who : Int} (hw : -1 ≤ who ∧ who ≤ 900) {k : WK} (ho : ∀ x, k = .op x → OpW x) : WG n (sect who s k) := ⟨hs, hw, by simp [sect], by simp [sect, U64], ho⟩
theorem SwG.new {n : Nat} (h : 0 < n) : SwG n SwP.new := ⟨sect_g h (by omega) (by simp), h, rfl, rfl, by simp [SwP.new]⟩
theorem SwG.nxt {n : Nat} {p : SwP} (x : SwG n p) (hr : p.rounds < 999999) : SwG n (p.nxt n) := by
  have := x.s
  unfold SwP.nxt
  split
  · exact ⟨sect_g (by omega) (by omega) (by simp), by show 0 < n; omega, rfl, rfl, by show p.rounds + 1 < _; omega⟩
  · exact ⟨sect_g (by omega) (by omega) (by simp), by show p.stripe + 1 < n; omega, rfl, rfl, by show p.rounds < _; omega⟩
theorem SwG.step {m : Nat} {H : Hall} (h : HS m H) {p : SwP} (x : SwG H.n p) (n : Int) (hr : p.rounds < 999999) : SwG H.n (p.step H n).1 := by
  have g' := x.g.step h n
  obtain ⟨k1, k2, k3⟩ := wstep_k p.now H n
  have y : SwG H.n { p with now := (p.now.step H n).1 } := ⟨g', x.s, by rw [k3]; exact x.e, by rw [k1]; exact x.k, x.r⟩
  unfold SwP.step
  dsimp only
  split
  · exact y.nxt hr
  · exact y
end Go.Den
namespace Go.Proofs.YtcnphhhcknhhaaaGreat
open Go Go.Den Go.MapKept
set_option linter.unusedSimpArgs false
set_option linter.unusedVariables false
set_option maxRecDepth 20000
theorem HallX.own {T T' : Tags} {h h' : Heap} {g : Tag} {p : Nat} {H : Hall} {sv av : Value} {Y : Nat → SV} (x : HallX T h g p H sv av Y) (k : Kp non T h T' h') : HallX T' h' g p H sv av Y :=
  ⟨(k.at x.hp x.tp (not_non _)).1, (k.at x.hp x.tp (not_non _)).2, x.st.kp k (not_non _), x.ac.kp k (not_non _), fun i hi => (x.sr i hi).kp k (Off.non _) (not_non _)⟩
end Go.Proofs.YtcnphhhcknhhaaaGreat
namespace Go.Proofs.YtcnphhhcknhhaaaGreat
open Go Go.Den Go.MapKept
set_option linter.unusedSimpArgs false
set_option linter.unusedVariables false
set_option maxRecDepth 20000
theorem fz_get {T : Tags} {h : Heap} {b : Nat} {o : Obj} (e : fz T h b = some o) : h b = some o ∧ T b = [] := by
  unfold fz at e
  split at e
  · rename_i ht; exact ⟨e, ht⟩
  · cases e
def ApR (F : Heap) (ap : Value) (k : WK) (who : Int) (s : Nat) : Prop := match k with
  | .bad => ap = .nilFunc
  | .op x => ∃ b1 b2 b3 uv, ap = .func (.func fn_write_New_c1) #[] #[ptr b1, ptr b2, ptr b3] ∧ F b1 = some (.cells #[.int .i64 who] ty_int (0, 0)) ∧ F b2 = some (.cells #[.int .i64 s] ty_int (0, 0)) ∧ F b3 = some (.cells (opC x uv).toArray ty_api_Op (0, 0)) ∧ One uv
  | .sweep => ∃ b, ap = .func (.func fn_sweep_Proc_begin_c1) #[] #[ptr b] ∧ F b = some (.cells #[.int .i64 s] ty_int (0, 0)) ∧ who = 8
theorem ApR.ext {F F' : Heap} {ap : Value} {k : WK} {who : Int} {s : Nat} (e : Ext F F') (x : ApR F ap k who s) : ApR F' ap k who s := by
  cases k with
  | bad => exact x
  | op o => obtain ⟨b1, b2, b3, uv, h1, h2, h3, h4, h5⟩ := x; exact ⟨b1, b2, b3, uv, h1, e _ _ h2, e _ _ h3, e _ _ h4, h5⟩
  | sweep => obtain ⟨b, h1, h2, h3⟩ := x; exact ⟨b, h1, e _ _ h2, h3⟩
theorem ApR.one {F : Heap} {ap : Value} {k : WK} {who : Int} {s : Nat} (x : ApR F ap k who s) : One ap := by
  cases k with
  | bad => have : ap = .nilFunc := x; subst this; exact ⟨rfl, rfl⟩
  | op o => obtain ⟨b1, b2, b3, uv, rfl, _⟩ := x; exact ⟨rfl, rfl⟩
  | sweep => obtain ⟨b, rfl, _⟩ := x; exact ⟨rfl, rfl⟩
theorem ApR.nil {F : Heap} {ap : Value} {k : WK} {who : Int} {s : Nat} (x : ApR F ap k who s) : binV .eql 6 true ap .nilFunc = some (.bool k.isBad) := by
  cases k with
  | bad => have : ap = .nilFunc := x; subst this; rfl
  | op o => obtain ⟨b1, b2, b3, uv, rfl, _⟩ := x; rfl
  | sweep => obtain ⟨b, rfl, _⟩ := x; rfl
def wpC (p : WP) (ap : Value) : List Value := [.int .i64 p.who, .int .i64 p.s, ap, .int .i64 p.at_, .int .u64 p.t.now, .int .u64 p.t.seq, .bool p.t.closed, .int .i64 p.placed, .int .i64 p.err, .slice none 0 0, .slice none 0 0, .bool false]
structure WPX (T : Tags) (h : Heap) (g : Tag) (q : Nat) (p : WP) (ap : Value) : Prop where
  hp : h q = some (.cells (wpC p ap).toArray ty_write_Proc (0, 0))
  tp : T q = g ++ [0]
  ap : ApR (fz T h) ap p.k p.who p.s
def WPR (T : Tags) (h : Heap) (g : Tag) (q : Nat) (p : WP) : Prop := ∃ ap, WPX T h g q p ap
theorem WPX.kp {U : Tag → Prop} {T T' : Tags} {h h' : Heap} {g : Tag} {q : Nat} {p : WP} {ap : Value} (x : WPX T h g q p ap) (k : Kp U T h T' h') (o : Off U g) (n : ¬ U []) : WPX T' h' g q p ap :=
  ⟨(k.at x.hp x.tp (o.at _)).1, (k.at x.hp x.tp (o.at _)).2, x.ap.ext (k.ext n)⟩
theorem WPR.kp {U : Tag → Prop} {T T' : Tags} {h h' : Heap} {g : Tag} {q : Nat} {p : WP} (x : WPR T h g q p) (k : Kp U T h T' h') (o : Off U g) (n : ¬ U []) : WPR T' h' g q p := by
  obtain ⟨ap, x⟩ := x
  exact ⟨ap, x.kp k o n⟩
/-- The process's own block is written. -/
theorem WPX.st {T : Tags} {h : Heap} {g : Tag} {q : Nat} {p p' : WP} {ap : Value} (x : WPX T h g q p ap) (w : Wf T h) {c : Array Value} (hc : c = (wpC p' ap).toArray) (h1 : p'.k = p.k) (h2 : p'.who = p.who) (h3 : p'.s = p.s) :
    Only (fun t => t = g ++ [0]) T h T (upd h q (.cells c ty_write_Proc (0, 0))) ∧ WPX T (upd h q (.cells c ty_write_Proc (0, 0))) g q p' ap := by
  have o1 : Only (fun t => t = g ++ [0]) T h T (upd h q (.cells c ty_write_Proc (0, 0))) := Only.upd w x.hp x.tp
  exact ⟨o1, by rw [upd_same', hc], x.tp, by rw [h1, h2, h3]; exact x.ap.ext (o1.ext (by simp))⟩
end Go.Proofs.YtcnphhhcknhhaaaGreat
namespace Go.Den
open Go
set_option linter.unusedVariables false
set_option linter.unusedSimpArgs false
structure SwA (N k : Nat) (p : SwP) (H : Hall) : Prop where
  hn : H.n = N
  n0 : 0 < N
  at_ : p.now.at_ = k % 7
  st : p.stripe = k / 7 % N
  ro : p.rounds = k / 7 / N
  e : p.now.s = p.stripe
  kk : p.now.k = .sweep
  w : p.now.who = 8
  lk : ∀ s, s < N → (H.ss s).who = if k % 7 ≠ 0 ∧ s = k / 7 % N then 9 else 0
theorem SwA.new {H : Hall} {N : Nat} (hn : H.n = N) (n0 : 0 < N) (h : ∀ s, s < N → (H.ss s).who = 0) : SwA N 0 SwP.new H :=
  ⟨hn, n0, rfl, by simp [SwP.new], by simp [SwP.new], rfl, rfl, rfl, fun s hs => by simp [h s hs]⟩
theorem SwA.en {N k : Nat} {p : SwP} {H : Hall} (x : SwA N k p H) : p.now.enabled H = true := by
  have h1 := x.at_; have h2 := x.kk
  have hs : p.stripe < N := by rw [x.st]; exact Nat.mod_lt _ x.n0
  have hlk := x.lk p.stripe hs
  simp only [WP.enabled, WP.done, WP.waits, h1, h2, WK.isBad, x.e, hlk]
  have : ¬ 7 ≤ k % 7 := by omega
  by_cases h0 : k % 7 = 0
  · simp [h0]
  · have : 0 < k % 7 := by omega
    simp [this]; omega
theorem put_who {H : Hall} {s t : Nat} {y : Strp} : ((H.put s y).ss t).who = if t = s then y.who else (H.ss t).who := by
  simp only [Hall.put, sput]; split <;> rfl
theorem succ_div7 {k : Nat} (h : k % 7 ≠ 6) : (k + 1) / 7 = k / 7 ∧ (k + 1) % 7 = k % 7 + 1 := by omega
theorem succ_div7' {k : Nat} (h : k % 7 = 6) : (k + 1) / 7 = k / 7 + 1 ∧ (k + 1) % 7 = 0 := by omega
theorem stp_who (p : WP) (H : Hall) (n : Int) (hk : p.k = .sweep) (s : Nat) : ((p.stp H n).2.ss s).who =
    if s = p.s then (if p.at_ = 0 then (if canTake (H.ss s).who p.who then p.who + 1 else (H.ss s).who) else if 6 ≤ p.at_ then (if canGive (H.ss s).who p.who then 0 else (H.ss s).who) else (H.ss s).who) else (H.ss s).who := by
  by_cases h0 : p.at_ = 0
  · rw [stp0 H n h0, h0]
    simp only [if_true, Hall.lock]
    by_cases hs : s = p.s
    · subst hs
      by_cases hc : canTake (H.ss p.s).who p.who = true
      · simp [hc, put_who]
      · simp [hc]
    · rw [if_neg hs]
      split
      · rw [put_who, if_neg hs]; rfl
      · rfl
  by_cases h1 : p.at_ = 1
  · rw [stp1 H n h1, h1]
    simp only [Hall.begin, put_who]
    by_cases hs : s = p.s
    · subst hs; simp
    · simp [hs, Hall.did]
  by_cases h2 : p.at_ = 2
  · rw [stp2 H n h2, h2]; simp [Hall.take, Hall.did]
  by_cases h3 : p.at_ = 3
  · rw [stp3 H n h3, h3]
    simp only [hk, WK.run, Hall.sweep, put_who]
    by_cases hs : s = p.s
    · subst hs; simp
    · simp [hs, Hall.wr, Hall.did]
  by_cases h4 : p.at_ = 4
  · rw [stp4 H n h4, h4]
    simp only [Hall.pub, put_who]
    by_cases hs : s = p.s
    · subst hs; simp
    · simp [hs, Hall.did]
  by_cases h5 : p.at_ = 5
  · rw [stp5 H n h5, h5]
    simp only [Hall.end_, put_who]
    by_cases hs : s = p.s
    · subst hs; simp
    · simp [hs, Hall.did]
  · have h6 : 6 ≤ p.at_ := by omega
    rw [stp6 H n h6]
    simp only [h0, if_false, h6, if_true, Hall.unlock]
    by_cases hs : s = p.s
    · subst hs
      by_cases hc : canGive (H.ss p.s).who p.who = true
      · simp [hc, put_who]
      · simp [hc]
    · rw [if_neg hs]
      split
      · rw [put_who, if_neg hs]; rfl
      · rfl
theorem stp_t (p : WP) (H : Hall) (n : Int) (hk : p.k = .sweep) : (p.stp H n).2.t = if p.at_ = 2 then { H.t with seq := addU H.t.seq 1 } else H.t := by
  unfold WP.stp
  have hl : (H.lock p.who p.s).t = H.t := by unfold Hall.lock; split <;> rfl
  have hu : (H.unlock p.who p.s).t = H.t := by unfold Hall.unlock; split <;> rfl
  split
  · rename_i h; simp [h, hl]
  split
  · rename_i h; simp [h]; rfl
  split
  · rename_i h; simp [h]; rfl
  split
  · rename_i h; simp [h, hk, WK.run]; rfl
  split
  · rename_i h; simp [h]; rfl
  split
  · rename_i h; simp [h]; rfl
  · rename_i h _ _ _; simp [h, hu]
theorem SwA.step {N k : Nat} {p : SwP} {H : Hall} (x : SwA N k p H) (n : Int) :
    SwA N (k + 1) (p.step H n).1 (p.step H n).2.1 ∧ (p.step H n).2.2 = decide (k % 7 = 6) ∧ (p.step H n).2.1.t = if k % 7 = 2 then { H.t with seq := addU H.t.seq 1 } else H.t := by
  have hen := x.en
  have hat := x.at_
  have hl7 : p.now.at_ < 7 := by omega
  have hst : p.now.step H n = p.now.stp H n := by simp [WP.step, hen, x.kk, WK.isBad]
  obtain ⟨k1, k2, k3⟩ := stp_k p.now H n
  obtain ⟨n1, n2⟩ := stp_n p.now H n
  have a1 := stp_at p.now H n hl7
  have tt := stp_t p.now H n x.kk
  have ww := stp_who p.now H n x.kk
  have hdone : (p.now.stp H n).1.done = decide (k % 7 = 6) := by
    rw [WP.done, a1, hat]; exact decide_eq_decide.2 (by omega)
  have hs : p.stripe < N := by rw [x.st]; exact Nat.mod_lt _ x.n0
  unfold SwP.step
  simp only [hst, hdone]
  have hN := x.n0
  by_cases h6 : k % 7 = 6
  · obtain ⟨d1, d2⟩ := succ_div7' h6
    have tl : ∀ s, s < N → ((p.now.stp H n).2.ss s).who = 0 := fun s hs' => by
      rw [ww s, x.e, hat, h6, x.w, x.lk s hs', h6, x.st]
      by_cases hss : s = k / 7 % N
      · simp [hss, canGive]
      · simp [hss]
    have tt' : (p.now.stp H n).2.t = H.t := by rw [tt, hat, h6]; simp
    rw [h6]
    simp only [decide_true, if_true, d2]
    refine ⟨?_, by simp [h6], by rw [tt']; simp⟩
    unfold SwP.nxt
    have hst' := x.st
    have hro := x.ro
    have hdm := Nat.div_add_mod (k / 7) N
    split
    · rename_i hl
      have hl' : k / 7 % N + 1 = N := by rw [← hst', ← x.hn]; exact hl
      have hq : k / 7 + 1 = N * (k / 7 / N + 1) := by rw [Nat.mul_add]; omega
      refine ⟨n1.trans x.hn, hN, by rw [d2]; rfl, ?_, ?_, rfl, rfl, rfl, fun s hs => by rw [d2]; simp [tl s hs]⟩
      · show 0 = _; rw [d1, hq]; simp
      · show p.rounds + 1 = _; rw [d1, hq, Nat.mul_div_cancel_left _ hN, hro]
    · rename_i hl
      have hl' : k / 7 % N + 1 < N := by have := Nat.mod_lt (k / 7) hN; have : ¬ (p.stripe + 1 = N) := fun h => hl (h.trans x.hn.symm); omega
      have hq : k / 7 + 1 = N * (k / 7 / N) + (k / 7 % N + 1) := by omega
      refine ⟨n1.trans x.hn, hN, by rw [d2]; rfl, ?_, ?_, rfl, rfl, rfl, fun s hs => by rw [d2]; simp [tl s hs]⟩
      · show p.stripe + 1 = _; rw [d1, hq, Nat.mul_add_mod, Nat.mod_eq_of_lt hl', hst']
      · show p.rounds = _; rw [d1, hq, Nat.mul_add_div hN, Nat.div_eq_of_lt hl', hro, Nat.add_zero]
  · obtain ⟨d1, d2⟩ := succ_div7 h6
    simp only [h6, decide_false, Bool.false_eq_true, if_false]
    refine ⟨⟨n1.trans x.hn, hN, by show (p.now.stp H n).1.at_ = _; rw [a1, hat, d2], by rw [d1]; exact x.st, by rw [d1]; exact x.ro, k3.trans x.e, k1.trans x.kk, k2.trans x.w, fun s hs' => ?_⟩, trivial, by rw [tt, hat]⟩
    show ((p.now.stp H n).2.ss s).who = _
    have h6' : ¬ 6 ≤ k % 7 := by omega
    rw [ww s, x.e, hat, x.w, x.lk s hs', x.st, d1, d2]
    by_cases hss : s = k / 7 % N
    · by_cases h0 : k % 7 = 0
      · simp [hss, h0, canTake]
      · simp [hss, h0, h6']
    · simp [hss]
end Go.Den
namespace Go.Den
open Go
set_option linter.unusedVariables false
set_option linter.unusedSimpArgs false
deriving instance DecidableEq for Ent
deriving instance DecidableEq for Evt
def ofAcc' (l : List Sess) (n : Sess × Nat) : Sess × Nat := l.foldl (fun x s => (if x.2 = 0 || better s x.1 then s else x.1, x.2 + 1)) n
theorem ofAcc_purge (now : Int) : ∀ (l : List Sess) (n : Sess × Nat), l.foldl (ofStep now) n = ofAcc' (purgeS l now) n
  | [], n => rfl
  | s :: l, n => by
    rw [List.foldl_cons, ofAcc_purge now l]
    unfold ofStep purgeS
    rw [List.filter_cons]
    cases h : late now s.un with
    | true => simp
    | false => simp [ofAcc']
end Go.Den
namespace Go.Den
open Go
set_option linter.unusedVariables false
set_option linter.unusedSimpArgs false
def evt0 : Evt := ⟨⟨#[]⟩, ⟨0, 0, 0⟩, ⟨0, 0, 0⟩, 0⟩
def hdE (l : List Evt) : Evt := l.headD evt0
def nth (r : List (List Evt)) (i : Nat) : List Evt := r.getD i []
/-- The first of the lists whose first event has the least number. -/
def bestE (r : List (List Evt)) : Nat → Option Nat
  | 0 => none
  | k + 1 => match bestE r k with
    | none => if nth r k = [] then none else some k
    | some b => if nth r k ≠ [] ∧ (hdE (nth r k)).seq < (hdE (nth r b)).seq then some k else some b
def mergeF : Nat → List (List Evt) → List Evt
  | 0, _ => []
  | f + 1, r => match bestE r r.length with
    | none => []
    | some b => hdE (nth r b) :: mergeF f (r.set b (nth r b).tail)
def totE (r : List (List Evt)) : Nat := (r.map (·.length)).sum
def mergeE (r : List (List Evt)) : List Evt := mergeF (totE r) r
structure IsBest (r : List (List Evt)) (lo hi b : Nat) : Prop where
  l : lo ≤ b
  h : b < hi
  ne : nth r b ≠ []
  lt : ∀ i, lo ≤ i → i < b → nth r i ≠ [] → (hdE (nth r b)).seq < (hdE (nth r i)).seq
  le : ∀ i, b ≤ i → i < hi → nth r i ≠ [] → (hdE (nth r b)).seq ≤ (hdE (nth r i)).seq
theorem best_none {r : List (List Evt)} : ∀ {k : Nat}, bestE r k = none ↔ ∀ i, i < k → nth r i = []
  | 0 => by simp [bestE]
  | k + 1 => by
    have ih := best_none (r := r) (k := k)
    simp only [bestE]
    cases h : bestE r k with
    | none =>
      have h' := ih.1 h
      dsimp only
      by_cases hk : nth r k = []
      · simp only [hk, if_true, true_iff]
        intro i hi
        by_cases hik : i = k
        · subst hik; exact hk
        · exact h' i (by omega)
      · simp only [hk, if_false, reduceCtorEq, false_iff]
        intro hh; exact hk (hh k (by omega))
    | some b =>
      dsimp only
      constructor
      · intro hh; split at hh <;> cases hh
      · intro hh
        have := ih.2 fun i hi => hh i (by omega)
        rw [h] at this; cases this
theorem best_some {r : List (List Evt)} : ∀ {k b : Nat}, bestE r k = some b → IsBest r 0 k b
  | 0, b, h => by simp [bestE] at h
  | k + 1, b, h => by
    simp only [bestE] at h
    cases hb : bestE r k with
    | none =>
      rw [hb] at h
      have hn := best_none.1 hb
      dsimp only at h
      split at h
      · cases h
      · rename_i hk
        simp only [Option.some.injEq] at h; subst h
        refine ⟨by omega, by omega, hk, fun i _ hi hne => absurd (hn i hi) hne, fun i h1 h2 _ => ?_⟩
        have : i = k := by omega
        subst this; omega
    | some c =>
      rw [hb] at h
      have x := best_some hb
      dsimp only at h
      split at h
      · rename_i hk
        simp only [Option.some.injEq] at h; subst h
        refine ⟨by omega, by omega, hk.1, fun i _ hi hne => ?_, fun i h1 h2 _ => ?_⟩
        · by_cases hic : i < c
          · have := x.lt i (by omega) hic hne; omega
          · have := x.le i (by omega) hi hne; omega
        · have : i = k := by omega
          subst this; omega
      · rename_i hk
        simp only [Option.some.injEq] at h; subst h
        have := x.h
        refine ⟨by omega, by omega, x.ne, x.lt, fun i h1 h2 hne => ?_⟩
        by_cases hik : i = k
        · subst hik
          have : ¬ (hdE (nth r i)).seq < (hdE (nth r c)).seq := fun hh => hk ⟨hne, hh⟩
          omega
        · exact x.le i h1 (by omega) hne
theorem tot_set {b : Nat} : ∀ {r : List (List Evt)}, b < r.length → nth r b ≠ [] → totE (r.set b (nth r b).tail) + 1 = totE r := by
  induction b with
  | zero =>
    intro r hb hn
    cases r with
    | nil => simp at hb
    | cons l r =>
      simp only [nth, List.getD_cons_zero] at hn ⊢
      cases l with
      | nil => exact absurd rfl hn
      | cons x l => simp [totE]; omega
  | succ b ih =>
    intro r hb hn
    cases r with
    | nil => simp at hb
    | cons l r =>
      simp only [nth, List.getD_cons_succ, List.set_cons_succ] at hn ⊢
      have := ih (r := r) (by simpa using hb) hn
      simp only [nth] at this
      simp [totE] at this ⊢; omega
theorem merge_none {r : List (List Evt)} (h : bestE r r.length = none) : mergeE r = [] := by
  unfold mergeE
  cases totE r with
  | zero => rfl
  | succ n => simp [mergeF, h]
theorem merge_some {r : List (List Evt)} {b : Nat} (h : bestE r r.length = some b) : mergeE r = hdE (nth r b) :: mergeE (r.set b (nth r b).tail) := by
  have x := best_some h
  have ht := tot_set x.h x.ne
  unfold mergeE
  rw [← ht]
  simp only [mergeF, h]
/-- As the program looks: from the front on. -/
theorem tot_zero {r : List (List Evt)} : totE r = 0 ↔ ∀ i, nth r i = [] := by
  unfold totE nth
  induction r with
  | nil => simp
  | cons l r ih =>
    simp only [List.map_cons, List.sum_cons]
    constructor
    · intro h i
      have h1 : l.length = 0 := by omega
      cases i with
      | zero => simpa using h1
      | succ i => simpa using (ih.1 (by omega)) i
    · intro h
      have h1 := h 0
      have h2 := ih.2 fun i => by simpa using h (i + 1)
      simp at h1; simp [h1]; omega
structure Tbl where
  c : Cfg
  t : Tm
  n : Nat
  bk : Nat → Book
  fd : Nat → Feed
def rep0 : Reply := ⟨0, [], [], false⟩
def repE (e : Int) : Reply := ⟨e, [], [], false⟩
def bset {α : Type} (f : Nat → α) (i : Nat) (x : α) : Nat → α := fun k => if k = i then x else f k
def Tbl.stripe (M : Tbl) (u : ByteArray) : Nat := (stripeOf u M.c.stripes).toNat
def Tbl.take (M : Tbl) : Tbl := { M with t := { M.t with seq := addU M.t.seq 1 } }
def Tbl.sweepAt (M : Tbl) (s : Nat) (t : Tm) : Tbl := { M with bk := bset M.bk s (sweepB (M.bk s) t.now).1, fd := bset M.fd s ((M.fd s).tell (sweepB (M.bk s) t.now).2 t.seq) }
def Tbl.sweep (M : Tbl) (s : Int) : Tbl := if 0 ≤ s ∧ s < M.n then M.take.sweepAt s.toNat M.take.t else M
def Tbl.writeAt (M : Tbl) (s : Nat) (x : OpD) (t : Tm) : Tbl := { M with bk := bset M.bk s (writeB (M.bk s) x t.now M.c.sessions).1, fd := bset M.fd s ((M.fd s).tell (writeB (M.bk s) x t.now M.c.sessions).2.1 t.seq) }
def Tbl.write (M : Tbl) (x : OpD) : Tbl × Reply :=
  if M.t.closed then (M.take, repE 5) else (M.take.writeAt (M.stripe x.user) x M.take.t, repE (writeB (M.bk (M.stripe x.user)) x M.t.now M.c.sessions).2.2)
def Tbl.count (M : Tbl) (who : Int) : Nat := ((List.range M.n).map fun s => (M.fd s).count who).sum
def Tbl.fed (M : Tbl) (s : Nat) (f : Feed) : Tbl := { M with fd := bset M.fd s f }
def Tbl.watch (M : Tbl) (who : Int) (u : ByteArray) : Tbl × Reply :=
  if (M.fd (M.stripe u)).watching who u = false ∧ M.c.watches ≤ M.count who then (M, repE 4) else (M.fed (M.stripe u) ((M.fd (M.stripe u)).watch who u), rep0)
def Tbl.drainTo (M : Tbl) (who : Int) (k : Nat) : Tbl := { M with fd := fun s => if s < k then (M.fd s).drain who else M.fd s }
def Tbl.lostTo (M : Tbl) (who : Int) (k : Nat) : Bool := (List.range k).any fun s => (M.fd s).lost who
def Tbl.toldTo (M : Tbl) (who : Int) (k : Nat) : List (List Evt) := (List.range k).map fun s => (M.fd s).told who
def Tbl.poll (M : Tbl) (who : Int) : Tbl × Reply := (M.drainTo who M.n, ⟨0, [], mergeE (M.toldTo who M.n), M.lostTo who M.n⟩)
def Tbl.pres (M : Tbl) (u : ByteArray) : Pres := presB (M.bk (M.stripe u)) u M.t.now
def Tbl.do_ (M : Tbl) (who : Int) (x : OpD) : Tbl × Reply :=
  if badB x = true ∨ clientB who = false then (M, repE 1)
  else if x.kind = 1 ∨ x.kind = 2 ∨ x.kind = 3 then M.write x
  else if x.kind = 8 then M.poll who
  else if M.t.closed then (M, repE 5)
  else if x.kind = 6 then M.watch who x.user
  else if x.kind = 7 then (M.fed (M.stripe x.user) ((M.fd (M.stripe x.user)).unwatch who x.user), rep0)
  else if x.kind = 9 then ({ M with t := { M.t with closed := true } }, rep0)
  else (M, ⟨0, (usersOf x).map M.pres, [], false⟩)
def tbl0 (c : Cfg) (n : Nat) : Tbl := ⟨c, ⟨c.start, 0, false⟩, n, fun _ => [], fun _ => feed0 c.queue⟩
/-- What of a hall the model's table has. -/
def Hall.tbl (H : Hall) : Tbl := ⟨H.c, H.t, H.n, fun s => (H.ss s).book, fun s => (H.ss s).feed⟩
structure TS (m : Nat) (M : Tbl) : Prop where
  rt : rightB M.c = true
  cw : CfgW M.c
  nn : (M.n : Int) = M.c.stripes
  bk : ∀ s, s < M.n → BkM m (M.bk s)
  fd : ∀ s, s < M.n → FdM m (M.fd s)
  tn : U64 M.t.now
  ts : U64 M.t.seq
theorem TS.mono {m k : Nat} {M : Tbl} (x : TS m M) (h : m ≤ k) : TS k M := ⟨x.rt, x.cw, x.nn, fun s hs => (x.bk s hs).mono h, fun s hs => (x.fd s hs).mono h, x.tn, x.ts⟩
theorem stripeOf_lt {u : ByteArray} {n : Int} (h : 1 ≤ n) : 0 ≤ stripeOf u n ∧ stripeOf u n < n := by
  have := fnv_rng u
  unfold stripeOf
  rw [if_neg (by omega)]
  exact ⟨Int.emod_nonneg _ (by omega), Int.emod_lt_of_pos _ (by omega)⟩
theorem TS.stripe {m : Nat} {M : Tbl} (x : TS m M) (u : ByteArray) : M.stripe u < M.n := by
  have h1 := x.rt; have h2 := x.nn
  simp only [rightB, decide_eq_true_eq] at h1
  have := stripeOf_lt (u := u) (n := M.c.stripes) (by omega)
  unfold Tbl.stripe; omega
theorem HS.tbl {m : Nat} {H : Hall} (x : HS m H) : TS m H.tbl := ⟨x.rt, x.cw, x.nn, fun s hs => (x.st s hs).bk, fun s hs => (x.st s hs).fd, x.tn, x.ts⟩
end Go.Den
namespace Go.Den
open Go
set_option linter.unusedVariables false
set_option linter.unusedSimpArgs false
theorem putB_mid {α : Type} {k : ByteArray} {e e' : α} {D : List (ByteArray × α)} : ∀ {A : List (ByteArray × α)}, (∀ x ∈ A, ltS x.1 k = true) → putB (A ++ (k, e) :: D) k e' = A ++ (k, e') :: D
  | [], _ => by simp [putB, ltS_irrefl]
  | (a, x) :: A, h => by
    have h1 := h (a, x) (by simp)
    simp only [List.cons_append, putB]
    rw [if_pos h1, putB_mid fun y hy => h y (by simp [hy])]
theorem delB_mid {α : Type} {k : ByteArray} {e : α} {A D : List (ByteArray × α)} (h1 : ∀ x ∈ A, ltS x.1 k = true) (h2 : ∀ x ∈ D, ltS k x.1 = true) : delB (A ++ (k, e) :: D) k = A ++ D := by
  unfold delB
  rw [List.filter_append, List.filter_cons]
  simp only [decide_true, Bool.not_true, Bool.false_eq_true, if_false]
  congr 1
  · refine List.filter_eq_self.2 fun x hx => ?_
    have : ¬ x.1 = k := fun e => by have := h1 x hx; rw [e, ltS_irrefl] at this; cases this
    simp [this]
  · refine List.filter_eq_self.2 fun x hx => ?_
    have : ¬ x.1 = k := fun e => by have := h2 x hx; rw [e, ltS_irrefl] at this; cases this
    simp [this]
def swE (now : Int) (x : ByteArray × Ent) : Option (ByteArray × Ent) := if purgeS x.2.ss now = [] then none else some (x.1, ⟨purgeS x.2.ss now, presOf (purgeS x.2.ss now) now⟩)
theorem sweep_eq {b : Book} (so : SrtK (keysL b)) (now : Int) : ∀ n, n ≤ b.length → (sweepTo b now n).1 = (b.take n).filterMap (swE now) ++ b.drop n
  | 0, _ => by simp [sweepTo]
  | n + 1, hn => by
    have ih := sweep_eq so now n (by omega)
    have hg : b.getD n (⟨#[]⟩, ent0) = b[n] := by rw [List.getD_eq_getElem?_getD, List.getElem?_eq_getElem (by omega)]; rfl
    have hd : b.drop n = b[n] :: b.drop (n + 1) := List.drop_eq_getElem_cons _
    simp only [sweepTo, hg, ih, hd]
    have h1 : ∀ x ∈ (b.take n).filterMap (swE now), ltS x.1 b[n].1 = true := fun x hx => by
      obtain ⟨y, hy, e⟩ := List.mem_filterMap.1 hx
      unfold swE at e
      split at e
      · cases e
      · simp only [Option.some.injEq] at e
        subst e
        obtain ⟨j, hj, rfl⟩ := List.getElem_of_mem hy
        rw [List.getElem_take]
        have hj' : j < n := by simp at hj; omega
        have := List.pairwise_iff_getElem.1 so j n (by simp [keysL]; omega) (by simp [keysL]; omega) hj'
        simpa [keysL] using this
    have h2 : ∀ x ∈ b.drop (n + 1), ltS b[n].1 x.1 = true := fun x hx => by
      obtain ⟨j, hj, rfl⟩ := List.getElem_of_mem hx
      rw [List.getElem_drop]
      have := List.pairwise_iff_getElem.1 so n (n + 1 + j) (by simp [keysL]; omega) (by simp [keysL] at hj ⊢; omega) (by omega)
      simpa [keysL] using this
    rw [List.take_succ_eq_append_getElem (by omega), List.filterMap_append]
    obtain ⟨k, e⟩ : ∃ k, b[n] = k := ⟨_, rfl⟩
    rw [e] at h1 h2 ⊢
    obtain ⟨k, en⟩ := k
    unfold settleB
    dsimp only
    by_cases hp : purgeS en.ss now = []
    · rw [if_pos hp, delB_mid h1 h2]
      simp [swE, hp]
    · rw [if_neg hp, putB_mid h1]
      simp [swE, hp]
theorem sweepB_eq {b : Book} (so : SrtK (keysL b)) (now : Int) : (sweepB b now).1 = b.filterMap (swE now) := by
  unfold sweepB
  rw [sweep_eq so now _ (Nat.le_refl _)]; simp
/-- All sessions of a book live. -/
def Lv (b : Book) (now : Int) : Prop := ∀ x ∈ b, ∀ s ∈ x.2.ss, now < s.un
theorem sweep_lv {b : Book} (so : SrtK (keysL b)) (now : Int) : Lv (sweepB b now).1 now := by
  rw [sweepB_eq so]
  intro x hx s hs
  obtain ⟨y, hy, e⟩ := List.mem_filterMap.1 hx
  unfold swE at e
  split at e
  · cases e
  · simp only [Option.some.injEq] at e
    subst e
    have := (List.mem_filter.1 hs).2
    simp [late] at this
    exact this
theorem purge_purge (l : List Sess) (now : Int) : purgeS (purgeS l now) now = purgeS l now := by
  unfold purgeS; rw [List.filter_filter]; simp
theorem presOf_purge (l : List Sess) (now : Int) : presOf (purgeS l now) now = presOf l now := by
  have e1 : ofAcc l now = ofAcc' (purgeS l now) (⟨0, 0, 0, 0⟩, 0) := ofAcc_purge now l _
  have e2 : ofAcc (purgeS l now) now = ofAcc' (purgeS (purgeS l now) now) (⟨0, 0, 0, 0⟩, 0) := ofAcc_purge now _ _
  unfold presOf
  rw [e2, purge_purge, e1]
theorem entOf_cons (k : ByteArray) (e : Ent) (b : Book) (u : ByteArray) : entOf ((k, e) :: b) u = if k = u then e else entOf b u := rfl
theorem entOf_sw {now : Int} : ∀ {b : Book} {u : ByteArray}, SrtK (keysL b) → (entOf (b.filterMap (swE now)) u).ss = purgeS (entOf b u).ss now
  | [], u, _ => rfl
  | (k, e) :: b, u, so => by
    obtain ⟨s1, s2⟩ := List.pairwise_cons.1 so
    have ih := entOf_sw (now := now) (u := u) s2
    rw [entOf_cons, List.filterMap_cons]
    by_cases hp : purgeS e.ss now = []
    · have : swE now (k, e) = none := by simp [swE, hp]
      rw [this]
      dsimp only
      by_cases hk : k = u
      · rw [if_pos hk, hp]
        subst hk
        have hn : k ∉ keysB b := fun h => by
          have := s1 k h
          rw [ltS_irrefl] at this; cases this
        have : entOf b k = ent0 := entOf_none hn
        rw [this] at ih
        rw [ih]; rfl
      · rw [if_neg hk]; exact ih
    · have : swE now (k, e) = some (k, ⟨purgeS e.ss now, presOf (purgeS e.ss now) now⟩) := by simp [swE, hp]
      rw [this]
      dsimp only
      rw [entOf_cons]
      by_cases hk : k = u
      · rw [if_pos hk, if_pos hk]
      · rw [if_neg hk, if_neg hk]; exact ih
theorem sweep_pres {b : Book} (so : SrtK (keysL b)) (u : ByteArray) (now : Int) : presB (sweepB b now).1 u now = presB b u now := by
  unfold presB
  rw [sweepB_eq so, entOf_sw so, presOf_purge]
end Go.Den
namespace Go.Den
open Go
set_option linter.unusedVariables false
set_option linter.unusedSimpArgs false
/-- Whom a client knows that it watches: each once. -/
abbrev Mine := List ByteArray
def miset (m : Mine) (u : ByteArray) (on : Bool) : Mine := (m.filter fun k => !decide (k = u)) ++ if on then [u] else []
def mhas (m : Mine) (u : ByteArray) : Bool := m.any fun k => decide (k = u)
theorem mhas_iff {m : Mine} {u : ByteArray} : mhas m u = true ↔ u ∈ m := by simp [mhas]
structure HP where
  who : Int
  x : OpD
  k : Nat
  s : Nat
  at_ : Nat
  t : Tm
  placed : Int
  rep : Reply
  all : List (List Evt)
def HP.one (p : HP) : Bool := badB p.x || decide (p.x.kind = 9)
def HP.poll (p : HP) : Bool := !p.one && decide (p.x.kind = 8)
def HP.steps (p : HP) : Nat := if p.one then 1 else if p.x.kind = 8 then 3 * p.k + 1 else 4
def HP.done (p : HP) : Bool := decide (p.steps ≤ p.at_)
def HP.needs (p : HP) : Int := if p.one then -1 else if p.x.kind = 8 then (if p.at_ < p.k then p.at_ else -1) else if p.at_ = 0 then p.s else -1
def HP.waits (p : HP) : Int := if p.done then -1 else p.needs
def HP.enabled (p : HP) (H : Hall) : Bool := !p.done && (decide (p.needs < 0) || decide ((H.ss p.needs.toNat).who = 0))
def hp0 (H : Hall) (who : Int) (x : OpD) : HP := ⟨who, x, H.n, (stripeOf x.user H.c.stripes).toNat, 0, ⟨0, 0, false⟩, -1, rep0, []⟩
/-- A step of a Poll. -/
def HP.stpP (p : HP) (H : Hall) (n : Int) : HP × Hall :=
  if p.at_ < p.k then ({ p with at_ := p.at_ + 1 }, H.lock p.who p.at_)
  else if p.at_ = p.k then ({ p with at_ := p.at_ + 1, t := H.t, placed := n }, H.look p.who)
  else if p.at_ ≤ 2 * p.k then
    ({ p with at_ := p.at_ + 1, all := p.all ++ [(H.ss (p.at_ - p.k - 1)).feed.told p.who], rep := { p.rep with lost := p.rep.lost || (H.ss (p.at_ - p.k - 1)).feed.lost p.who } }, H.drain p.who (p.at_ - p.k - 1))
  else ({ p with at_ := p.at_ + 1, rep := { p.rep with evs := mergeE p.all } }, H.unlock p.who (p.at_ - 2 * p.k - 1))
/-- A step of a Watch or Unwatch. -/
def HP.stpW (p : HP) (m : Mine) (H : Hall) (n : Int) : HP × Mine × Hall :=
  if p.at_ = 0 then ({ p with at_ := 1 }, m, H.lock p.who p.s)
  else if p.at_ = 1 then ({ p with at_ := 2, t := H.t, placed := n }, m, H.look p.who)
  else if p.at_ = 2 then
    (if p.t.closed then ({ p with at_ := 3, rep := { p.rep with err := 5 } }, m, H)
     else if p.x.kind = 6 ∧ mhas m p.x.user = false ∧ H.c.watches ≤ m.length then ({ p with at_ := 3, rep := { p.rep with err := 4 } }, m, H)
     else ({ p with at_ := 3 }, miset m p.x.user (decide (p.x.kind = 6)), H.watch p.who p.s p.x.user (decide (p.x.kind = 6))))
  else ({ p with at_ := p.at_ + 1 }, m, H.unlock p.who p.s)
def HP.stp (p : HP) (m : Mine) (H : Hall) (n : Int) : HP × Mine × Hall :=
  if badB p.x then ({ p with at_ := 1, placed := n, rep := { p.rep with err := 1 } }, m, H)
  else if p.x.kind = 9 then ({ p with at_ := 1, placed := n, rep := if H.t.closed then { p.rep with err := 5 } else p.rep }, m, H.shut p.who)
  else if p.x.kind = 8 then ((p.stpP H n).1, m, (p.stpP H n).2)
  else p.stpW m H n
def HP.step (p : HP) (m : Mine) (H : Hall) (n : Int) : HP × Mine × Hall := if p.enabled H = true then p.stp m H n else (p, m, H)
structure HPG (n : Nat) (p : HP) : Prop where
  k : p.k = n
  s : p.s < n
  w : -1 ≤ p.who ∧ p.who ≤ 900
  o : OpW p.x
  a : p.at_ ≤ p.steps
theorem HP.lt_of_en {p : HP} {H : Hall} (h : p.enabled H = true) : p.at_ < p.steps := by
  simp [HP.enabled, HP.done] at h; omega
theorem HP.kind_of {p : HP} (h1 : badB p.x = false) (h2 : p.x.kind ≠ 9) (h3 : p.x.kind ≠ 8) : p.one = false ∧ p.steps = 4 := by
  have : p.one = false := by simp [HP.one, h1, h2]
  exact ⟨this, by simp [HP.steps, this, h3]⟩
theorem HP.poll_of {p : HP} (h1 : badB p.x = false) (h3 : p.x.kind = 8) : p.one = false ∧ p.steps = 3 * p.k + 1 := by
  have : p.one = false := by simp [HP.one, h1, h3]
  exact ⟨this, by simp [HP.steps, this, h3]⟩
theorem HS.hstep {m : Nat} {H : Hall} (x : HS m H) {p : HP} (g : HPG H.n p) (M : Mine) (n : Int) : HS (m + 1) (p.step M H n).2.2 := by
  unfold HP.step
  split
  · rename_i he
    have hl := HP.lt_of_en he
    unfold HP.stp
    split
    · exact x.mono (by omega)
    rename_i hb
    have hb : badB p.x = false := by simpa using hb
    split
    · exact x.shut _
    rename_i h9
    split
    · rename_i h8
      obtain ⟨_, hst⟩ := HP.poll_of hb h8
      have hk := g.k
      unfold HP.stpP
      split
      · exact x.lock (by omega) g.w.2
      split
      · exact x.look _
      split
      · exact x.drain (by omega)
      · exact x.unlock (by omega)
    · rename_i h8
      unfold HP.stpW
      split
      · exact x.lock g.s g.w.2
      split
      · exact x.look _
      split
      · split
        · exact x.mono (by omega)
        split
        · exact x.mono (by omega)
        · exact x.watch g.s g.o.s1 _
      · exact x.unlock g.s
  · exact x.mono (by omega)
theorem hstep_n (p : HP) (M : Mine) (H : Hall) (n : Int) : (p.step M H n).2.2.n = H.n ∧ (p.step M H n).2.2.c = H.c := by
  have hl := fun w s => lock_n H w s
  have hu := fun w s => unlock_n H w s
  unfold HP.step
  split
  · unfold HP.stp
    split
    · exact ⟨rfl, rfl⟩
    split
    · exact ⟨rfl, rfl⟩
    split
    · unfold HP.stpP
      split
      · exact ⟨(hl _ _).1, (hl _ _).2.1⟩
      split
      · exact ⟨rfl, rfl⟩
      split
      · exact ⟨rfl, rfl⟩
      · exact ⟨(hu _ _).1, (hu _ _).2.1⟩
    · unfold HP.stpW
      split
      · exact ⟨(hl _ _).1, (hl _ _).2.1⟩
      split
      · exact ⟨rfl, rfl⟩
      split
      · split
        · exact ⟨rfl, rfl⟩
        split <;> exact ⟨rfl, rfl⟩
      · exact ⟨(hu _ _).1, (hu _ _).2.1⟩
  · exact ⟨rfl, rfl⟩
theorem hstep_k (p : HP) (M : Mine) (H : Hall) (n : Int) : (p.step M H n).1.who = p.who ∧ (p.step M H n).1.x = p.x ∧ (p.step M H n).1.k = p.k ∧ (p.step M H n).1.s = p.s := by
  unfold HP.step
  split
  · unfold HP.stp
    split
    · exact ⟨rfl, rfl, rfl, rfl⟩
    split
    · exact ⟨rfl, rfl, rfl, rfl⟩
    split
    · unfold HP.stpP
      split
      · exact ⟨rfl, rfl, rfl, rfl⟩
      split
      · exact ⟨rfl, rfl, rfl, rfl⟩
      split <;> exact ⟨rfl, rfl, rfl, rfl⟩
    · unfold HP.stpW
      split
      · exact ⟨rfl, rfl, rfl, rfl⟩
      split
      · exact ⟨rfl, rfl, rfl, rfl⟩
      split
      · split
        · exact ⟨rfl, rfl, rfl, rfl⟩
        split <;> exact ⟨rfl, rfl, rfl, rfl⟩
      · exact ⟨rfl, rfl, rfl, rfl⟩
  · exact ⟨rfl, rfl, rfl, rfl⟩
theorem hstep_at (p : HP) (M : Mine) (H : Hall) (n : Int) : (p.step M H n).1.at_ = if p.enabled H = true then p.at_ + 1 else p.at_ := by
  unfold HP.step
  split
  · rename_i he
    have hl := HP.lt_of_en he
    unfold HP.stp
    split
    · rename_i hb
      have : p.steps = 1 := by simp [HP.steps, HP.one, hb]
      show 1 = _; omega
    rename_i hb
    split
    · rename_i h9
      have : p.steps = 1 := by simp [HP.steps, HP.one, h9]
      show 1 = _; omega
    split
    · unfold HP.stpP
      split
      · rfl
      split
      · rfl
      split <;> rfl
    · unfold HP.stpW
      split
      · rename_i h; show 1 = _; omega
      split
      · rename_i h; show 2 = _; omega
      split
      · rename_i h
        split
        · show 3 = _; omega
        split
        · show 3 = _; omega
        · show 3 = _; omega
      · rfl
  · rfl
theorem HPG.step {p : HP} {n0 : Nat} {H : Hall} (g : HPG n0 p) (M : Mine) (n : Int) : HPG n0 (p.step M H n).1 := by
  obtain ⟨k1, k2, k3, k4⟩ := hstep_k p M H n
  have ha := hstep_at p M H n
  have hs : (p.step M H n).1.steps = p.steps := by unfold HP.steps HP.one; rw [k2, k3]
  refine ⟨by rw [k3]; exact g.k, by rw [k4]; exact g.s, by rw [k1]; exact g.w, by rw [k2]; exact g.o, ?_⟩
  rw [ha, hs]
  split
  · rename_i he; have := HP.lt_of_en he; omega
  · exact g.a
end Go.Den
