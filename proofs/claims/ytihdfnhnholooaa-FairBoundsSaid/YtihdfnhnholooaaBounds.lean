/- Scripts and ops as they lie in memory; contracts of Short, Check, Work, Bound and of the law FairBounds. No condition beyond the hypotheses that each theorem states. -/
import Derived.Test.YtihdfnhnholooaaFair
import Derived.Test.YtihdfnhnholooaaGd
set_option linter.unusedSimpArgs false
set_option linter.unusedVariables false
namespace Go.Proofs.Ytihdfnhnholooaa
open Go Go.Den
set_option linter.unusedSimpArgs false
structure Op where
  kind : Int
  user : ByteArray
  id : Int
  status : Int
  prio : Int
  ttl : Int
  users : List ByteArray
def opC (x : Op) (v : Value) : List Value := [.int .i64 x.kind, .string x.user, .int .i64 x.id, .int .i64 x.status, .int .i64 x.prio, .int .u64 x.ttl, v]
theorem StrR.ext {h h' : Heap} {c : List Value} {x : ByteArray} (_ : Ext h h') (r : StrR h c x) : StrR h' c x := r
def OpR (h : Heap) (c : List Value) (x : Op) : Prop := ∃ v, c = opC x v ∧ Sl 1 StrR h v x.users
theorem OpR.ext {h h' : Heap} {c : List Value} {x : Op} (e : Ext h h') (r : OpR h c x) : OpR h' c x := let ⟨v, h1, h2⟩ := r; ⟨v, h1, h2.ext (@StrR.ext) e⟩
structure Cfg where
  stripes : Int
  sessions : Int
  queue : Int
  watches : Int
  retries : Int
  epochs : Int
  start : Int
def cfgC (c : Cfg) : List Value := [.int .i64 c.stripes, .int .i64 c.sessions, .int .i64 c.queue, .int .i64 c.watches, .int .i64 c.retries, .int .u64 c.epochs, .int .u64 c.start]
structure Script where
  cfg : Cfg
  clients : List (List Op)
  picks : List Pick
def ClientR (h : Heap) (c : List Value) (l : List Op) : Prop := ∃ v, c = [v] ∧ Sl 7 OpR h v l
theorem ClientR.ext {h h' : Heap} {c : List Value} {x : List Op} (e : Ext h h') (r : ClientR h c x) : ClientR h' c x := let ⟨v, h1, h2⟩ := r; ⟨v, h1, h2.ext (@OpR.ext) e⟩
def scriptC (c : Cfg) (v w : Value) : List Value := [.int .i64 c.stripes, .int .i64 c.sessions, .int .i64 c.queue, .int .i64 c.watches, .int .i64 c.retries, .int .u64 c.epochs, .int .u64 c.start, v, w]
def shortOp (x : Op) : Bool := decide (x.user.size ≤ 40) && (decide (x.users.length ≤ 20) && x.users.all fun s => decide (s.size ≤ 40))
theorem all_take {α : Type} (p : α → Bool) (l : List α) (i : Nat) (hi : i < l.length) : (l.take (i + 1)).all p = ((l.take i).all p && p l[i]) := by
  rw [List.take_succ_eq_append_getElem hi, List.all_append]; simp
theorem short_op (x : Op) (v : Value) {h : Heap} {K : Value → Heap → Prop} (hv : Sl 1 StrR h v x.users) (hk : ∀ h', Ext h h' → K (.bool (shortOp x)) h') : callM P 20 #[.agg (opC x v).toArray] h K := by
  apply c_doormanref10_Short
  unfold b_doormanref10_Short
  refine nw_intro fun b h1 hb he1 hc1 => ?_
  have hv1 := hv.ext (@StrR.ext) he1
  have r1 : cel h1 b 1 = some (.string x.user) := by simp [cel, hc1, Value.cells, opC]
  have r6 : cel h1 b 6 = some v := by simp [cel, hc1, Value.cells, opC]
  simp only [faV_p, ov_s, ldV_c, Nat.zero_add, r1, lnV_t, bin_gtr, r6, hv.len, isB_b]
  by_cases h40 : x.user.size ≤ 40
  rotate_left
  · have : decide ((40 : Int) < x.user.size) = true := by simpa using (by omega : (40 : Int) < x.user.size)
    simp only [this, pkV_t, ov_s, cd_b, gM_f, show ((true == false) = false) from rfl]
    refine ⟨fun _ => ?_, fun hx => by cases hx⟩
    have := hk h1 he1
    simpa [shortOp, h40] using this
  have h40' : decide ((40 : Int) < x.user.size) = false := by simp; omega
  simp only [h40', beq_self_eq_true, gM_t, ov_s, pkV_f, faV_p, ldV_c, Nat.zero_add, r6, hv.len, bin_gtr, cd_b]
  refine ⟨fun hc => ?_, fun hc => ?_⟩
  · have : ¬ x.users.length ≤ 20 := by have : (20 : Int) < x.users.length := by simpa using hc
                                       omega
    have := hk h1 he1
    simpa [shortOp, *] using this
  have h20 : x.users.length ≤ 20 := by have : ¬ (20 : Int) < x.users.length := by simpa using hc
                                       omega
  have hkk : ∀ h', Ext h h' → K (.bool (x.users.all fun s => decide (s.size ≤ 40))) h' := by
    intro h' he; have := hk h' he; simpa only [shortOp, h40, h20, decide_true, Bool.true_and] using this
  unfold seqM
  refine loop_intro (fun mm s h' => mm = [] ∧ Ext h1 h' ∧ ∃ i : Nat, s 1 = .pointer (some ⟨b, 0, none⟩) ∧ s 3 = .int .i64 i ∧ i ≤ x.users.length ∧ (x.users.take i).all (fun s => decide (s.size ≤ 40)) = true)
    (fun s _ => (x.users.length - num (s 3)).toNat) ⟨rfl, Ext.refl _, 0, rfl, rfl, by omega, rfl⟩ ?_
  rintro mm s h2 ⟨rfl, he2, i, hs1, hs3, hi, hall⟩
  have hv2 := hv1.ext (@StrR.ext) he2
  simp only [hs1, hs3, faV_p, ov_s, ldV_c, Nat.zero_add, cel_ext he2 r6, hv.len, bin_lss, cd_b]
  refine ⟨fun hc2 => ?_, fun hc2 => ?_⟩
  · have hlt : i < x.users.length := by have : (i : Int) < x.users.length := by simpa using hc2
                                        omega
    obtain ⟨ab, ao, c, hia, hcs, hR⟩ := hv2.at (k := .i64) (i := i) (by omega) (by omega)
    simp only [Int.toNat_natCast] at hR
    obtain ⟨rfl, _⟩ := hR
    have hcel : cel h2 ab ao = some (.string x.users[i]) := by have := (cels_get hcs).2 0 (by simp); simpa using this
    simp only [hia, ov_s, ldV_c, hcel, lnV_t, bin_gtr, cd_b]
    refine ⟨fun hc3 => ?_, fun hc3 => ?_⟩
    · have hbad : ¬ x.users[i].size ≤ 40 := by have : (40 : Int) < x.users[i].size := by simpa using hc3
                                               omega
      have hf : (x.users.all fun s => decide (s.size ≤ 40)) = false := by
        rw [List.all_eq_false]; exact ⟨_, List.getElem_mem hlt, by simpa using hbad⟩
      have := hkk h2 (he1.trans he2)
      rw [hf] at this
      simpa using this
    · have hok : x.users[i].size ≤ 40 := by have : ¬ (40 : Int) < x.users[i].size := by simpa using hc3
                                            omega
      have hw : IntKind.i64.wrap ((i : Int) + 1) = i + 1 := wrap64_id (by have := hv.max; omega) (by have := hv.max; omega)
      simp only [bin_add, ov_s, hw, lpM_n]
      refine ⟨⟨trivial, he2, i + 1, by simp [hs1], by simp, by omega, by rw [all_take _ _ _ hlt, hall]; simpa using hok⟩, ?_⟩
      simp [hs3]; omega
  · have : ¬ (i : Int) < x.users.length := by simpa using hc2
    have hi' : i = x.users.length := by omega
    subst hi'
    rw [List.take_length] at hall
    have := hkk h2 (he1.trans he2)
    rw [hall] at this
    simpa using this
end Go.Proofs.Ytihdfnhnholooaa

namespace Go.Proofs.Ytihdfnhnholooaa
open Go Go.Den
set_option linter.unusedSimpArgs false
def rightB (c : Cfg) : Bool := decide (0 < c.stripes) && (decide (c.stripes < 9) && (decide (0 < c.sessions) && (decide (c.sessions < 9) && (decide (0 < c.queue) && (decide (c.queue < 17) && (decide (0 < c.watches) && (decide (c.watches < 9) && (decide (0 ≤ c.retries) && (decide (c.retries < 5))))))))))
theorem rightB_iff (c : Cfg) : rightB c = true ↔ 0 < c.stripes ∧ c.stripes < 9 ∧ 0 < c.sessions ∧ c.sessions < 9 ∧ 0 < c.queue ∧ c.queue < 17 ∧ 0 < c.watches ∧ c.watches < 9 ∧ 0 ≤ c.retries ∧ c.retries < 5 := by simp [rightB]
theorem right_ok (c : Cfg) {h : Heap} {K : Value → Heap → Prop} (hk : ∀ h', Ext h h' → K (.bool (rightB c)) h') : callM P 21 #[.agg (cfgC c).toArray] h K := by
  apply c_doormanref10_Right
  unfold b_doormanref10_Right
  refine nw_intro fun b h1 hb he1 hc1 => ?_
  have r0 : cel h1 b 0 = some (.int .i64 c.stripes) := by simp [cel, hc1, Value.cells, cfgC]
  have r1 : cel h1 b 1 = some (.int .i64 c.sessions) := by simp [cel, hc1, Value.cells, cfgC]
  have r2 : cel h1 b 2 = some (.int .i64 c.queue) := by simp [cel, hc1, Value.cells, cfgC]
  have r3 : cel h1 b 3 = some (.int .i64 c.watches) := by simp [cel, hc1, Value.cells, cfgC]
  have r4 : cel h1 b 4 = some (.int .i64 c.retries) := by simp [cel, hc1, Value.cells, cfgC]
  have hk1 := hk h1 he1
  clear hk hc1
  unfold rightB at hk1
  simp only [faV_p, ov_s, ldV_c, Nat.zero_add, r0, bin_gtr, isB_b]
  generalize decide (0 < c.stripes) = b0 at hk1 ⊢
  cases b0
  · exact hk1
  simp only [faV_p, ov_s, ldV_c, Nat.zero_add, r0, r1, r2, r3, r4, bin_gtr, bin_lss, bin_geq, isB_b, beq_self_eq_true, gM_t, pkV_t, Bool.true_and] at hk1 ⊢
  generalize decide (c.stripes < 9) = b1 at hk1 ⊢
  cases b1
  · exact hk1
  simp only [faV_p, ov_s, ldV_c, Nat.zero_add, r0, r1, r2, r3, r4, bin_gtr, bin_lss, bin_geq, isB_b, beq_self_eq_true, gM_t, pkV_t, Bool.true_and] at hk1 ⊢
  generalize decide (0 < c.sessions) = b2 at hk1 ⊢
  cases b2
  · exact hk1
  simp only [faV_p, ov_s, ldV_c, Nat.zero_add, r0, r1, r2, r3, r4, bin_gtr, bin_lss, bin_geq, isB_b, beq_self_eq_true, gM_t, pkV_t, Bool.true_and] at hk1 ⊢
  generalize decide (c.sessions < 9) = b3 at hk1 ⊢
  cases b3
  · exact hk1
  simp only [faV_p, ov_s, ldV_c, Nat.zero_add, r0, r1, r2, r3, r4, bin_gtr, bin_lss, bin_geq, isB_b, beq_self_eq_true, gM_t, pkV_t, Bool.true_and] at hk1 ⊢
  generalize decide (0 < c.queue) = b4 at hk1 ⊢
  cases b4
  · exact hk1
  simp only [faV_p, ov_s, ldV_c, Nat.zero_add, r0, r1, r2, r3, r4, bin_gtr, bin_lss, bin_geq, isB_b, beq_self_eq_true, gM_t, pkV_t, Bool.true_and] at hk1 ⊢
  generalize decide (c.queue < 17) = b5 at hk1 ⊢
  cases b5
  · exact hk1
  simp only [faV_p, ov_s, ldV_c, Nat.zero_add, r0, r1, r2, r3, r4, bin_gtr, bin_lss, bin_geq, isB_b, beq_self_eq_true, gM_t, pkV_t, Bool.true_and] at hk1 ⊢
  generalize decide (0 < c.watches) = b6 at hk1 ⊢
  cases b6
  · exact hk1
  simp only [faV_p, ov_s, ldV_c, Nat.zero_add, r0, r1, r2, r3, r4, bin_gtr, bin_lss, bin_geq, isB_b, beq_self_eq_true, gM_t, pkV_t, Bool.true_and] at hk1 ⊢
  generalize decide (c.watches < 9) = b7 at hk1 ⊢
  cases b7
  · exact hk1
  simp only [faV_p, ov_s, ldV_c, Nat.zero_add, r0, r1, r2, r3, r4, bin_gtr, bin_lss, bin_geq, isB_b, beq_self_eq_true, gM_t, pkV_t, Bool.true_and] at hk1 ⊢
  generalize decide (0 ≤ c.retries) = b8 at hk1 ⊢
  cases b8
  · exact hk1
  simp only [faV_p, ov_s, ldV_c, Nat.zero_add, r0, r1, r2, r3, r4, bin_gtr, bin_lss, bin_geq, isB_b, beq_self_eq_true, gM_t, pkV_t, Bool.true_and] at hk1 ⊢
  generalize decide (c.retries < 5) = b9 at hk1 ⊢
  cases b9
  · exact hk1
  exact hk1
def workN (c : Cfg) (k : Int) : Int := if 1 ≤ k ∧ k ≤ 3 then 7 else if k = 4 ∨ k = 5 then (c.retries + 2) * (3 * c.stripes + 1) else if k = 6 ∨ k = 7 then 4 else if k = 8 then 3 * c.stripes + 1 else 1
theorem work_bd (c : Cfg) (k : Int) (hc : rightB c = true) : 1 ≤ workN c k ∧ workN c k ≤ 150 := by
  rw [rightB_iff] at hc
  have h1 : 1 * (3 * c.stripes + 1) ≤ (c.retries + 2) * (3 * c.stripes + 1) := Int.mul_le_mul_of_nonneg_right (by omega) (by omega)
  have h2 : (c.retries + 2) * (3 * c.stripes + 1) ≤ 6 * (3 * c.stripes + 1) := Int.mul_le_mul_of_nonneg_right (by omega) (by omega)
  unfold workN
  repeat' split
  all_goals omega
theorem kinds (k : Int) : k = 1 ∨ k = 2 ∨ k = 3 ∨ k = 4 ∨ k = 5 ∨ k = 6 ∨ k = 7 ∨ k = 8 ∨ k < 1 ∨ 8 < k := by omega
theorem work_ok (c : Cfg) (x : Op) (v : Value) {h : Heap} {K : Value → Heap → Prop} (hc : rightB c = true) (hk : ∀ h', Ext h h' → K (.int .i64 (workN c x.kind)) h') : callM P 14 #[.agg (cfgC c).toArray, .agg (opC x v).toArray] h K := by
  apply c_fair_Work
  unfold b_fair_Work
  refine nw_intro fun b h1 hb he1 hc1 => nw_intro fun b' h2 hb' he2 hc2 => ?_
  have hc1' := he2 _ _ hc1
  have r0 : cel h2 b 0 = some (.int .i64 c.stripes) := by simp [cel, hc1', Value.cells, cfgC]
  have r4 : cel h2 b 4 = some (.int .i64 c.retries) := by simp [cel, hc1', Value.cells, cfgC]
  have hbd := work_bd c 4 hc
  rw [rightB_iff] at hc
  have w1 : IntKind.i64.wrap (3 * c.stripes) = 3 * c.stripes := wrap64_id (by omega) (by omega)
  have w2 : IntKind.i64.wrap (3 * c.stripes + 1) = 3 * c.stripes + 1 := wrap64_id (by omega) (by omega)
  have w3 : IntKind.i64.wrap (c.retries + 2) = c.retries + 2 := wrap64_id (by omega) (by omega)
  have w4 : IntKind.i64.wrap ((c.retries + 2) * (3 * c.stripes + 1)) = (c.retries + 2) * (3 * c.stripes + 1) := by
    simp [workN] at hbd
    exact wrap64_id (by omega) (by omega)
  have hk1 := hk h2 (he1.trans he2)
  have q0 : cel h2 b' 0 = some (.int .i64 x.kind) := by simp [cel, hc2, Value.cells, opC]
  clear hc1 hc2 hc1' hk
  generalize x.kind = k at *
  rcases kinds k with rfl | rfl | rfl | rfl | rfl | rfl | rfl | rfl | hlo | hhi
  all_goals try simp only [seqM]
  · simpa [r0, r4, q0, w1, w2, w3, w4, workN] using hk1
  · simpa [r0, r4, q0, w1, w2, w3, w4, workN] using hk1
  · simpa [r0, r4, q0, w1, w2, w3, w4, workN] using hk1
  · simpa [r0, r4, q0, w1, w2, w3, w4, workN] using hk1
  · simpa [r0, r4, q0, w1, w2, w3, w4, workN] using hk1
  · simpa [r0, r4, q0, w1, w2, w3, w4, workN] using hk1
  · simpa [r0, r4, q0, w1, w2, w3, w4, workN] using hk1
  · simpa [r0, r4, q0, w1, w2, w3, w4, workN] using hk1
  · have e : ¬ k = 1 ∧ ¬ k = 2 ∧ ¬ k = 3 ∧ ¬ k = 4 ∧ ¬ k = 5 ∧ ¬ k = 6 ∧ ¬ k = 7 ∧ ¬ k = 8 ∧ ¬ 1 ≤ k := by omega
    have n1 : (k == 1) = false := beq_false_of_ne (by omega)
    have n2 : (k == 2) = false := beq_false_of_ne (by omega)
    have n3 : (k == 3) = false := beq_false_of_ne (by omega)
    have n4 : (k == 4) = false := beq_false_of_ne (by omega)
    have n5 : (k == 5) = false := beq_false_of_ne (by omega)
    have n6 : (k == 6) = false := beq_false_of_ne (by omega)
    have n7 : (k == 7) = false := beq_false_of_ne (by omega)
    have n8 : (k == 8) = false := beq_false_of_ne (by omega)
    simpa [r0, r4, q0, w1, w2, w3, w4, workN, e, n1, n2, n3, n4, n5, n6, n7, n8] using hk1
  · have e : ¬ k = 1 ∧ ¬ k = 2 ∧ ¬ k = 3 ∧ ¬ k = 4 ∧ ¬ k = 5 ∧ ¬ k = 6 ∧ ¬ k = 7 ∧ ¬ k = 8 ∧ ¬ k ≤ 3 := by omega
    have e1 : 1 ≤ k := by omega
    have n1 : (k == 1) = false := beq_false_of_ne (by omega)
    have n2 : (k == 2) = false := beq_false_of_ne (by omega)
    have n3 : (k == 3) = false := beq_false_of_ne (by omega)
    have n4 : (k == 4) = false := beq_false_of_ne (by omega)
    have n5 : (k == 5) = false := beq_false_of_ne (by omega)
    have n6 : (k == 6) = false := beq_false_of_ne (by omega)
    have n7 : (k == 7) = false := beq_false_of_ne (by omega)
    have n8 : (k == 8) = false := beq_false_of_ne (by omega)
    simpa [r0, r4, q0, w1, w2, w3, w4, workN, e, e1, n1, n2, n3, n4, n5, n6, n7, n8] using hk1
theorem work_ref (c : Cfg) (x : Op) (v : Value) {h : Heap} {K : Value → Heap → Prop} (hc : rightB c = true) (hk : ∀ h', Ext h h' → K (.int .i64 (workN c x.kind)) h') : callM P 15 #[.agg (cfgC c).toArray, .agg (opC x v).toArray] h K := by
  apply c_doormanref23_Work
  unfold b_doormanref23_Work
  refine nw_intro fun b h1 hb he1 hc1 => nw_intro fun b' h2 hb' he2 hc2 => ?_
  have hc1' := he2 _ _ hc1
  have r0 : cel h2 b 0 = some (.int .i64 c.stripes) := by simp [cel, hc1', Value.cells, cfgC]
  have r4 : cel h2 b 4 = some (.int .i64 c.retries) := by simp [cel, hc1', Value.cells, cfgC]
  have hbd := work_bd c 4 hc
  rw [rightB_iff] at hc
  have w1 : IntKind.i64.wrap (3 * c.stripes) = 3 * c.stripes := wrap64_id (by omega) (by omega)
  have w2 : IntKind.i64.wrap (3 * c.stripes + 1) = 3 * c.stripes + 1 := wrap64_id (by omega) (by omega)
  have w3 : IntKind.i64.wrap (c.retries + 2) = c.retries + 2 := wrap64_id (by omega) (by omega)
  have w4 : IntKind.i64.wrap ((c.retries + 2) * (3 * c.stripes + 1)) = (c.retries + 2) * (3 * c.stripes + 1) := by
    simp [workN] at hbd
    exact wrap64_id (by omega) (by omega)
  have hk1 := hk h2 (he1.trans he2)
  have q0 : cel h2 b' 0 = some (.int .i64 x.kind) := by simp [cel, hc2, Value.cells, opC]
  clear hc1 hc2 hc1' hk
  generalize x.kind = k at *
  rcases kinds k with rfl | rfl | rfl | rfl | rfl | rfl | rfl | rfl | hlo | hhi
  all_goals try simp only [seqM]
  · simpa [r0, r4, q0, w1, w2, w3, w4, workN] using hk1
  · simpa [r0, r4, q0, w1, w2, w3, w4, workN] using hk1
  · simpa [r0, r4, q0, w1, w2, w3, w4, workN] using hk1
  · simpa [r0, r4, q0, w1, w2, w3, w4, workN] using hk1
  · simpa [r0, r4, q0, w1, w2, w3, w4, workN] using hk1
  · simpa [r0, r4, q0, w1, w2, w3, w4, workN] using hk1
  · simpa [r0, r4, q0, w1, w2, w3, w4, workN] using hk1
  · simpa [r0, r4, q0, w1, w2, w3, w4, workN] using hk1
  · have e : ¬ k = 1 ∧ ¬ k = 2 ∧ ¬ k = 3 ∧ ¬ k = 4 ∧ ¬ k = 5 ∧ ¬ k = 6 ∧ ¬ k = 7 ∧ ¬ k = 8 ∧ ¬ 1 ≤ k := by omega
    have n1 : (k == 1) = false := beq_false_of_ne (by omega)
    have n2 : (k == 2) = false := beq_false_of_ne (by omega)
    have n3 : (k == 3) = false := beq_false_of_ne (by omega)
    have n4 : (k == 4) = false := beq_false_of_ne (by omega)
    have n5 : (k == 5) = false := beq_false_of_ne (by omega)
    have n6 : (k == 6) = false := beq_false_of_ne (by omega)
    have n7 : (k == 7) = false := beq_false_of_ne (by omega)
    have n8 : (k == 8) = false := beq_false_of_ne (by omega)
    simpa [r0, r4, q0, w1, w2, w3, w4, workN, e, n1, n2, n3, n4, n5, n6, n7, n8] using hk1
  · have e : ¬ k = 1 ∧ ¬ k = 2 ∧ ¬ k = 3 ∧ ¬ k = 4 ∧ ¬ k = 5 ∧ ¬ k = 6 ∧ ¬ k = 7 ∧ ¬ k = 8 ∧ ¬ k ≤ 3 := by omega
    have e1 : 1 ≤ k := by omega
    have n1 : (k == 1) = false := beq_false_of_ne (by omega)
    have n2 : (k == 2) = false := beq_false_of_ne (by omega)
    have n3 : (k == 3) = false := beq_false_of_ne (by omega)
    have n4 : (k == 4) = false := beq_false_of_ne (by omega)
    have n5 : (k == 5) = false := beq_false_of_ne (by omega)
    have n6 : (k == 6) = false := beq_false_of_ne (by omega)
    have n7 : (k == 7) = false := beq_false_of_ne (by omega)
    have n8 : (k == 8) = false := beq_false_of_ne (by omega)
    simpa [r0, r4, q0, w1, w2, w3, w4, workN, e, e1, n1, n2, n3, n4, n5, n6, n7, n8] using hk1
end Go.Proofs.Ytihdfnhnholooaa

namespace Go.Proofs.Ytihdfnhnholooaa
open Go Go.Den
set_option linter.unusedSimpArgs false
theorem atN {α : Type} {sz : Nat} {R : Heap → List Value → α → Prop} {h : Heap} {v : Value} {xs : List α} (x : Sl sz R h v xs) (k : IntKind) {i : Nat} (hi : i < xs.length) :
    ∃ b o c, iaV (some (none, sz)) v (.int k i) = some (.pointer (some ⟨b, o, none⟩)) ∧ cels h b o sz = some c ∧ R h c xs[i] := by
  obtain ⟨b, o, c, h1, h2, h3⟩ := x.at (k := k) (i := i) (by omega) (by omega)
  exact ⟨b, o, c, h1, h2, by simpa using h3⟩
theorem at1 {α : Type} {R : Heap → List Value → α → Prop} {h : Heap} {v : Value} {xs : List α} (x : Sl 1 R h v xs) (k : IntKind) {i : Nat} (hi : i < xs.length) :
    ∃ b o u, iaV (some (none, 1)) v (.int k i) = some (.pointer (some ⟨b, o, none⟩)) ∧ cel h b o = some u ∧ R h [u] xs[i] := by
  obtain ⟨b, o, c, h1, h2, h3⟩ := atN x k hi
  obtain ⟨hl, hg⟩ := cels_get h2
  match c, hl with
  | [u], _ => exact ⟨b, o, u, h1, by simpa using hg 0 (by simp), h3⟩
def okC (l : List Op) : Bool := decide (l.length ≤ 50) && l.all shortOp
def shortS (s : Script) (n : Int) : Bool := decide (s.clients.length ≤ 20) && (decide ((s.picks.length : Int) ≤ n) && s.clients.all okC)
structure ScriptH (h : Heap) (s : Script) (v w : Value) : Prop where
  cl : Sl 1 ClientR h v s.clients
  pk : Sl 3 PickR h w s.picks
theorem ScriptH.ext {h h' : Heap} {s : Script} {v w : Value} (e : Ext h h') (x : ScriptH h s v w) : ScriptH h' s v w := ⟨x.cl.ext (@ClientR.ext) e, x.pk.ext (@PickR.ext) e⟩
set_option maxHeartbeats 1000000 in
theorem short_script (s : Script) (v w : Value) (n : Int) {h : Heap} {K : Value → Heap → Prop} (hx : ScriptH h s v w) (hk : ∀ h', Ext h h' → K (.bool (shortS s n)) h') :
    callM P 12 #[.agg (scriptC s.cfg v w).toArray, .int .i64 n] h K := by
  apply c_doormanref12_Short
  unfold b_doormanref12_Short
  refine nw_intro fun b h1 hb he1 hc1 => ?_
  have r7 : cel h1 b 7 = some v := by simp [cel, hc1, Value.cells, scriptC]
  have r8 : cel h1 b 8 = some w := by simp [cel, hc1, Value.cells, scriptC]
  simp only [faV_p, ov_s, ldV_c, Nat.zero_add, r7, r8, hx.cl.len, bin_gtr, isB_b]
  by_cases h20 : s.clients.length ≤ 20
  rotate_left
  · have : decide ((20 : Int) < s.clients.length) = true := by simpa using (by omega : (20 : Int) < s.clients.length)
    simp only [this, pkV_t, ov_s, cd_b, gM_f, show ((true == false) = false) from rfl]
    refine ⟨fun _ => ?_, fun hx => by cases hx⟩
    simpa [shortS, h20] using hk h1 he1
  have h20' : decide ((20 : Int) < s.clients.length) = false := by simp; omega
  simp only [h20', beq_self_eq_true, gM_t, ov_s, pkV_f, faV_p, ldV_c, Nat.zero_add, r8, hx.pk.len, bin_gtr, cd_b]
  refine ⟨fun hc => ?_, fun hc => ?_⟩
  · have : ¬ (s.picks.length : Int) ≤ n := by have : n < s.picks.length := by simpa using hc
                                              omega
    simpa [shortS, *] using hk h1 he1
  have hn : (s.picks.length : Int) ≤ n := by have : ¬ n < s.picks.length := by simpa using hc
                                             omega
  have hkk : ∀ h', Ext h h' → K (.bool (s.clients.all okC)) h' := by
    intro h' he; have := hk h' he; simpa only [shortS, h20, hn, decide_true, Bool.true_and] using this
  unfold seqM
  refine loop_intro (fun mm t h' => mm = [] ∧ Ext h1 h' ∧ ∃ i : Nat, t 2 = .pointer (some ⟨b, 0, none⟩) ∧ t 5 = .int .i64 i ∧ i ≤ s.clients.length ∧ (s.clients.take i).all okC = true)
    (fun t _ => (s.clients.length - num (t 5)).toNat) ⟨rfl, Ext.refl _, 0, rfl, rfl, by omega, rfl⟩ ?_
  rintro mm t h2 ⟨rfl, he2, i, ht2, ht5, hi, hall⟩
  have hx2 := hx.ext (he1.trans he2)
  simp only [ht2, ht5, faV_p, ov_s, ldV_c, Nat.zero_add, cel_ext he2 r7, hx.cl.len, bin_lss, cd_b]
  refine ⟨fun hc2 => ?_, fun hc2 => ?_⟩
  rotate_left
  · have : ¬ (i : Int) < s.clients.length := by simpa using hc2
    have hi' : i = s.clients.length := by omega
    subst hi'
    rw [List.take_length] at hall
    have := hkk h2 (he1.trans he2)
    rw [hall] at this
    simpa using this
  have hlt : i < s.clients.length := by have : (i : Int) < s.clients.length := by simpa using hc2
                                        omega
  obtain ⟨ab, ao, u, hia, hcu, u', hu', hR⟩ := at1 hx2.cl .i64 hlt
  obtain rfl : u = u' := by simpa using hu'
  have hfail : okC s.clients[i] = false → ∀ h', Ext h h' → K (.bool false) h' := fun hf h' he => by
    have hf2 : s.clients.all okC = false := by rw [List.all_eq_false]; exact ⟨_, List.getElem_mem hlt, by simpa using hf⟩
    have := hkk h' he; rwa [hf2] at this
  simp only [hia, ov_s, ldV_c, hcu, hR.len, bin_gtr, cd_b]
  refine ⟨fun hc3 => ?_, fun hc3 => ?_⟩
  · have hbad : ¬ s.clients[i].length ≤ 50 := by have : (50 : Int) < s.clients[i].length := by simpa using hc3
                                                 omega
    simpa using hfail (by simp [okC, hbad]) h2 (he1.trans he2)
  have h50 : s.clients[i].length ≤ 50 := by have : ¬ (50 : Int) < s.clients[i].length := by simpa using hc3
                                            omega
  refine loop_intro (fun mm t h' => mm = [] ∧ Ext h2 h' ∧ ∃ j : Nat, t 2 = .pointer (some ⟨b, 0, none⟩) ∧ t 5 = .int .i64 i ∧ t 6 = .int .i64 j ∧ j ≤ s.clients[i].length ∧ (s.clients[i].take j).all shortOp = true)
    (fun t _ => (s.clients[i].length - num (t 6)).toNat) ⟨rfl, Ext.refl _, 0, ht2, ht5, rfl, by omega, rfl⟩ ?_
  rintro mm q h3 ⟨rfl, he3, j, hq2, hq5, hq6, hj, hall2⟩
  have he13 := he1.trans (he2.trans he3)
  simp only [hq2, hq5, hq6, faV_p, ov_s, ldV_c, Nat.zero_add, cel_ext he3 (cel_ext he2 r7), hia, cel_ext he3 hcu, hR.len, bin_lss, cd_b]
  refine ⟨fun hc4 => ?_, fun hc4 => ?_⟩
  · have hjl : j < s.clients[i].length := by have : (j : Int) < s.clients[i].length := by simpa using hc4
                                             omega
    obtain ⟨ob, oo, c, hib, hcs, y, rfl, hy⟩ := atN (hR.ext (@OpR.ext) he3) .i64 hjl
    simp only [hib, ov_s, ldV_n hcs]
    refine short_op _ y hy fun h4 he4 => ?_
    simp only [unV_n, ov_s, cd_b]
    refine ⟨fun hc5 => ?_, fun hc5 => ?_⟩
    · have hbad : shortOp s.clients[i][j] = false := by simpa using hc5
      have hf : okC s.clients[i] = false := by
        have : s.clients[i].all shortOp = false := by rw [List.all_eq_false]; exact ⟨_, List.getElem_mem hjl, by simpa using hbad⟩
        simp [okC, this]
      simpa using hfail hf h4 (he13.trans he4)
    · have hok : shortOp s.clients[i][j] = true := by simpa using hc5
      have hw : IntKind.i64.wrap ((j : Int) + 1) = j + 1 := wrap64_id (by omega) (by omega)
      simp only [bin_add, ov_s, hw, lpM_n]
      refine ⟨⟨trivial, he3.trans he4, j + 1, by simp [hq2], by simp [hq5], by simp, by omega, by rw [all_take _ _ _ hjl, hall2, hok]; rfl⟩, ?_⟩
      simp [hq6]; omega
  · have : ¬ (j : Int) < s.clients[i].length := by simpa using hc4
    have hj' : j = s.clients[i].length := by omega
    subst hj'
    rw [List.take_length] at hall2
    have hw : IntKind.i64.wrap ((i : Int) + 1) = i + 1 := wrap64_id (by omega) (by omega)
    simp only [lpM_e, blkM_e, blkM_n, if_true, eq_self, thenM_n, puts_lk, lk, Nat.reduceEqDiff, if_false, Option.getD_none, Option.getD_some, hq5, bin_add, ov_s, hw, lpM_n]
    have hok : okC s.clients[i] = true := by simp only [okC, h50, hall2, decide_true, Bool.true_and]
    refine ⟨⟨trivial, he2.trans he3, i + 1, by simp [hq2], by simp, by omega, by rw [all_take _ _ _ hlt, hall, hok]; rfl⟩, ?_⟩
    simp [ht5]; omega
end Go.Proofs.Ytihdfnhnholooaa

namespace Go.Proofs.Ytihdfnhnholooaa
open Go Go.Den
set_option linter.unusedSimpArgs false
def longC (l : List Op) : Bool := decide (40 < l.length)
def longS (s : Script) : Bool := decide (8 < s.clients.length) || decide (20000 < s.picks.length)
def checkN (s : Script) : Int := if rightB s.cfg = false ∨ s.clients.length = 0 then 1 else if (longS s || s.clients.any longC) = true then 7 else 0
theorem any_take {α : Type} (p : α → Bool) (l : List α) (i : Nat) (hi : i < l.length) : (l.take (i + 1)).any p = ((l.take i).any p || p l[i]) := by
  rw [List.take_succ_eq_append_getElem hi, List.any_append]; simp
theorem scriptC_cfg {h : Heap} {b : Nat} {c : Cfg} {v w : Value} {e : TypeId} (hc : h b = some (.cells (Value.agg (scriptC c v w).toArray).cells e (0, 0))) : ldV (some (some 7)) (.pointer (some ⟨b, 0, none⟩)) h = some (.agg (cfgC c).toArray) := by
  simp [ldV, cels, cel, hc, Value.cells, scriptC, cfgC]
set_option maxHeartbeats 1000000 in
theorem check_ok (s : Script) (v w : Value) {h : Heap} {K : Value → Heap → Prop} (hx : ScriptH h s v w) (hk : ∀ h', Ext h h' → K (.int .i64 (checkN s)) h') :
    callM P 13 #[.agg (scriptC s.cfg v w).toArray] h K := by
  apply c_doormanref12_Check
  unfold b_doormanref12_Check
  refine nw_intro fun b h1 hb he1 hc1 => ?_
  have r7 : cel h1 b 7 = some v := by simp [cel, hc1, Value.cells, scriptC]
  have r8 : cel h1 b 8 = some w := by simp [cel, hc1, Value.cells, scriptC]
  simp only [faV_p, ov_s, Nat.zero_add, scriptC_cfg hc1]
  refine right_ok _ fun h2 he2 => ?_
  simp only [unV_n, ov_s, isB_b, faV_p, ldV_c, Nat.zero_add, cel_ext he2 r7, cel_ext he2 r8]
  by_cases hr : rightB s.cfg = true
  rotate_left
  · have hr' : rightB s.cfg = false := by simpa using hr
    have e1 : checkN s = 1 := by simp [checkN, hr']
    have := hk h2 (he1.trans he2)
    rw [e1] at this
    simpa [hr'] using this
  simp only [hr, Bool.not_true, beq_self_eq_true, gM_t, faV_p, ov_s, ldV_c, Nat.zero_add, cel_ext he2 r7, hx.cl.len, bin_eql, pkV_f, cd_b]
  refine ⟨fun hc => ?_, fun hc => ?_⟩
  · have : s.clients.length = 0 := by have : (s.clients.length : Int) = 0 := by simpa using hc
                                      omega
    have e1 : checkN s = 1 := by simp [checkN, this]
    have := hk h2 (he1.trans he2)
    rwa [e1] at this
  have hn0 : ¬ s.clients.length = 0 := fun e => by simp [e] at hc
  have e1 : checkN s = if (longS s || s.clients.any longC) = true then 7 else 0 := by simp only [checkN, hr, hn0]; simp
  rw [e1] at hk
  have h9 : decide (20000 < s.picks.length) = decide ((20000 : Int) < s.picks.length) := by rw [decide_eq_decide]; omega
  have h8 : decide (8 < s.clients.length) = decide ((8 : Int) < s.clients.length) := by rw [decide_eq_decide]; omega
  have hls : longS s = (decide ((8 : Int) < s.clients.length) || decide ((20000 : Int) < s.picks.length)) := by simp only [longS, h8, h9]
  simp only [bin_gtr, ov_s, isB_b]
  generalize decide ((8 : Int) < s.clients.length) = d8 at hls ⊢
  refine gM_k fun u1 hu1 => gM_ov (a := w) (fun hc => by rw [hu1 hc, ldV_c]; exact cel_ext he2 r8) fun u2 hu2 => gM_ov (a := .int .i64 s.picks.length) (fun hc => by rw [hu2 hc]; exact hx.pk.len) fun u3 hu3 =>
    gM_ov (a := .bool (decide ((20000 : Int) < s.picks.length))) (fun hc => by rw [hu3 hc, bin_gtr]) fun u4 hu4 => ?_
  have hpk : pkV (.bool d8) (.bool true) u4 = some (.bool (longS s)) := by
    cases d8
    · rw [hls, hu4 rfl]; rfl
    · rw [hls]; rfl
  rw [hpk, ov_s]
  refine seq_cut (fun mm t h' => mm = [] ∧ Ext h h' ∧ t 3 = .bool (longS s || s.clients.any longC)) (fun J hJ _ _ => ?_) ?_
  rotate_left
  · rintro mm t h3 ⟨rfl, he3, ht3⟩
    simp only [ht3, cd_b]
    refine ⟨fun hc2 => ?_, fun hc2 => ?_⟩
    · have := hk h3 he3; rw [if_pos hc2] at this; simpa using this
    · have := hk h3 he3; rw [if_neg (by rw [hc2]; simp)] at this; simpa using this
  refine loop_intro (fun mm t h' => mm = [] ∧ Ext h2 h' ∧ ∃ i : Nat, t 1 = .pointer (some ⟨b, 0, none⟩) ∧ t 4 = .int .i64 i ∧ i ≤ s.clients.length ∧ t 3 = .bool (longS s || (s.clients.take i).any longC))
    (fun t _ => (s.clients.length - num (t 4)).toNat) ⟨rfl, Ext.refl _, 0, rfl, rfl, by omega, by simp⟩ ?_
  rintro mm t h3 ⟨rfl, he3, i, ht1, ht4, hi, ht3⟩
  have hx3 := hx.ext (he1.trans (he2.trans he3))
  simp only [ht1, ht4, faV_p, ov_s, ldV_c, Nat.zero_add, cel_ext he3 (cel_ext he2 r7), hx.cl.len, bin_lss, cd_b]
  refine ⟨fun hc2 => ?_, fun hc2 => ?_⟩
  rotate_left
  · have : ¬ (i : Int) < s.clients.length := by simpa using hc2
    have hi' : i = s.clients.length := by omega
    subst hi'
    rw [List.take_length] at ht3
    simp only [lpM_e, blkM_e, if_true]
    exact hJ _ _ _ ⟨rfl, he1.trans (he2.trans he3), by simp [ht3]⟩
  have hlt : i < s.clients.length := by have : (i : Int) < s.clients.length := by simpa using hc2
                                        omega
  obtain ⟨ab, ao, u, hia, hcu, u', hu', hR⟩ := at1 hx3.cl .i64 hlt
  obtain rfl : u = u' := by simpa using hu'
  have hw : IntKind.i64.wrap ((i : Int) + 1) = i + 1 := wrap64_id (by have := hx.cl.max; omega) (by have := hx.cl.max; omega)
  have hmu : (s.clients.length - ((i : Int) + 1)).toNat < (s.clients.length - (i : Int)).toNat := by omega
  cases hb : (longS s || (s.clients.take i).any longC)
  · have h9 : longC s.clients[i] = decide ((40 : Int) < s.clients[i].length) := by unfold longC; rw [decide_eq_decide]; omega
    simp only [ht3, hb, isB_b, beq_self_eq_true, gM_t, faV_p, ov_s, ldV_c, Nat.zero_add, cel_ext he3 (cel_ext he2 r7), hia, hcu, hR.len, bin_gtr, pkV_f, bin_add, hw, lpM_n]
    refine ⟨⟨trivial, he3, i + 1, by simp [ht1], by simp, by omega, by rw [any_take _ _ _ hlt, ← Bool.or_assoc, hb, h9]; simp⟩, by simpa [ht4] using hmu⟩
  · simp only [ht3, hb, isB_b, show ((true == false) = false) from rfl, gM_f, pkV_t, ov_s, bin_add, hw, lpM_n]
    refine ⟨⟨trivial, he3, i + 1, by simp [ht1], by simp, by omega, by rw [any_take _ _ _ hlt, ← Bool.or_assoc, hb]; simp⟩, by simpa [ht4] using hmu⟩
end Go.Proofs.Ytihdfnhnholooaa

namespace Go.Proofs.Ytihdfnhnholooaa
open Go Go.Den
set_option linter.unusedSimpArgs false
def accO (c : Cfg) (a : Int) (l : List Op) : Int := l.foldl (fun a x => a + (workN c x.kind + 1)) a
def accC (c : Cfg) (a : Int) (ls : List (List Op)) : Int := ls.foldl (accO c) a
theorem accO_s (c : Cfg) (a : Int) (l : List Op) (j : Nat) (hj : j < l.length) : accO c a (l.take (j + 1)) = accO c a (l.take j) + (workN c l[j].kind + 1) := by
  unfold accO; rw [List.take_succ_eq_append_getElem hj, List.foldl_append]; rfl
theorem accC_s (c : Cfg) (a : Int) (l : List (List Op)) (j : Nat) (hj : j < l.length) : accC c a (l.take (j + 1)) = accO c (accC c a (l.take j)) l[j] := by
  unfold accC; rw [List.take_succ_eq_append_getElem hj, List.foldl_append]; rfl
theorem accO_bd (c : Cfg) (hc : rightB c = true) : ∀ (l : List Op) (a : Int), a ≤ accO c a l ∧ accO c a l ≤ a + l.length * 151
  | [], a => by simp [accO]
  | x :: l, a => by
    have h1 := accO_bd c hc l (a + (workN c x.kind + 1))
    have h2 := work_bd c x.kind hc
    have e : accO c a (x :: l) = accO c (a + (workN c x.kind + 1)) l := rfl
    rw [e, List.length_cons]
    have : ((l.length + 1 : Nat) : Int) = l.length + 1 := by omega
    rw [this]; omega
theorem accC_bd (c : Cfg) (hc : rightB c = true) : ∀ (ls : List (List Op)) (a : Int), (∀ l ∈ ls, l.length ≤ 40) → a ≤ accC c a ls ∧ accC c a ls ≤ a + ls.length * 6040
  | [], a, _ => by simp [accC]
  | l :: ls, a, h => by
    have h1 := accC_bd c hc ls (accO c a l) (fun x hx => h x (List.mem_cons_of_mem _ hx))
    have h2 := accO_bd c hc l a
    have h3 := h l (List.mem_cons_self ..)
    have e : accC c a (l :: ls) = accC c (accO c a l) ls := rfl
    rw [e, List.length_cons]
    have : ((ls.length + 1 : Nat) : Int) = ls.length + 1 := by omega
    rw [this]; omega
structure Okk (s : Script) : Prop where
  r : rightB s.cfg = true
  n : s.clients.length ≤ 8
  l : ∀ l ∈ s.clients, l.length ≤ 40
theorem okk_of (s : Script) (h : checkN s = 0) : Okk s := by
  unfold checkN at h
  split at h
  · omega
  · rename_i h1
    split at h
    · omega
    · rename_i h2
      simp only [longS, Bool.or_eq_true, not_or, List.any_eq_true, not_exists, longC, decide_eq_true_eq, not_and] at h2 h1
      refine ⟨by simpa using h1.1, by omega, fun l hl => ?_⟩
      have := h2.2 l hl; omega
theorem take_bd {s : Script} (ok : Okk s) (i : Nat) : ∀ l ∈ s.clients.take i, l.length ≤ 40 := fun l hl => ok.l l (List.mem_of_mem_take hl)
theorem acc_bd2 {s : Script} (ok : Okk s) (i : Nat) : 1 ≤ accC s.cfg 1 (s.clients.take i) ∧ accC s.cfg 1 (s.clients.take i) ≤ 48321 := by
  have h1 := accC_bd s.cfg ok.r (s.clients.take i) 1 (take_bd ok i)
  have h2 : (s.clients.take i).length ≤ 8 := Nat.le_trans (by simp; omega) ok.n
  omega
theorem acc_bd3 {s : Script} (ok : Okk s) (i j : Nat) (hi : i < s.clients.length) : 1 ≤ accO s.cfg (accC s.cfg 1 (s.clients.take i)) (s.clients[i].take j) ∧ accO s.cfg (accC s.cfg 1 (s.clients.take i)) (s.clients[i].take j) ≤ 60000 := by
  have h1 := acc_bd2 ok i
  have h2 := accO_bd s.cfg ok.r (s.clients[i].take j) (accC s.cfg 1 (s.clients.take i))
  have h3 := ok.l s.clients[i] (List.getElem_mem hi)
  have h4 : (s.clients[i].take j).length ≤ 40 := Nat.le_trans (by simp; omega) h3
  omega
def boundN (s : Script) (k : Int) : Int := 8 * k * accC s.cfg 1 s.clients
theorem bound_w {s : Script} (ok : Okk s) (k : Int) (h1 : 1 ≤ k) (h2 : k ≤ 1000) : IntKind.i64.wrap (8 * k) = 8 * k ∧ IntKind.i64.wrap (8 * k * accC s.cfg 1 s.clients) = boundN s k := by
  have h := acc_bd2 ok s.clients.length
  rw [List.take_length] at h
  refine ⟨wrap64_id (by omega) (by omega), ?_⟩
  unfold boundN
  have h3 : 0 * accC s.cfg 1 s.clients ≤ 8 * k * accC s.cfg 1 s.clients := Int.mul_le_mul_of_nonneg_right (by omega) (by omega)
  have h4 : 8 * k * accC s.cfg 1 s.clients ≤ 8000 * accC s.cfg 1 s.clients := Int.mul_le_mul_of_nonneg_right (by omega) (by omega)
  exact wrap64_id (by omega) (by omega)
set_option maxHeartbeats 1000000 in
theorem bound_ref (s : Script) (v w : Value) (k : Int) (h1k : 1 ≤ k) (h2k : k ≤ 1000) (ok : Okk s) {h : Heap} {K : Value → Heap → Prop} (hx : ScriptH h s v w) (hk : ∀ h', Ext h h' → K (.int .i64 (boundN s k)) h') :
    callM P 17 #[.agg (scriptC s.cfg v w).toArray, .int .i64 k] h K := by
  apply c_doormanref23_Bound
  unfold b_doormanref23_Bound
  refine nw_intro fun b h1 hb he1 hc1 => ?_
  have r7 : cel h1 b 7 = some v := by simp [cel, hc1, Value.cells, scriptC]
  refine seq_cut (fun mm t h' => mm = [] ∧ Ext h h' ∧ t 1 = .int .i64 k ∧ t 5 = .int .i64 (accC s.cfg 1 s.clients)) (fun J hJ _ _ => ?_) ?_
  rotate_left
  · rintro mm t h3 ⟨rfl, he3, ht1, ht5⟩
    obtain ⟨w1, w2⟩ := bound_w ok k h1k h2k
    simp only [ht1, ht5, bin_mul, ov_s, w1, w2]
    simpa using hk h3 he3
  refine loop_intro (fun mm t h' => mm = [] ∧ Ext h1 h' ∧ ∃ i : Nat, t 1 = .int .i64 k ∧ t 2 = .pointer (some ⟨b, 0, none⟩) ∧ t 6 = .int .i64 i ∧ i ≤ s.clients.length ∧ t 5 = .int .i64 (accC s.cfg 1 (s.clients.take i)))
    (fun t _ => (s.clients.length - num (t 6)).toNat) ⟨rfl, Ext.refl _, 0, rfl, rfl, rfl, by omega, rfl⟩ ?_
  rintro mm t h2 ⟨rfl, he2, i, ht1, ht2, ht6, hi, ht5⟩
  have hx2 := hx.ext (he1.trans he2)
  simp only [ht2, ht6, faV_p, ov_s, ldV_c, Nat.zero_add, cel_ext he2 r7, hx.cl.len, bin_lss, cd_b]
  refine ⟨fun hc2 => ?_, fun hc2 => ?_⟩
  rotate_left
  · have : ¬ (i : Int) < s.clients.length := by simpa using hc2
    have hi' : i = s.clients.length := by omega
    subst hi'
    rw [List.take_length] at ht5
    simp only [lpM_e, blkM_e, if_true]
    exact hJ _ _ _ ⟨rfl, he1.trans he2, by simp [ht1], by simp [ht5]⟩
  have hlt : i < s.clients.length := by have : (i : Int) < s.clients.length := by simpa using hc2
                                        omega
  obtain ⟨ab, ao, u, hia, hcu, u', hu', hR⟩ := at1 hx2.cl .i64 hlt
  obtain rfl : u = u' := by simpa using hu'
  have hw : IntKind.i64.wrap ((i : Int) + 1) = i + 1 := wrap64_id (by have := ok.n; omega) (by have := ok.n; omega)
  have hli := ok.l s.clients[i] (List.getElem_mem hlt)
  unfold seqM
  refine loop_intro (fun mm q h' => mm = [] ∧ Ext h2 h' ∧ ∃ j : Nat, q 1 = .int .i64 k ∧ q 2 = .pointer (some ⟨b, 0, none⟩) ∧ q 6 = .int .i64 i ∧ q 7 = .int .i64 j ∧ j ≤ s.clients[i].length ∧
      q 5 = .int .i64 (accO s.cfg (accC s.cfg 1 (s.clients.take i)) (s.clients[i].take j)))
    (fun q _ => (s.clients[i].length - num (q 7)).toNat) ⟨rfl, Ext.refl _, 0, ht1, ht2, ht6, rfl, by omega, ht5⟩ ?_
  rintro mm q h3 ⟨rfl, he3, j, hq1, hq2, hq6, hq7, hj, hq5⟩
  simp only [hq2, hq6, hq7, faV_p, ov_s, ldV_c, Nat.zero_add, cel_ext he3 (cel_ext he2 r7), hia, cel_ext he3 hcu, hR.len, bin_lss, cd_b]
  refine ⟨fun hc4 => ?_, fun hc4 => ?_⟩
  · have hjl : j < s.clients[i].length := by have : (j : Int) < s.clients[i].length := by simpa using hc4
                                             omega
    obtain ⟨ob, oo, c, hib, hcs, y, rfl, hy⟩ := atN (hR.ext (@OpR.ext) he3) .i64 hjl
    have hb3 := acc_bd3 ok i j hlt
    have hb4 := acc_bd3 ok i (j + 1) hlt
    have hwk := work_bd s.cfg (s.clients[i][j]).kind ok.r
    have hw2 : IntKind.i64.wrap ((j : Int) + 1) = j + 1 := wrap64_id (by omega) (by omega)
    simp only [hib, ov_s, ldV_n hcs, hq5, bin_add, scriptC_cfg (he3 _ _ (he2 _ _ hc1))]
    refine work_ref _ _ y ok.r fun h4 he4 => ?_
    have hacc := accO_s s.cfg (accC s.cfg 1 (s.clients.take i)) s.clients[i] j hjl
    rw [wrap64_id (by omega) (by omega)]
    simp only [bin_add, ov_s, hw2]
    rw [wrap64_id (by omega) (by omega)]
    simp only [lpM_n]
    refine ⟨⟨trivial, he3.trans he4, j + 1, by simp [hq1], by simp [hq2], by simp [hq6], by simp, by omega, by rw [hacc]; simp; omega⟩, ?_⟩
    simp [hq7]; omega
  · have : ¬ (j : Int) < s.clients[i].length := by simpa using hc4
    have hj' : j = s.clients[i].length := by omega
    subst hj'
    rw [List.take_length] at hq5
    simp only [lpM_e, blkM_e, blkM_n, if_true, eq_self, thenM_n, puts_lk, lk, Nat.reduceEqDiff, if_false, Option.getD_none, Option.getD_some, hq6, bin_add, ov_s, hw, lpM_n]
    refine ⟨⟨trivial, he2.trans he3, i + 1, by simp [hq1], by simp [hq2], by simp, by omega, by rw [accC_s _ _ _ _ hlt]; simp [hq5]⟩, ?_⟩
    simp [ht6]; omega
end Go.Proofs.Ytihdfnhnholooaa

namespace Go.Proofs.Ytihdfnhnholooaa
open Go Go.Den
set_option linter.unusedSimpArgs false
theorem zc40 : ∃ z, zc P 40 = some z ∧ z.size = 7 := by
  have h : (zc P 40).map Array.size = some 7 := by kernel_rfl
  cases hz : zc P 40 with
  | none => rw [hz] at h; cases h
  | some z => rw [hz] at h; exact ⟨z, rfl, by simpa using h⟩
theorem opC_one (x : Op) {v : Value} (hv : v.oneCell' = true) : ∀ u ∈ (Value.agg (opC x v).toArray).cells.toList, u.oneCell' = true := by
  intro u hu
  simp [Value.cells, opC] at hu
  rcases hu with rfl | rfl | rfl | rfl | rfl | rfl | rfl <;> first | rfl | exact hv
theorem Sl.one {α : Type} {sz : Nat} {R : Heap → List Value → α → Prop} {h : Heap} {v : Value} {xs : List α} (x : Sl sz R h v xs) : v.oneCell' = true := by
  rcases x with ⟨rfl, a, c, rfl⟩ | ⟨b, o, cap, rfl, _⟩ <;> rfl
set_option maxHeartbeats 1000000 in
theorem bound_ok (s : Script) (v w : Value) (k : Int) (h1k : 1 ≤ k) (h2k : k ≤ 1000) (ok : Okk s) {h : Heap} {K : Value → Heap → Prop} (hx : ScriptH h s v w) (hk : ∀ h', Ext h h' → K (.int .i64 (boundN s k)) h') :
    callM P 16 #[.agg (scriptC s.cfg v w).toArray, .int .i64 k] h K := by
  apply c_fair_Bound
  unfold b_fair_Bound
  refine nw_intro fun b h1 hb he1 hc1 => ?_
  have r7 : cel h1 b 7 = some v := by simp [cel, hc1, Value.cells, scriptC]
  refine seq_cut (fun mm t h' => mm = [] ∧ Ext h h' ∧ t 1 = .int .i64 k ∧ t 5 = .int .i64 (accC s.cfg 1 s.clients)) (fun J hJ _ _ => ?_) ?_
  rotate_left
  · rintro mm t h3 ⟨rfl, he3, ht1, ht5⟩
    obtain ⟨w1, w2⟩ := bound_w ok k h1k h2k
    simp only [ht1, ht5, bin_mul, ov_s, w1, w2]
    simpa using hk h3 he3
  simp only [faV_p, ov_s, ldV_c, Nat.zero_add, r7, hx.cl.len]
  refine loop_intro (fun mm t h' => mm = [] ∧ Ext h1 h' ∧ ∃ i : Nat, t 1 = .int .i64 k ∧ t 2 = .pointer (some ⟨b, 0, none⟩) ∧ t 11 = v ∧ t 12 = .int .i64 s.clients.length ∧ t 13 = .int .i64 i ∧ i ≤ s.clients.length ∧ t 5 = .int .i64 (accC s.cfg 1 (s.clients.take i)))
    (fun t _ => (s.clients.length - num (t 13)).toNat) ⟨rfl, Ext.refl _, 0, rfl, rfl, rfl, rfl, rfl, by omega, rfl⟩ ?_
  rintro mm t h2 ⟨rfl, he2, i, ht1, ht2, ht11, ht12, ht13, hi, ht5⟩
  have hx2 := hx.ext (he1.trans he2)
  simp only [ht11, ht12, ht13, ov_s, bin_lss, cd_b]
  refine ⟨fun hc2 => ?_, fun hc2 => ?_⟩
  rotate_left
  · have : ¬ (i : Int) < s.clients.length := by simpa using hc2
    have hi' : i = s.clients.length := by omega
    subst hi'
    rw [List.take_length] at ht5
    simp only [lpM_e, blkM_e, if_true]
    exact hJ _ _ _ ⟨rfl, he1.trans he2, by simp [ht1], by simp [ht5]⟩
  have hlt : i < s.clients.length := by have : (i : Int) < s.clients.length := by simpa using hc2
                                        omega
  obtain ⟨ab, ao, u, hia, hcu, u', hu', hR⟩ := at1 hx2.cl .i64 hlt
  obtain rfl : u = u' := by simpa using hu'
  have hw : IntKind.i64.wrap ((i : Int) + 1) = i + 1 := wrap64_id (by have := ok.n; omega) (by have := ok.n; omega)
  have hli := ok.l s.clients[i] (List.getElem_mem hlt)
  unfold seqM
  simp only [hia, ov_s, ldV_c, hcu, hR.len]
  refine loop_intro (fun mm q h' => mm = [] ∧ Ext h2 h' ∧ ∃ j : Nat, q 1 = .int .i64 k ∧ q 2 = .pointer (some ⟨b, 0, none⟩) ∧ q 11 = v ∧ q 12 = .int .i64 s.clients.length ∧ q 13 = .int .i64 i ∧
      q 17 = u ∧ q 18 = .int .i64 s.clients[i].length ∧ q 19 = .int .i64 j ∧ j ≤ s.clients[i].length ∧ q 5 = .int .i64 (accO s.cfg (accC s.cfg 1 (s.clients.take i)) (s.clients[i].take j)))
    (fun q _ => (s.clients[i].length - num (q 19)).toNat) ⟨rfl, Ext.refl _, 0, ht1, ht2, ht11, ht12, ht13, rfl, rfl, rfl, by omega, ht5⟩ ?_
  rintro mm q h3 ⟨rfl, he3, j, hq1, hq2, hq11, hq12, hq13, hq17, hq18, hq19, hj, hq5⟩
  simp only [hq17, hq18, hq19, ov_s, bin_lss, cd_b]
  refine ⟨fun hc4 => ?_, fun hc4 => ?_⟩
  · have hjl : j < s.clients[i].length := by have : (j : Int) < s.clients[i].length := by simpa using hc4
                                             omega
    obtain ⟨ob, oo, c, hib, hcs, y, rfl, hy⟩ := atN (hR.ext (@OpR.ext) he3) .i64 hjl
    have hb3 := acc_bd3 ok i j hlt
    have hb4 := acc_bd3 ok i (j + 1) hlt
    have hwk := work_bd s.cfg (s.clients[i][j]).kind ok.r
    have hw2 : IntKind.i64.wrap ((j : Int) + 1) = j + 1 := wrap64_id (by omega) (by omega)
    obtain ⟨z, hz, hz7⟩ := zc40
    simp only [hib, ov_s, ldV_n hcs, hz]
    refine new_store hz7 rfl (opC_one _ (Sl.one hy)) fun nb h4 hnb he4 hc4 => ?_
    have hcs4 : ldV (some (some 7)) (.pointer (some ⟨nb, 0, none⟩)) h4 = some (.agg (opC s.clients[i][j] y).toArray) := by
      simp [ldV, cels, cel, hc4, Value.cells, opC]
    simp only [hq2, faV_p, ov_s, scriptC_cfg (he4 _ _ (he3 _ _ (he2 _ _ hc1))), Nat.zero_add, hcs4]
    refine work_ok _ _ y ok.r fun h5 he5 => ?_
    have hacc := accO_s s.cfg (accC s.cfg 1 (s.clients.take i)) s.clients[i] j hjl
    simp only [bin_add, ov_s]
    rw [wrap64_id (n := workN s.cfg (s.clients[i][j]).kind + 1) (by omega) (by omega)]
    simp only [hq5, bin_add, ov_s, hw2]
    rw [wrap64_id (by omega) (by omega)]
    simp only [lpM_n]
    refine ⟨⟨trivial, he3.trans (he4.trans he5), j + 1, by simp [hq1], by simp [hq2], by simp [hq11], by simp [hq12], by simp [hq13], by simp [hq17], by simp [hq18], by simp, by omega, by rw [hacc]; simp⟩, ?_⟩
    simp [hq19]; omega
  · have : ¬ (j : Int) < s.clients[i].length := by simpa using hc4
    have hj' : j = s.clients[i].length := by omega
    subst hj'
    rw [List.take_length] at hq5
    simp only [lpM_e, blkM_e, blkM_n, if_true, eq_self, thenM_n, puts_lk, lk, Nat.reduceEqDiff, if_false, Option.getD_none, Option.getD_some, hq13, bin_add, ov_s, hw, lpM_n]
    refine ⟨⟨trivial, he2.trans he3, i + 1, by simp [hq1], by simp [hq2], by simp [hq11], by simp [hq12], by simp, by omega, by rw [accC_s _ _ _ _ hlt]; simp [hq5]⟩, ?_⟩
    simp [ht13]; omega
end Go.Proofs.Ytihdfnhnholooaa

namespace Go.Proofs.Ytihdfnhnholooaa
open Go Go.Den
set_option linter.unusedSimpArgs false
theorem mod1000 {a : Int} (h0 : 0 ≤ a) (h1 : a ≤ 65535) : ∃ n : Int, IntKind.i64.wrap a = a ∧ IntKind.i64.wrap (1 + a.tmod 1000) = n ∧ 1 ≤ n ∧ n ≤ 1000 := by
  have hn := Int.tmod_nonneg 1000 h0
  have h := Int.tmod_lt_of_pos a (show (0 : Int) < 1000 by omega)
  refine ⟨1 + a.tmod 1000, wrap64_id (by omega) (by omega), wrap64_id (by omega) (by omega), by omega, by omega⟩
@[simp] theorem bin_rem1000 (t : Nat) (c : Bool) (k : IntKind) (a : Int) : binV .rem t c (.int k a) (.int k 1000) = some (.int k (a.tmod 1000)) := by simp [binV, intV]
set_option maxHeartbeats 1000000 in
theorem bounds_ok (s : Script) (v w : Value) (a : Int) (x : Op) (y : Value) {h : Heap} {K : Value → Heap → Prop} (ha : 0 ≤ a ∧ a ≤ 65535) (hx : ScriptH h s v w)
    (hk : ∀ h', Ext h h' → K (.bool true) h') : callM P 7 #[.agg (scriptC s.cfg v w).toArray, .int .u16 a, .agg (opC x y).toArray] h K := by
  apply c_doormanlaw23_FairBounds
  unfold b_doormanlaw23_FairBounds
  refine nw_intro fun b h1 hb he1 hc1 => nw_intro fun b' h2 hb' he2 hc2 => ?_
  refine awake_ok fun h3 he3 => ?_
  have he := he1.trans (he2.trans he3)
  have c1 := he3 _ _ (he2 _ _ hc1)
  have c2 := he3 _ _ hc2
  have l9 : ∀ h', Ext h3 h' → ldV (some (some 9)) (.pointer (some ⟨b, 0, none⟩)) h' = some (.agg (scriptC s.cfg v w).toArray) := fun h' e => by
    simp [ldV, cels, cel, e _ _ c1, Value.cells, scriptC]
  have l7 : ∀ h', Ext h3 h' → ldV (some (some 7)) (.pointer (some ⟨b', 0, none⟩)) h' = some (.agg (opC x y).toArray) := fun h' e => by
    simp [ldV, cels, cel, e _ _ c2, Value.cells, opC]
  obtain ⟨n, hn1, hn2, hn3, hn4⟩ := mod1000 ha.1 ha.2
  simp only [unV_n, ov_s, Bool.not_true, isB_b, beq_self_eq_true, gM_t, l9 h3 (Ext.refl _)]
  refine short_script s v w 20000 (hx.ext he) fun h4 he4 => ?_
  simp only [unV_n, ov_s, pkV_f, cd_b]
  refine ⟨fun _ => awake_ok fun h5 he5 => hk _ (he.trans (he4.trans he5)), fun hsh => ?_⟩
  simp only [l9 h4 he4, ov_s]
  refine check_ok s v w (hx.ext (he.trans he4)) fun h5 he5 => ?_
  simp only [bin_neq, ov_s, cd_b]
  refine ⟨fun _ => hk _ (he.trans (he4.trans he5)), fun hck => ?_⟩
  have ok := okk_of s (by simpa using hck)
  have he35 := he4.trans he5
  simp only [cvV_i, hn1, bin_rem1000, ov_s, bin_add, hn2, faV_p, Nat.zero_add, scriptC_cfg (he35 _ _ c1), l7 h5 he35]
  refine work_ok _ _ y ok.r fun h6 he6 => ?_
  have he36 := he35.trans he6
  refine ⟨scriptC_cfg (he36 _ _ c1), l7 h6 he36, ?_⟩
  refine work_ref _ _ y ok.r fun h7 he7 => ?_
  have he37 := he36.trans he7
  simp only [bin_eql, beq_self_eq_true, ov_s, isB_b, gv_t, gM_t, l9 h7 he37]
  refine bound_ok s v w n hn3 hn4 ok (hx.ext (he.trans he37)) fun h8 he8 => ?_
  refine ⟨fun _ => l9 h8 (he37.trans he8), ?_⟩
  refine bound_ref s v w n hn3 hn4 ok (hx.ext (he.trans (he37.trans he8))) fun h9 he9 => ?_
  simp only [bin_eql, beq_self_eq_true, ov_s, pkV_t]
  exact hk h9 (he.trans (he37.trans (he8.trans he9)))
end Go.Proofs.Ytihdfnhnholooaa

namespace Go.Proofs.Ytihdfnhnholooaa
open Go Go.Den
theorem rd40 : Rdr P 40 OpR := fun enc W base spare held fuel cs x h => by
  have hl : cs.length = 7 := (struct_fields (P := P) Try.underlying40 h).1.trans (by kernel_rfl)
  obtain ⟨_, _, h0⟩ := struct_field (P := P) Try.underlying40 h 0 3 0 1 (by kernel_rfl)
  obtain ⟨_, _, h1⟩ := struct_field (P := P) Try.underlying40 h 1 9 1 1 (by kernel_rfl)
  obtain ⟨_, _, h2⟩ := struct_field (P := P) Try.underlying40 h 2 3 2 1 (by kernel_rfl)
  obtain ⟨_, _, h3⟩ := struct_field (P := P) Try.underlying40 h 3 3 3 1 (by kernel_rfl)
  obtain ⟨_, _, h4⟩ := struct_field (P := P) Try.underlying40 h 4 3 4 1 (by kernel_rfl)
  obtain ⟨_, _, h5⟩ := struct_field (P := P) Try.underlying40 h 5 26 5 1 (by kernel_rfl)
  obtain ⟨_, _, h6⟩ := struct_field (P := P) Try.underlying40 h 6 38 6 1 (by kernel_rfl)
  obtain ⟨a, e0, _⟩ := DataW.trod_int Try.underlying3 h0
  obtain ⟨s, e1, _⟩ := Rdr.str (P := P) Try.underlying9 _ _ _ _ _ _ _ _ h1
  obtain ⟨b, e2, _⟩ := DataW.trod_int Try.underlying3 h2
  obtain ⟨c, e3, _⟩ := DataW.trod_int Try.underlying3 h3
  obtain ⟨d, e4, _⟩ := DataW.trod_int Try.underlying3 h4
  obtain ⟨t, e5, _⟩ := DataW.trod_int Try.underlying26 h5
  obtain ⟨u, v, e6, hv⟩ := Rdr.slice (P := P) (sz := 1) Try.underlying38 (by kernel_rfl) (by decide) (Rdr.str (P := P) Try.underlying9) _ _ _ _ _ _ _ _ h6
  match cs, hl with
  | [x0, x1, x2, x3, x4, x5, x6], _ =>
    simp at e0 e1 e2 e3 e4 e5 e6
    exact ⟨⟨a, s, b, c, d, t, u⟩, v, by simp [opC, e0, e1, e2, e3, e4, e5, e6], hv⟩
def CfgR (_ : Heap) (c : List Value) (x : Cfg) : Prop := c = cfgC x
theorem rd34 : Rdr P 34 CfgR := fun enc W base spare held fuel cs x h => by
  have hl : cs.length = 7 := (struct_fields (P := P) Try.underlying34 h).1.trans (by kernel_rfl)
  obtain ⟨_, _, h0⟩ := struct_field (P := P) Try.underlying34 h 0 3 0 1 (by kernel_rfl)
  obtain ⟨_, _, h1⟩ := struct_field (P := P) Try.underlying34 h 1 3 1 1 (by kernel_rfl)
  obtain ⟨_, _, h2⟩ := struct_field (P := P) Try.underlying34 h 2 3 2 1 (by kernel_rfl)
  obtain ⟨_, _, h3⟩ := struct_field (P := P) Try.underlying34 h 3 3 3 1 (by kernel_rfl)
  obtain ⟨_, _, h4⟩ := struct_field (P := P) Try.underlying34 h 4 3 4 1 (by kernel_rfl)
  obtain ⟨_, _, h5⟩ := struct_field (P := P) Try.underlying34 h 5 26 5 1 (by kernel_rfl)
  obtain ⟨_, _, h6⟩ := struct_field (P := P) Try.underlying34 h 6 26 6 1 (by kernel_rfl)
  obtain ⟨a, e0, _⟩ := DataW.trod_int Try.underlying3 h0
  obtain ⟨b, e1, _⟩ := DataW.trod_int Try.underlying3 h1
  obtain ⟨c, e2, _⟩ := DataW.trod_int Try.underlying3 h2
  obtain ⟨d, e3, _⟩ := DataW.trod_int Try.underlying3 h3
  obtain ⟨e, e4, _⟩ := DataW.trod_int Try.underlying3 h4
  obtain ⟨f, e5, _⟩ := DataW.trod_int Try.underlying26 h5
  obtain ⟨g, e6, _⟩ := DataW.trod_int Try.underlying26 h6
  match cs, hl with
  | [x0, x1, x2, x3, x4, x5, x6], _ =>
    simp at e0 e1 e2 e3 e4 e5 e6
    exact ⟨⟨a, b, c, d, e, f, g⟩, by simp [CfgR, cfgC, e0, e1, e2, e3, e4, e5, e6]⟩
def ScriptR (h : Heap) (c : List Value) (s : Script) : Prop := ∃ v w, c = scriptC s.cfg v w ∧ ScriptH h s v w
theorem rd37 : Rdr P 37 ScriptR := fun enc W base spare held fuel cs x h => by
  have hl : cs.length = 9 := (struct_fields (P := P) Try.underlying37 h).1.trans (by kernel_rfl)
  obtain ⟨_, _, h0⟩ := struct_field (P := P) Try.underlying37 h 0 34 0 7 (by kernel_rfl)
  obtain ⟨_, _, h1⟩ := struct_field (P := P) Try.underlying37 h 1 35 7 1 (by kernel_rfl)
  obtain ⟨_, _, h2⟩ := struct_field (P := P) Try.underlying37 h 2 22 8 1 (by kernel_rfl)
  obtain ⟨c, e0⟩ := rd34 _ _ _ _ _ _ _ _ h0
  have rdL : Rdr P 48 ClientR := Rdr.slice (P := P) (sz := 7) Try.underlying48 (by kernel_rfl) (by decide) rd40
  obtain ⟨u, v, e1, hv⟩ := Rdr.slice (P := P) (sz := 1) Try.underlying35 (by kernel_rfl) (by decide) rdL _ _ _ _ _ _ _ _ h1
  obtain ⟨p, w, e2, hw⟩ := Rdr.slice (P := P) (sz := 3) Try.underlying22 (by kernel_rfl) (by decide) rd28 _ _ _ _ _ _ _ _ h2
  match cs, hl with
  | [x0, x1, x2, x3, x4, x5, x6, x7, x8], _ =>
    simp [CfgR, cfgC] at e0 e1 e2
    exact ⟨⟨c, u, p⟩, v, w, by simp [scriptC, e0, e1, e2], hv, hw⟩
theorem bounds_row (s : Script) (a : Int) (x : Op) (b0 b2 : Array Value) {h : Heap} {K : Value → Heap → Prop} (ha : 0 ≤ a ∧ a ≤ 65535) (hs : ScriptR h b0.toList s) (hx : OpR h b2.toList x)
    (hk : ∀ h', Ext h h' → K (.bool true) h') : callM P 7 #[.agg b0, .int .u16 a, .agg b2] h K := by
  obtain ⟨v, w, e, hS⟩ := hs
  obtain ⟨y, e2, _⟩ := hx
  have h0 : b0 = (scriptC s.cfg v w).toArray := by rw [← e]
  have h2 : b2 = (opC x y).toArray := by rw [← e2]
  rw [h0, h2]
  exact bounds_ok s v w a x y ha hS hk
end Go.Proofs.Ytihdfnhnholooaa
