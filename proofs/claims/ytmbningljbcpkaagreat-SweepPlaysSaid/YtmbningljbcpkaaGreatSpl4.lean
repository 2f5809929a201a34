/- Words, plain data and contracts of the Go functions that this claim reaches. No condition beyond the hypotheses that each theorem states. -/
import Derived.Test.YtmbningljbcpkaaGreatSpl3
set_option linter.unusedSimpArgs false
set_option linter.unusedVariables false
namespace Go.Proofs.YtmbningljbcpkaaGreat
open Go Go.Den Go.MapKept
set_option linter.unusedSimpArgs false
set_option linter.unusedVariables false
set_option maxRecDepth 20000
theorem cUnSess:P.underlying qbZ=some (.slice qcZ):=by kernel_rfl
theorem cApSess:apC P qcZ=some (4,32,4):=by kernel_rfl
theorem cBsSess:bsI P qbZ=some (qcZ,4,#[.int .i64 0,.int .i64 0,.int .i64 0,.int .u64 0]):=by kernel_rfl
theorem cZcSess:zc P qcZ=some #[.int .i64 0,.int .i64 0,.int .i64 0,.int .u64 0]:=by kernel_rfl
variable {K:KTy}
theorem cloneESess {v:Value}{n:Nat}{xs:List Value}{h:Heap}(x:SlC 4 h v n xs)(s:Sn v)(h1:∀ u∈xs,u.oneCell'=true)(hn:n<10000000)
  (hk:∀ v' h',Rf 4 qcZ h h' v' n xs→K v' h'):callM P qsZ #[v] h K:=by
 apply qiGZ
 unfold qasZ
 rcases x.nil_or s with ⟨rfl,rfl,rfl⟩ | ⟨a,c,rfl⟩
 ·have e:binV .eql 7 true (.slice none 0 0) (.slice none 0 0)=some (.bool true):=rfl
  simp only[e,ov_s,cd_b,true_implies]
  exact⟨hk _ _ (Rf.nil (Ext.refl h)),fun h=>(by cases h)⟩
 ·have e:binV .eql 7 true (.slice (some a) n c) (.slice none 0 0)=some (.bool false):=rfl
  simp only[e,ov_s,cd_b,true_implies]
  refine⟨fun h=>(by cases h),?_⟩
  unfold qbMZ
  refine bs_none cBsSess fun v2 h2 e2 r2 _ f2=>?_
  have r:Rf 4 qcZ h h2 v2 0 []:=⟨e2,r2,f2,by simp⟩
  have x2:SlC 4 h2 (.slice (some a) n c) n xs:=by
   rcases x with ⟨h1,h2,h3⟩ | ⟨b,o,cap,h1,h2⟩
   ·exact .inl ⟨h1,h2,h3⟩
   ·exact .inr ⟨b,o,cap,h1,cels_ext e2 h2⟩
  refine r.app cUnSess cApSess (by omega) x2 h1 (by unfold maxLen; omega) (by omega) fun v' h' r' _=>hk v' h' ?_
  simpa using r'
theorem insESess {v : Value} {n i a : Nat} {xs : List Value} {x : Array Value} {ex : TypeId} {h0 h : Heap} (r : Rf 4 qcZ h0 h v n xs) (hx : x.size = 4) (ha : h a = some (.cells x ex (0, 0))) (hra : rowOf v ≠ some a) (hi : i ≤ n) (hn : n < 10000000) (h1 : ∀ u ∈ x.toList, u.oneCell' = true)
    (hk : ∀ v' h', Rf 4 qcZ h0 h' v' (n + 1) (xs.take (i * 4) ++ x.toList ++ xs.drop (i * 4)) → (∀ b o, h b = some o → rowOf v ≠ some b → h' b = some o) → K v' h') : callM P qajZ #[v, .int .i64 i, .slice (some ⟨a, 0, none⟩) 1 1] h K := by
  apply qibZ
  unfold qalZ qbFZ
  have hlen : lnV 7 v = some (.int .i64 n) := by rcases r.row.2 with ⟨rfl, rfl⟩ | ⟨_, _, _, rfl, _⟩ <;> rfl
  have hsl : ∃ y, slV (some (none, 4)) v (some (.int .i64 i)) none = some y := by
    have : 0 ≤ (i : Int) ∧ (i : Int) ≤ n := by omega
    rcases r.row.2 with ⟨rfl, rfl⟩ | ⟨_, _, _, rfl, _⟩ <;> simp only [slV, bnd, this, and_self, if_true] <;> exact ⟨_, rfl⟩
  obtain ⟨y, hsl⟩ := hsl
  have e1 : lnV 7 (.slice (some ⟨a, 0, none⟩) 1 1) = some (.int .i64 (1 : Nat)) := rfl
  have e2 : binV .eql 2 true (.int .i64 (1 : Nat)) (.int .i64 0) = some (.bool false) := rfl
  simp only [hsl, hlen, e1, e2, ov_s, cd_b, true_implies]
  refine ⟨fun h => (by cases h), ?_⟩
  have e3 : binV .eql 2 false (.int .i64 (i : Int)) (.int .i64 (n : Int)) = some (.bool (decide (i = n))) := by
    simp [Int.natCast_inj]
  simp only [e3, ov_s, cd_b]
  refine ⟨fun hin => ?_, fun hin => ?_⟩
  · have hin : i = n := by simpa using hin
    subst hin
    refine r.app cUnSess cApSess (by omega) (slc_one ha hx) h1 (by unfold maxLen; omega) (by omega) fun v' h' r' kb' => hk v' h' ?_ kb'
    have hl : xs.length = i * 4 := r.row.1
    rw [List.take_of_length_le (by omega), List.drop_eq_nil_of_le (by omega), List.append_nil]
    exact r'
  have hin : i < n := by have : ¬ i = n := by simpa using hin
                         omega
  obtain ⟨g, cap, cur, rfl, hg0, hg, hcap, hcm, hcs, hct⟩ := r.own (by omega)
  have hga : g ≠ a := fun e => hra (by simp [rowOf, e])
  unfold qbEZ
  have w1 : IntKind.i64.wrap ((n : Int) + (1 : Nat)) = (n + 1 : Nat) := by rw [wrap64_id (by omega) (by omega)]; omega
  have hl : xs.length = n * 4 := r.row.1
  have hmul : n * 4 ≤ cap * 4 := Nat.mul_le_mul_right _ hcap
  simp only [bin_add, w1, ov_s]
  refine cap_vv cUnSess ?_
  unfold qbDZ
  simp only [bin_gtr, ov_s, cd_b]
  have celx : ∀ o m, o + m ≤ n * 4 → cels h g o m = some ((xs.drop o).take m) := fun o m hom => r.row.cels rfl hom
  have one_take : ∀ o m, ∀ u ∈ (xs.drop o).take m, u.oneCell' = true := fun o m u hu => r.one u (List.mem_of_mem_drop (List.mem_of_mem_take hu))
  refine ⟨fun hgr => ?_, fun hgr => ?_⟩
  · -- there is no room
    have hgr : cap < n + 1 := by have : ((cap : Int) < (n + 1 : Nat)) := by simpa using hgr
                                 omega
    have s1 : slV (some (none, 4)) (.slice (some ⟨g, 0, none⟩) n cap) none (some (.int .i64 i)) = some (.slice (some ⟨g, 0, none⟩) i cap) := by
      have : (i : Int) ≤ cap := by omega
      simp [slV, bnd, this, Addr.add_lit, show ¬ cap = 0 by omega]
    have w2 : IntKind.i64.wrap (((n + 1 : Nat) : Int) - i) = (n + 1 - i : Nat) := by rw [wrap64_id (by omega) (by omega)]; omega
    unfold qbzZ
    simp only [s1, bin_sub, bin_add, w1, w2, ov_s]
    have hii : i * 4 ≤ n * 4 := Nat.mul_le_mul_right _ (by omega)
    refine app_zeros (olds := xs.take (i * 4)) cUnSess (show P.underlying qqZ = some (.int .i64) by kernel_rfl) cApSess (by omega) (by have := celx 0 (i * 4) (by omega); simpa using this) (by omega) (by omega) (by unfold maxLen; omega) (by omega) fun b' cap' cur' hb' hc1 hc2 hc3 hc4 => ?_
    have ei : i + (n + 1 - i) = n + 1 := by omega
    rw [ei] at hc1 ⊢
    have hmul' : (n + 1) * 4 ≤ cap' * 4 := Nat.mul_le_mul_right _ hc1
    have hi1 : (i + 1) * 4 ≤ n * 4 := Nat.mul_le_mul_right _ hin
    have s2 : ∀ j : Nat, j ≤ n → slV (some (none, 4)) (.slice (some ⟨b', 0, none⟩) (n + 1) cap') (some (.int .i64 j)) none = some (.slice (some ⟨b', j * 4, none⟩) (n + 1 - j) (cap' - j)) := fun j hj => by
      have : (j : Int) ≤ (n + 1 : Nat) := by omega
      have h2 : ¬ cap' = j := by omega
      have h3 : (j : Int) ≤ (n : Int) + 1 := by omega
      simp [slV, bnd, h3, h2, Addr.add_lit]
    have s3 : slV (some (none, 4)) (.slice (some ⟨g, 0, none⟩) n cap) (some (.int .i64 i)) none = some (.slice (some ⟨g, i * 4, none⟩) (n - i) (cap - i)) := by
      have : (i : Int) ≤ n := by omega
      simp [slV, bnd, this, show ¬ cap = i by omega, Addr.add_lit]
    unfold qbyZ
    simp only [s2 i (by omega), ov_s]
    have hb'a : a ≠ b' := fun e => by subst e; rw [hb'] at ha; cases ha
    have hb'g : g ≠ b' := fun e => by subst e; rw [hb'] at hg; cases hg
    have m1 : min 1 (n + 1 - i) = 1 := by omega
    refine copy_vv cUnSess cApSess (cs := x.toList) (upd_same' _ _ _) ?_ (by rw [m1, hc3]; omega) h1 ?_
    · rw [m1, cels_skip hb'a]
      exact cels_of ha (by rw [List.drop_zero, List.take_of_length_le (by rw [Array.length_toList, hx]; omega)]) (by simpa using hx)
    unfold qbxZ
    have w3 : IntKind.i64.wrap ((i : Int) + (1 : Nat)) = (i + 1 : Nat) := by rw [wrap64_id (by omega) (by omega)]; omega
    simp only [bin_add, w3, s2 (i + 1) (by omega), s3, ov_s, upd_upd]
    have m2 : min (n - i) (n + 1 - (i + 1)) = n - i := by omega
    have e5 : i * 4 + (n - i) * 4 = n * 4 := by rw [← Nat.add_mul]; congr 1; omega
    have e6 : (i + 1) * 4 + (n - i) * 4 = (n + 1) * 4 := by rw [← Nat.add_mul]; congr 1; omega
    refine copy_vv cUnSess cApSess (cs := (xs.drop (i * 4)).take ((n - i) * 4)) (upd_same' _ _ _) ?_ (by rw [m2, over_size, hc3]; omega) (one_take _ _) ?_
    · rw [m2, cels_skip hb'g]
      exact celx _ _ (by omega)
    rw [upd_upd]
    have hb0 : h0 b' = none := fresh_of r.ex hb'
    have hdl : (xs.drop (i * 4)).take ((n - i) * 4) = xs.drop (i * 4) := List.take_of_length_le (by simp [hl] <;> omega)
    refine hk _ _ ⟨ext_upd hb0 r.ex, ⟨by simp [hl, hx] <;> omega, .inr ⟨b', cap', _, rfl, upd_same' _ _ _, hc1, hc2, by simp [over_size, hc3], ?_⟩⟩, fun b hb => by simp [rowOf] at hb; subst hb; exact hb0, fun u hu => ?_⟩ fun b o hb _ => by rw [upd_ne (fun hh => by rw [hh, hb'] at hb; cases hb)]; exact hb
    · rw [hdl]
      have l1 : (xs.drop (i * 4)).length = (n - i) * 4 := by simp [hl] <;> omega
      have cl : cur'.toList.length = cap' * 4 := by simpa using hc3
      rw [over_list (by rw [over_size, hc3, l1]; omega), over_list (by rw [hc3, Array.length_toList, hx]; omega)]
      have x1 : x.toList.length = 4 := by simpa using hx
      have e7 : spl cur'.toList (i * 4) x.toList = xs.take (i * 4) ++ x.toList ++ cur'.toList.drop (i * 4 + 4) := by
        unfold spl; rw [hc4, x1]
      have e8 : (i + 1) * 4 = (xs.take (i * 4) ++ x.toList).length := by simp [hl, hx] <;> omega
      have e9 : (xs.take (i * 4) ++ x.toList ++ xs.drop (i * 4)).length = (n + 1) * 4 := by simp [hl, hx] <;> omega
      rw [e7]
      unfold spl
      rw [e8, List.take_left, List.take_left' e9]
    · simp only [List.mem_append] at hu
      rcases hu with (hu | hu) | hu
      · exact r.one u (List.mem_of_mem_take hu)
      · exact h1 u hu
      · exact r.one u (List.mem_of_mem_drop hu)
  · -- there is room
    have hgr : n + 1 ≤ cap := by have : ¬ ((cap : Int) < (n + 1 : Nat)) := by simpa using hgr
                                 omega
    have hmul' : (n + 1) * 4 ≤ cap * 4 := Nat.mul_le_mul_right _ hgr
    have hi1 : (i + 1) * 4 ≤ n * 4 := Nat.mul_le_mul_right _ hin
    have s1 : slV (some (none, 4)) (.slice (some ⟨g, 0, none⟩) n cap) none (some (.int .i64 (n + 1 : Nat))) = some (.slice (some ⟨g, 0, none⟩) (n + 1) cap) := by
      have : ((n + 1 : Nat) : Int) ≤ cap := by omega
      have h3 : 0 ≤ (n : Int) + 1 ∧ (n : Int) + 1 ≤ cap := by omega
      simp [slV, bnd, h3, Addr.add_lit, show ¬ cap = 0 by omega]
    have w3 : IntKind.i64.wrap ((i : Int) + (1 : Nat)) = (i + 1 : Nat) := by rw [wrap64_id (by omega) (by omega)]; omega
    have s2 : ∀ j : Nat, j ≤ n → slV (some (none, 4)) (.slice (some ⟨g, 0, none⟩) (n + 1) cap) (some (.int .i64 j)) none = some (.slice (some ⟨g, j * 4, none⟩) (n + 1 - j) (cap - j)) := fun j hj => by
      have h2 : ¬ cap = j := by omega
      have h3 : (j : Int) ≤ (n : Int) + 1 := by omega
      simp [slV, bnd, h3, h2, Addr.add_lit]
    unfold qbCZ
    simp only [bin_add, w1, w3, s1, s2 (i + 1) (by omega), ov_s]
    refine overlaps_nx (tS := qbZ) (tR := qugZ) (f := qeSZ) (by kernel_rfl) (by kernel_rfl) (by kernel_rfl) (by kernel_rfl) cUnSess cApSess (Ne.symm hga) ha hg (by rw [hcs]; omega) ?_
    unfold qbBZ
    simp only [unV_n, ov_s, cd_b, Bool.not_false, true_implies]
    refine ⟨?_, fun h => (by cases h)⟩
    unfold qbAZ
    simp only [bin_add, w3, s2 (i + 1) (by omega), s2 i (by omega), ov_s]
    have m2 : min (n + 1 - i) (n + 1 - (i + 1)) = n - i := by omega
    have e5 : i * 4 + (n - i) * 4 = n * 4 := by rw [← Nat.add_mul]; congr 1; omega
    have e6 : (i + 1) * 4 + (n - i) * 4 = (n + 1) * 4 := by rw [← Nat.add_mul]; congr 1; omega
    refine copy_vv cUnSess cApSess (cs := (xs.drop (i * 4)).take ((n - i) * 4)) hg ?_ (by rw [m2, hcs]; omega) (one_take _ _) ?_
    · rw [m2]; exact celx _ _ (by omega)
    try unfold qbvZ
    try simp only [s2 i (by omega), ov_s]
    have m1 : min 1 (n + 1 - i) = 1 := by omega
    refine copy_vv cUnSess cApSess (cs := x.toList) (upd_same' _ _ _) ?_ (by rw [m1, over_size, hcs]; omega) h1 ?_
    · rw [m1, cels_skip (Ne.symm hga)]
      exact cels_of ha (by rw [List.drop_zero, List.take_of_length_le (by rw [Array.length_toList, hx]; omega)]) (by simpa using hx)
    rw [upd_upd]
    have hdl : (xs.drop (i * 4)).take ((n - i) * 4) = xs.drop (i * 4) := List.take_of_length_le (by simp [hl] <;> omega)
    refine hk _ _ ⟨ext_upd hg0 r.ex, ⟨by simp [hl, hx] <;> omega, .inr ⟨g, cap, _, rfl, upd_same' _ _ _, hgr, hcm, by simp [over_size, hcs], ?_⟩⟩, fun b hb => by simp [rowOf] at hb; subst hb; exact hg0, fun u hu => ?_⟩ fun b o hb hn => by rw [upd_ne (fun hh => hn (by rw [hh]; rfl))]; exact hb
    · rw [hdl]
      have l1 : (xs.drop (i * 4)).length = (n - i) * 4 := by simp [hl] <;> omega
      have cl : cur.toList.length = cap * 4 := by simpa using hcs
      have x1 : x.toList.length = 4 := by simpa using hx
      rw [over_list (by rw [over_size, hcs, x1]; omega), over_list (by rw [hcs, l1]; omega)]
      have e10 : cur.toList.take (i * 4) = xs.take (i * 4) := by rw [← hct, List.take_take, Nat.min_eq_left (by omega)]
      exact spl_ins e10 (by rw [x1]; omega) (by omega) (by rw [l1]; omega) (by omega)
    · simp only [List.mem_append] at hu
      rcases hu with (hu | hu) | hu
      · exact r.one u (List.mem_of_mem_take hu)
      · exact h1 u hu
      · exact r.one u (List.mem_of_mem_drop hu)
theorem delESess {v : Value} {n i : Nat} {xs : List Value} {h0 h : Heap} (r : Rf 4 qcZ h0 h v n xs) (hi : i < n) (hn : n < 10000000)
    (hk : ∀ v' h', Rf 4 qcZ h0 h' v' (n - 1) (xs.take (i * 4) ++ xs.drop ((i + 1) * 4)) → K v' h') : callM P qakZ #[v, .int .i64 i, .int .i64 (i + 1 : Nat)] h K := by
  apply qicZ
  unfold qamZ
  obtain ⟨g, cap, cur, rfl, hg0, hg, hcap, hcm, hcs, hct⟩ := r.own (by omega)
  have hl : xs.length = n * 4 := r.row.1
  have hmul : n * 4 ≤ cap * 4 := Nat.mul_le_mul_right _ hcap
  have hi1 : (i + 1) * 4 ≤ n * 4 := Nat.mul_le_mul_right _ hi
  have hlen : lnV 7 (.slice (some ⟨g, 0, none⟩) n cap) = some (.int .i64 n) := rfl
  have s0 : ∃ y, sl3V (some (none, 4)) (.slice (some ⟨g, 0, none⟩) n cap) (some (.int .i64 i)) (.int .i64 (i + 1 : Nat)) (.int .i64 n) = some y := by
    have h1 : (n : Int) ≤ cap := by omega
    have h2 : (0 : Int) ≤ (i : Int) + 1 ∧ (i : Int) + 1 ≤ n := by omega
    have h3 : (i : Int) ≤ (i : Int) + 1 := by omega
    have h4 : i ≤ ((i : Int) + 1).toNat := by omega
    simp [sl3V, bnd, h1, h2, h3]
  obtain ⟨y, s0⟩ := s0
  have e3 : binV .eql 2 false (.int .i64 (i : Int)) (.int .i64 (i + 1 : Nat)) = some (.bool false) := by
    have : ¬ (i : Int) = (i + 1 : Nat) := by omega
    simp [-Int.natCast_add, this]
  simp only [hlen, s0, e3, ov_s, cd_b, true_implies]
  refine ⟨fun h => (by cases h), ?_⟩
  unfold qbHZ
  have s1 : slV (some (none, 4)) (.slice (some ⟨g, 0, none⟩) n cap) none (some (.int .i64 i)) = some (.slice (some ⟨g, 0, none⟩) i cap) := by
    have : (i : Int) ≤ cap := by omega
    simp [slV, bnd, this, Addr.add_lit, show ¬ cap = 0 by omega]
  have s2 : ∃ q, slV (some (none, 4)) (.slice (some ⟨g, 0, none⟩) n cap) (some (.int .i64 (i + 1 : Nat))) none = some (.slice (some ⟨g, q, none⟩) (n - (i + 1)) (cap - (i + 1))) ∧ cels h g q ((n - (i + 1)) * 4) = some (xs.drop ((i + 1) * 4)) := by
    have h3 : (0 : Int) ≤ (i : Int) + 1 ∧ (i : Int) + 1 ≤ n := by omega
    have h4 : ((i : Int) + 1).toNat = i + 1 := by omega
    by_cases hc : cap = i + 1
    · refine ⟨0, by simp [slV, bnd, h3, h4, hc, show n = i + 1 by omega], ?_⟩
      have : n - (i + 1) = 0 := by omega
      rw [this, List.drop_eq_nil_of_le (by rw [hl]; have : n = i + 1 := by omega
                                           subst this; omega)]
      simp [cels]
    · refine ⟨(i + 1) * 4, by simp [slV, bnd, h3, h4, hc, Addr.add_lit], ?_⟩
      have e5 : (i + 1) * 4 + (n - (i + 1)) * 4 = n * 4 := by rw [← Nat.add_mul]; congr 1; omega
      rw [r.row.cels (g := g) rfl (by omega), List.take_of_length_le (by simp [hl] <;> omega)]
  obtain ⟨q, s2, s3⟩ := s2
  simp only [hlen, s1, s2, ov_s]
  have e5 : i * 4 + (n - (i + 1)) * 4 = (n - 1) * 4 := by rw [← Nat.add_mul]; congr 1; omega
  have e6 : (n - 1) * 4 ≤ n * 4 := Nat.mul_le_mul_right _ (by omega)
  refine app_fit cUnSess cApSess hg s3 (by rw [hcs]; omega) (by omega) (fun u hu => r.one u (List.mem_of_mem_drop hu)) ?_
  unfold qbGZ
  have e7 : i + (n - (i + 1)) = n - 1 := by omega
  rw [e7]
  have s4 : slV (some (none, 4)) (.slice (some ⟨g, 0, none⟩) (n - 1) cap) (some (.int .i64 (n - 1 : Nat))) (some (.int .i64 n)) = some (.slice (some ⟨g, (n - 1) * 4, none⟩) (n - (n - 1)) (cap - (n - 1))) := by
    have h1 : (n : Int) ≤ cap := by omega
    have h2 : ((n - 1 : Nat) : Int) ≤ n := by omega
    simp [slV, bnd, h1, h2, show ¬ cap = n - 1 by omega, Addr.add_lit]
  have hlen2 : lnV 7 (.slice (some ⟨g, 0, none⟩) (n - 1) cap) = some (.int .i64 (n - 1 : Nat)) := rfl
  simp only [hlen2, s4, ov_s]
  have l1 : (xs.drop ((i + 1) * 4)).length = (n - (i + 1)) * 4 := by rw [List.length_drop, hl, ← Nat.sub_mul]
  have l2 : (xs.take (i * 4)).length = i * 4 := by rw [List.length_take, hl]; omega
  have e8 : (n - 1) * 4 + (n - (n - 1)) * 4 = n * 4 := by rw [← Nat.add_mul]; congr 1; omega
  have cl : cur.toList.length = cap * 4 := by simpa using hcs
  have e9 : (over cur (0 + i * 4) (xs.drop ((i + 1) * 4))).toList = xs.take (i * 4) ++ xs.drop ((i + 1) * 4) ++ cur.toList.drop (0 + i * 4 + (n - (i + 1)) * 4) := by
    rw [over_list (by rw [hcs, l1]; omega)]
    unfold spl
    rw [l1]
    congr 2
    rw [← hct, List.take_take, Nat.min_eq_left (by omega), Nat.zero_add]
  have e10 : (xs.take (i * 4) ++ xs.drop ((i + 1) * 4)).length = (n - 1) * 4 := by rw [List.length_append, l1, l2, e5]
  refine clear_vv cUnSess cApSess (fun z hz => by rw [cZcSess] at hz; cases hz; rfl) (by omega) (upd_same' _ _ _) (by rw [over_size, hcs]; omega) (fun hz => by omega) fun cs hcs' => ?_
  rw [upd_upd]
  refine hk _ _ ⟨ext_upd hg0 r.ex, ⟨e10, .inr ⟨g, cap, _, rfl, upd_same' _ _ _, by omega, hcm, by simp [over_size, hcs], ?_⟩⟩, fun b hb => by simp [rowOf] at hb; subst hb; exact hg0, fun u hu => ?_⟩
  · rw [over_list (by rw [over_size, hcs, hcs']; omega), e9]
    unfold spl
    rw [List.append_assoc ((xs.take (i * 4) ++ xs.drop ((i + 1) * 4) ++ _).take _), List.take_append_of_le_length (by rw [List.length_take]; simp only [List.length_append, List.length_drop, l1, l2, cl]; omega), List.take_take, Nat.min_self]
    exact List.take_left' e10
  · simp only [List.mem_append] at hu
    rcases hu with hu | hu
    · exact r.one u (List.mem_of_mem_take hu)
    · exact r.one u (List.mem_of_mem_drop hu)
theorem cUnStr:P.underlying qkZ=some (.slice qcSZ):=by kernel_rfl
theorem cApStr:apC P qcSZ=some (1,16,1):=by kernel_rfl
theorem cBsStr:bsI P qkZ=some (qcSZ,1,#[.string ⟨#[]⟩]):=by kernel_rfl
theorem cZcStr:zc P qcSZ=some #[.string ⟨#[]⟩]:=by kernel_rfl
theorem cloneEStr {v:Value}{n:Nat}{xs:List Value}{h:Heap}(x:SlC 1 h v n xs)(s:Sn v)(h1:∀ u∈xs,u.oneCell'=true)(hn:n<10000000)
  (hk:∀ v' h',Rf 1 qcSZ h h' v' n xs→K v' h'):callM P qvZ #[v] h K:=by
 apply qoJZ
 unfold qcyZ
 rcases x.nil_or s with ⟨rfl,rfl,rfl⟩ | ⟨a,c,rfl⟩
 ·have e:binV .eql 7 true (.slice none 0 0) (.slice none 0 0)=some (.bool true):=rfl
  simp only[e,ov_s,cd_b,true_implies]
  exact⟨hk _ _ (Rf.nil (Ext.refl h)),fun h=>(by cases h)⟩
 ·have e:binV .eql 7 true (.slice (some a) n c) (.slice none 0 0)=some (.bool false):=rfl
  simp only[e,ov_s,cd_b,true_implies]
  refine⟨fun h=>(by cases h),?_⟩

  refine bs_none cBsStr fun v2 h2 e2 r2 _ f2=>?_
  have r:Rf 1 qcSZ h h2 v2 0 []:=⟨e2,r2,f2,by simp⟩
  have x2:SlC 1 h2 (.slice (some a) n c) n xs:=by
   rcases x with ⟨h1,h2,h3⟩ | ⟨b,o,cap,h1,h2⟩
   ·exact .inl ⟨h1,h2,h3⟩
   ·exact .inr ⟨b,o,cap,h1,cels_ext e2 h2⟩
  refine r.app cUnStr cApStr (by omega) x2 h1 (by unfold maxLen; omega) (by omega) fun v' h' r' _=>hk v' h' ?_
  simpa using r'
theorem insEStr {v : Value} {n i a : Nat} {xs : List Value} {x : Array Value} {ex : TypeId} {h0 h : Heap} (r : Rf 1 qcSZ h0 h v n xs) (hx : x.size = 1) (ha : h a = some (.cells x ex (0, 0))) (hra : rowOf v ≠ some a) (hi : i ≤ n) (hn : n < 10000000) (h1 : ∀ u ∈ x.toList, u.oneCell' = true)
    (hk : ∀ v' h', Rf 1 qcSZ h0 h' v' (n + 1) (xs.take (i * 1) ++ x.toList ++ xs.drop (i * 1)) → (∀ b o, h b = some o → rowOf v ≠ some b → h' b = some o) → K v' h') : callM P qnZ #[v, .int .i64 i, .slice (some ⟨a, 0, none⟩) 1 1] h K := by
  apply qnxZ
  unfold qcgZ qeEZ
  have hlen : lnV 7 v = some (.int .i64 n) := by rcases r.row.2 with ⟨rfl, rfl⟩ | ⟨_, _, _, rfl, _⟩ <;> rfl
  have hsl : ∃ y, slV (some (none, 1)) v (some (.int .i64 i)) none = some y := by
    have : 0 ≤ (i : Int) ∧ (i : Int) ≤ n := by omega
    rcases r.row.2 with ⟨rfl, rfl⟩ | ⟨_, _, _, rfl, _⟩ <;> simp only [slV, bnd, this, and_self, if_true] <;> exact ⟨_, rfl⟩
  obtain ⟨y, hsl⟩ := hsl
  have e1 : lnV 7 (.slice (some ⟨a, 0, none⟩) 1 1) = some (.int .i64 (1 : Nat)) := rfl
  have e2 : binV .eql 2 true (.int .i64 (1 : Nat)) (.int .i64 0) = some (.bool false) := rfl
  simp only [hsl, hlen, e1, e2, ov_s, cd_b, true_implies]
  refine ⟨fun h => (by cases h), ?_⟩
  have e3 : binV .eql 2 false (.int .i64 (i : Int)) (.int .i64 (n : Int)) = some (.bool (decide (i = n))) := by
    simp [Int.natCast_inj]
  simp only [e3, ov_s, cd_b]
  refine ⟨fun hin => ?_, fun hin => ?_⟩
  · have hin : i = n := by simpa using hin
    subst hin
    refine r.app cUnStr cApStr (by omega) (slc_one ha hx) h1 (by unfold maxLen; omega) (by omega) fun v' h' r' kb' => hk v' h' ?_ kb'
    have hl : xs.length = i * 1 := r.row.1
    rw [List.take_of_length_le (by omega), List.drop_eq_nil_of_le (by omega), List.append_nil]
    exact r'
  have hin : i < n := by have : ¬ i = n := by simpa using hin
                         omega
  obtain ⟨g, cap, cur, rfl, hg0, hg, hcap, hcm, hcs, hct⟩ := r.own (by omega)
  have hga : g ≠ a := fun e => hra (by simp [rowOf, e])
  unfold qeDZ
  have w1 : IntKind.i64.wrap ((n : Int) + (1 : Nat)) = (n + 1 : Nat) := by rw [wrap64_id (by omega) (by omega)]; omega
  have hl : xs.length = n * 1 := r.row.1
  have hmul : n * 1 ≤ cap * 1 := Nat.mul_le_mul_right _ hcap
  simp only [bin_add, w1, ov_s]
  refine cap_vv cUnStr ?_
  unfold qeCZ
  simp only [bin_gtr, ov_s, cd_b]
  have celx : ∀ o m, o + m ≤ n * 1 → cels h g o m = some ((xs.drop o).take m) := fun o m hom => r.row.cels rfl hom
  have one_take : ∀ o m, ∀ u ∈ (xs.drop o).take m, u.oneCell' = true := fun o m u hu => r.one u (List.mem_of_mem_drop (List.mem_of_mem_take hu))
  refine ⟨fun hgr => ?_, fun hgr => ?_⟩
  · -- there is no room
    have hgr : cap < n + 1 := by have : ((cap : Int) < (n + 1 : Nat)) := by simpa using hgr
                                 omega
    have s1 : slV (some (none, 1)) (.slice (some ⟨g, 0, none⟩) n cap) none (some (.int .i64 i)) = some (.slice (some ⟨g, 0, none⟩) i cap) := by
      have : (i : Int) ≤ cap := by omega
      simp [slV, bnd, this, Addr.add_lit, show ¬ cap = 0 by omega]
    have w2 : IntKind.i64.wrap (((n + 1 : Nat) : Int) - i) = (n + 1 - i : Nat) := by rw [wrap64_id (by omega) (by omega)]; omega
    unfold qeyZ
    simp only [s1, bin_sub, bin_add, w1, w2, ov_s]
    have hii : i * 1 ≤ n * 1 := Nat.mul_le_mul_right _ (by omega)
    refine app_zeros (olds := xs.take (i * 1)) cUnStr (show P.underlying qqZ = some (.int .i64) by kernel_rfl) cApStr (by omega) (by have := celx 0 (i * 1) (by omega); simpa using this) (by omega) (by omega) (by unfold maxLen; omega) (by omega) fun b' cap' cur' hb' hc1 hc2 hc3 hc4 => ?_
    have ei : i + (n + 1 - i) = n + 1 := by omega
    rw [ei] at hc1 ⊢
    have hmul' : (n + 1) * 1 ≤ cap' * 1 := Nat.mul_le_mul_right _ hc1
    have hi1 : (i + 1) * 1 ≤ n * 1 := Nat.mul_le_mul_right _ hin
    have s2 : ∀ j : Nat, j ≤ n → slV (some (none, 1)) (.slice (some ⟨b', 0, none⟩) (n + 1) cap') (some (.int .i64 j)) none = some (.slice (some ⟨b', j * 1, none⟩) (n + 1 - j) (cap' - j)) := fun j hj => by
      have : (j : Int) ≤ (n + 1 : Nat) := by omega
      have h2 : ¬ cap' = j := by omega
      have h3 : (j : Int) ≤ (n : Int) + 1 := by omega
      simp [slV, bnd, h3, h2, Addr.add_lit]
    have s3 : slV (some (none, 1)) (.slice (some ⟨g, 0, none⟩) n cap) (some (.int .i64 i)) none = some (.slice (some ⟨g, i * 1, none⟩) (n - i) (cap - i)) := by
      have : (i : Int) ≤ n := by omega
      simp [slV, bnd, this, show ¬ cap = i by omega, Addr.add_lit]
    unfold qexZ
    simp only [s2 i (by omega), ov_s]
    have hb'a : a ≠ b' := fun e => by subst e; rw [hb'] at ha; cases ha
    have hb'g : g ≠ b' := fun e => by subst e; rw [hb'] at hg; cases hg
    have m1 : min 1 (n + 1 - i) = 1 := by omega
    refine copy_vv cUnStr cApStr (cs := x.toList) (upd_same' _ _ _) ?_ (by rw [m1, hc3]; omega) h1 ?_
    · rw [m1, cels_skip hb'a]
      exact cels_of ha (by rw [List.drop_zero, List.take_of_length_le (by rw [Array.length_toList, hx]; omega)]) (by simpa using hx)
    unfold qewZ
    have w3 : IntKind.i64.wrap ((i : Int) + (1 : Nat)) = (i + 1 : Nat) := by rw [wrap64_id (by omega) (by omega)]; omega
    simp only [bin_add, w3, s2 (i + 1) (by omega), s3, ov_s, upd_upd]
    have m2 : min (n - i) (n + 1 - (i + 1)) = n - i := by omega
    have e5 : i * 1 + (n - i) * 1 = n * 1 := by rw [← Nat.add_mul]; congr 1; omega
    have e6 : (i + 1) * 1 + (n - i) * 1 = (n + 1) * 1 := by rw [← Nat.add_mul]; congr 1; omega
    refine copy_vv cUnStr cApStr (cs := (xs.drop (i * 1)).take ((n - i) * 1)) (upd_same' _ _ _) ?_ (by rw [m2, over_size, hc3]; omega) (one_take _ _) ?_
    · rw [m2, cels_skip hb'g]
      exact celx _ _ (by omega)
    rw [upd_upd]
    have hb0 : h0 b' = none := fresh_of r.ex hb'
    have hdl : (xs.drop (i * 1)).take ((n - i) * 1) = xs.drop (i * 1) := List.take_of_length_le (by simp [hl] <;> omega)
    refine hk _ _ ⟨ext_upd hb0 r.ex, ⟨by simp [hl, hx] <;> omega, .inr ⟨b', cap', _, rfl, upd_same' _ _ _, hc1, hc2, by simp [over_size, hc3], ?_⟩⟩, fun b hb => by simp [rowOf] at hb; subst hb; exact hb0, fun u hu => ?_⟩ fun b o hb _ => by rw [upd_ne (fun hh => by rw [hh, hb'] at hb; cases hb)]; exact hb
    · rw [hdl]
      have l1 : (xs.drop (i * 1)).length = (n - i) * 1 := by simp [hl] <;> omega
      have cl : cur'.toList.length = cap' * 1 := by simpa using hc3
      rw [over_list (by rw [over_size, hc3, l1]; omega), over_list (by rw [hc3, Array.length_toList, hx]; omega)]
      have x1 : x.toList.length = 1 := by simpa using hx
      have e7 : spl cur'.toList (i * 1) x.toList = xs.take (i * 1) ++ x.toList ++ cur'.toList.drop (i * 1 + 1) := by
        unfold spl; rw [hc4, x1]
      have e8 : (i + 1) * 1 = (xs.take (i * 1) ++ x.toList).length := by simp [hl, hx] <;> omega
      have e9 : (xs.take (i * 1) ++ x.toList ++ xs.drop (i * 1)).length = (n + 1) * 1 := by simp [hl, hx] <;> omega
      rw [e7]
      unfold spl
      rw [e8, List.take_left, List.take_left' e9]
    · simp only [List.mem_append] at hu
      rcases hu with (hu | hu) | hu
      · exact r.one u (List.mem_of_mem_take hu)
      · exact h1 u hu
      · exact r.one u (List.mem_of_mem_drop hu)
  · -- there is room
    have hgr : n + 1 ≤ cap := by have : ¬ ((cap : Int) < (n + 1 : Nat)) := by simpa using hgr
                                 omega
    have hmul' : (n + 1) * 1 ≤ cap * 1 := Nat.mul_le_mul_right _ hgr
    have hi1 : (i + 1) * 1 ≤ n * 1 := Nat.mul_le_mul_right _ hin
    have s1 : slV (some (none, 1)) (.slice (some ⟨g, 0, none⟩) n cap) none (some (.int .i64 (n + 1 : Nat))) = some (.slice (some ⟨g, 0, none⟩) (n + 1) cap) := by
      have : ((n + 1 : Nat) : Int) ≤ cap := by omega
      have h3 : 0 ≤ (n : Int) + 1 ∧ (n : Int) + 1 ≤ cap := by omega
      simp [slV, bnd, h3, Addr.add_lit, show ¬ cap = 0 by omega]
    have w3 : IntKind.i64.wrap ((i : Int) + (1 : Nat)) = (i + 1 : Nat) := by rw [wrap64_id (by omega) (by omega)]; omega
    have s2 : ∀ j : Nat, j ≤ n → slV (some (none, 1)) (.slice (some ⟨g, 0, none⟩) (n + 1) cap) (some (.int .i64 j)) none = some (.slice (some ⟨g, j * 1, none⟩) (n + 1 - j) (cap - j)) := fun j hj => by
      have h2 : ¬ cap = j := by omega
      have h3 : (j : Int) ≤ (n : Int) + 1 := by omega
      simp [slV, bnd, h3, h2, Addr.add_lit]
    unfold qeBZ
    simp only [bin_add, w1, w3, s1, s2 (i + 1) (by omega), ov_s]
    refine overlaps_nx (tS := qkZ) (tR := qugZ) (f := qiHZ) (by kernel_rfl) (by kernel_rfl) (by kernel_rfl) (by kernel_rfl) cUnStr cApStr (Ne.symm hga) ha hg (by rw [hcs]; omega) ?_
    unfold qeAZ
    simp only [unV_n, ov_s, cd_b, Bool.not_false, true_implies]
    refine ⟨?_, fun h => (by cases h)⟩
    unfold qezZ
    simp only [bin_add, w3, s2 (i + 1) (by omega), s2 i (by omega), ov_s]
    have m2 : min (n + 1 - i) (n + 1 - (i + 1)) = n - i := by omega
    have e5 : i * 1 + (n - i) * 1 = n * 1 := by rw [← Nat.add_mul]; congr 1; omega
    have e6 : (i + 1) * 1 + (n - i) * 1 = (n + 1) * 1 := by rw [← Nat.add_mul]; congr 1; omega
    refine copy_vv cUnStr cApStr (cs := (xs.drop (i * 1)).take ((n - i) * 1)) hg ?_ (by rw [m2, hcs]; omega) (one_take _ _) ?_
    · rw [m2]; exact celx _ _ (by omega)
    try unfold qetZ
    try simp only [s2 i (by omega), ov_s]
    have m1 : min 1 (n + 1 - i) = 1 := by omega
    refine copy_vv cUnStr cApStr (cs := x.toList) (upd_same' _ _ _) ?_ (by rw [m1, over_size, hcs]; omega) h1 ?_
    · rw [m1, cels_skip (Ne.symm hga)]
      exact cels_of ha (by rw [List.drop_zero, List.take_of_length_le (by rw [Array.length_toList, hx]; omega)]) (by simpa using hx)
    rw [upd_upd]
    have hdl : (xs.drop (i * 1)).take ((n - i) * 1) = xs.drop (i * 1) := List.take_of_length_le (by simp [hl] <;> omega)
    refine hk _ _ ⟨ext_upd hg0 r.ex, ⟨by simp [hl, hx] <;> omega, .inr ⟨g, cap, _, rfl, upd_same' _ _ _, hgr, hcm, by simp [over_size, hcs], ?_⟩⟩, fun b hb => by simp [rowOf] at hb; subst hb; exact hg0, fun u hu => ?_⟩ fun b o hb hn => by rw [upd_ne (fun hh => hn (by rw [hh]; rfl))]; exact hb
    · rw [hdl]
      have l1 : (xs.drop (i * 1)).length = (n - i) * 1 := by simp [hl] <;> omega
      have cl : cur.toList.length = cap * 1 := by simpa using hcs
      have x1 : x.toList.length = 1 := by simpa using hx
      rw [over_list (by rw [over_size, hcs, x1]; omega), over_list (by rw [hcs, l1]; omega)]
      have e10 : cur.toList.take (i * 1) = xs.take (i * 1) := by rw [← hct, List.take_take, Nat.min_eq_left (by omega)]
      exact spl_ins e10 (by rw [x1]; omega) (by omega) (by rw [l1]; omega) (by omega)
    · simp only [List.mem_append] at hu
      rcases hu with (hu | hu) | hu
      · exact r.one u (List.mem_of_mem_take hu)
      · exact h1 u hu
      · exact r.one u (List.mem_of_mem_drop hu)
theorem delEStr {v : Value} {n i : Nat} {xs : List Value} {h0 h : Heap} (r : Rf 1 qcSZ h0 h v n xs) (hi : i < n) (hn : n < 10000000)
    (hk : ∀ v' h', Rf 1 qcSZ h0 h' v' (n - 1) (xs.take (i * 1) ++ xs.drop ((i + 1) * 1)) → K v' h') : callM P qbKZ #[v, .int .i64 i, .int .i64 (i + 1 : Nat)] h K := by
  apply qnyZ
  unfold qchZ
  obtain ⟨g, cap, cur, rfl, hg0, hg, hcap, hcm, hcs, hct⟩ := r.own (by omega)
  have hl : xs.length = n * 1 := r.row.1
  have hmul : n * 1 ≤ cap * 1 := Nat.mul_le_mul_right _ hcap
  have hi1 : (i + 1) * 1 ≤ n * 1 := Nat.mul_le_mul_right _ hi
  have hlen : lnV 7 (.slice (some ⟨g, 0, none⟩) n cap) = some (.int .i64 n) := rfl
  have s0 : ∃ y, sl3V (some (none, 1)) (.slice (some ⟨g, 0, none⟩) n cap) (some (.int .i64 i)) (.int .i64 (i + 1 : Nat)) (.int .i64 n) = some y := by
    have h1 : (n : Int) ≤ cap := by omega
    have h2 : (0 : Int) ≤ (i : Int) + 1 ∧ (i : Int) + 1 ≤ n := by omega
    have h3 : (i : Int) ≤ (i : Int) + 1 := by omega
    have h4 : i ≤ ((i : Int) + 1).toNat := by omega
    simp [sl3V, bnd, h1, h2, h3]
  obtain ⟨y, s0⟩ := s0
  have e3 : binV .eql 2 false (.int .i64 (i : Int)) (.int .i64 (i + 1 : Nat)) = some (.bool false) := by
    have : ¬ (i : Int) = (i + 1 : Nat) := by omega
    simp [-Int.natCast_add, this]
  simp only [hlen, s0, e3, ov_s, cd_b, true_implies]
  refine ⟨fun h => (by cases h), ?_⟩
  unfold qeGZ
  have s1 : slV (some (none, 1)) (.slice (some ⟨g, 0, none⟩) n cap) none (some (.int .i64 i)) = some (.slice (some ⟨g, 0, none⟩) i cap) := by
    have : (i : Int) ≤ cap := by omega
    simp [slV, bnd, this, Addr.add_lit, show ¬ cap = 0 by omega]
  have s2 : ∃ q, slV (some (none, 1)) (.slice (some ⟨g, 0, none⟩) n cap) (some (.int .i64 (i + 1 : Nat))) none = some (.slice (some ⟨g, q, none⟩) (n - (i + 1)) (cap - (i + 1))) ∧ cels h g q ((n - (i + 1)) * 1) = some (xs.drop ((i + 1) * 1)) := by
    have h3 : (0 : Int) ≤ (i : Int) + 1 ∧ (i : Int) + 1 ≤ n := by omega
    have h4 : ((i : Int) + 1).toNat = i + 1 := by omega
    by_cases hc : cap = i + 1
    · refine ⟨0, by simp [slV, bnd, h3, h4, hc, show n = i + 1 by omega], ?_⟩
      have : n - (i + 1) = 0 := by omega
      rw [this, List.drop_eq_nil_of_le (by rw [hl]; have : n = i + 1 := by omega
                                           subst this; omega)]
      simp [cels]
    · refine ⟨(i + 1) * 1, by simp [slV, bnd, h3, h4, hc, Addr.add_lit], ?_⟩
      have e5 : (i + 1) * 1 + (n - (i + 1)) * 1 = n * 1 := by rw [← Nat.add_mul]; congr 1; omega
      rw [r.row.cels (g := g) rfl (by omega), List.take_of_length_le (by simp [hl] <;> omega)]
  obtain ⟨q, s2, s3⟩ := s2
  simp only [hlen, s1, s2, ov_s]
  have e5 : i * 1 + (n - (i + 1)) * 1 = (n - 1) * 1 := by rw [← Nat.add_mul]; congr 1; omega
  have e6 : (n - 1) * 1 ≤ n * 1 := Nat.mul_le_mul_right _ (by omega)
  refine app_fit cUnStr cApStr hg s3 (by rw [hcs]; omega) (by omega) (fun u hu => r.one u (List.mem_of_mem_drop hu)) ?_
  unfold qeFZ
  have e7 : i + (n - (i + 1)) = n - 1 := by omega
  rw [e7]
  have s4 : slV (some (none, 1)) (.slice (some ⟨g, 0, none⟩) (n - 1) cap) (some (.int .i64 (n - 1 : Nat))) (some (.int .i64 n)) = some (.slice (some ⟨g, (n - 1) * 1, none⟩) (n - (n - 1)) (cap - (n - 1))) := by
    have h1 : (n : Int) ≤ cap := by omega
    have h2 : ((n - 1 : Nat) : Int) ≤ n := by omega
    simp [slV, bnd, h1, h2, show ¬ cap = n - 1 by omega, Addr.add_lit]
  have hlen2 : lnV 7 (.slice (some ⟨g, 0, none⟩) (n - 1) cap) = some (.int .i64 (n - 1 : Nat)) := rfl
  simp only [hlen2, s4, ov_s]
  have l1 : (xs.drop ((i + 1) * 1)).length = (n - (i + 1)) * 1 := by rw [List.length_drop, hl, ← Nat.sub_mul]
  have l2 : (xs.take (i * 1)).length = i * 1 := by rw [List.length_take, hl]; omega
  have e8 : (n - 1) * 1 + (n - (n - 1)) * 1 = n * 1 := by rw [← Nat.add_mul]; congr 1; omega
  have cl : cur.toList.length = cap * 1 := by simpa using hcs
  have e9 : (over cur (0 + i * 1) (xs.drop ((i + 1) * 1))).toList = xs.take (i * 1) ++ xs.drop ((i + 1) * 1) ++ cur.toList.drop (0 + i * 1 + (n - (i + 1)) * 1) := by
    rw [over_list (by rw [hcs, l1]; omega)]
    unfold spl
    rw [l1]
    congr 2
    rw [← hct, List.take_take, Nat.min_eq_left (by omega), Nat.zero_add]
  have e10 : (xs.take (i * 1) ++ xs.drop ((i + 1) * 1)).length = (n - 1) * 1 := by rw [List.length_append, l1, l2, e5]
  refine clear_vv cUnStr cApStr (fun z hz => by rw [cZcStr] at hz; cases hz; rfl) (by omega) (upd_same' _ _ _) (by rw [over_size, hcs]; omega) (fun hz => by omega) fun cs hcs' => ?_
  rw [upd_upd]
  refine hk _ _ ⟨ext_upd hg0 r.ex, ⟨e10, .inr ⟨g, cap, _, rfl, upd_same' _ _ _, by omega, hcm, by simp [over_size, hcs], ?_⟩⟩, fun b hb => by simp [rowOf] at hb; subst hb; exact hg0, fun u hu => ?_⟩
  · rw [over_list (by rw [over_size, hcs, hcs']; omega), e9]
    unfold spl
    rw [List.append_assoc ((xs.take (i * 1) ++ xs.drop ((i + 1) * 1) ++ _).take _), List.take_append_of_le_length (by rw [List.length_take]; simp only [List.length_append, List.length_drop, l1, l2, cl]; omega), List.take_take, Nat.min_self]
    exact List.take_left' e10
  · simp only [List.mem_append] at hu
    rcases hu with hu | hu
    · exact r.one u (List.mem_of_mem_take hu)
    · exact r.one u (List.mem_of_mem_drop hu)
theorem cUnEnt:P.underlying qeZ=some (.slice qjZ):=by kernel_rfl
theorem cApEnt:apC P qjZ=some (4,48,4):=by kernel_rfl
theorem cBsEnt:bsI P qeZ=some (qjZ,4,#[.slice none 0 0,.int .i64 0,.int .i64 0,.int .i64 0]):=by kernel_rfl
theorem cZcEnt:zc P qjZ=some #[.slice none 0 0,.int .i64 0,.int .i64 0,.int .i64 0]:=by kernel_rfl
theorem cloneEEnt {v:Value}{n:Nat}{xs:List Value}{h:Heap}(x:SlC 4 h v n xs)(s:Sn v)(h1:∀ u∈xs,u.oneCell'=true)(hn:n<10000000)
  (hk:∀ v' h',Rf 4 qjZ h h' v' n xs→K v' h'):callM P qdZ #[v] h K:=by
 apply qjDZ
 unfold qaHZ
 rcases x.nil_or s with ⟨rfl,rfl,rfl⟩ | ⟨a,c,rfl⟩
 ·have e:binV .eql 7 true (.slice none 0 0) (.slice none 0 0)=some (.bool true):=rfl
  simp only[e,ov_s,cd_b,true_implies]
  exact⟨hk _ _ (Rf.nil (Ext.refl h)),fun h=>(by cases h)⟩
 ·have e:binV .eql 7 true (.slice (some a) n c) (.slice none 0 0)=some (.bool false):=rfl
  simp only[e,ov_s,cd_b,true_implies]
  refine⟨fun h=>(by cases h),?_⟩
  unfold qcrZ
  refine bs_none cBsEnt fun v2 h2 e2 r2 _ f2=>?_
  have r:Rf 4 qjZ h h2 v2 0 []:=⟨e2,r2,f2,by simp⟩
  have x2:SlC 4 h2 (.slice (some a) n c) n xs:=by
   rcases x with ⟨h1,h2,h3⟩ | ⟨b,o,cap,h1,h2⟩
   ·exact .inl ⟨h1,h2,h3⟩
   ·exact .inr ⟨b,o,cap,h1,cels_ext e2 h2⟩
  refine r.app cUnEnt cApEnt (by omega) x2 h1 (by unfold maxLen; omega) (by omega) fun v' h' r' _=>hk v' h' ?_
  simpa using r'
theorem insEEnt {v : Value} {n i a : Nat} {xs : List Value} {x : Array Value} {ex : TypeId} {h0 h : Heap} (r : Rf 4 qjZ h0 h v n xs) (hx : x.size = 4) (ha : h a = some (.cells x ex (0, 0))) (hra : rowOf v ≠ some a) (hi : i ≤ n) (hn : n < 10000000) (h1 : ∀ u ∈ x.toList, u.oneCell' = true)
    (hk : ∀ v' h', Rf 4 qjZ h0 h' v' (n + 1) (xs.take (i * 4) ++ x.toList ++ xs.drop (i * 4)) → (∀ b o, h b = some o → rowOf v ≠ some b → h' b = some o) → K v' h') : callM P qgZ #[v, .int .i64 i, .slice (some ⟨a, 0, none⟩) 1 1] h K := by
  apply qiSZ
  unfold qayZ qccZ
  have hlen : lnV 7 v = some (.int .i64 n) := by rcases r.row.2 with ⟨rfl, rfl⟩ | ⟨_, _, _, rfl, _⟩ <;> rfl
  have hsl : ∃ y, slV (some (none, 4)) v (some (.int .i64 i)) none = some y := by
    have : 0 ≤ (i : Int) ∧ (i : Int) ≤ n := by omega
    rcases r.row.2 with ⟨rfl, rfl⟩ | ⟨_, _, _, rfl, _⟩ <;> simp only [slV, bnd, this, and_self, if_true] <;> exact ⟨_, rfl⟩
  obtain ⟨y, hsl⟩ := hsl
  have e1 : lnV 7 (.slice (some ⟨a, 0, none⟩) 1 1) = some (.int .i64 (1 : Nat)) := rfl
  have e2 : binV .eql 2 true (.int .i64 (1 : Nat)) (.int .i64 0) = some (.bool false) := rfl
  simp only [hsl, hlen, e1, e2, ov_s, cd_b, true_implies]
  refine ⟨fun h => (by cases h), ?_⟩
  have e3 : binV .eql 2 false (.int .i64 (i : Int)) (.int .i64 (n : Int)) = some (.bool (decide (i = n))) := by
    simp [Int.natCast_inj]
  simp only [e3, ov_s, cd_b]
  refine ⟨fun hin => ?_, fun hin => ?_⟩
  · have hin : i = n := by simpa using hin
    subst hin
    refine r.app cUnEnt cApEnt (by omega) (slc_one ha hx) h1 (by unfold maxLen; omega) (by omega) fun v' h' r' kb' => hk v' h' ?_ kb'
    have hl : xs.length = i * 4 := r.row.1
    rw [List.take_of_length_le (by omega), List.drop_eq_nil_of_le (by omega), List.append_nil]
    exact r'
  have hin : i < n := by have : ¬ i = n := by simpa using hin
                         omega
  obtain ⟨g, cap, cur, rfl, hg0, hg, hcap, hcm, hcs, hct⟩ := r.own (by omega)
  have hga : g ≠ a := fun e => hra (by simp [rowOf, e])
  unfold qcbZ
  have w1 : IntKind.i64.wrap ((n : Int) + (1 : Nat)) = (n + 1 : Nat) := by rw [wrap64_id (by omega) (by omega)]; omega
  have hl : xs.length = n * 4 := r.row.1
  have hmul : n * 4 ≤ cap * 4 := Nat.mul_le_mul_right _ hcap
  simp only [bin_add, w1, ov_s]
  refine cap_vv cUnEnt ?_
  unfold qcaZ
  simp only [bin_gtr, ov_s, cd_b]
  have celx : ∀ o m, o + m ≤ n * 4 → cels h g o m = some ((xs.drop o).take m) := fun o m hom => r.row.cels rfl hom
  have one_take : ∀ o m, ∀ u ∈ (xs.drop o).take m, u.oneCell' = true := fun o m u hu => r.one u (List.mem_of_mem_drop (List.mem_of_mem_take hu))
  refine ⟨fun hgr => ?_, fun hgr => ?_⟩
  · -- there is no room
    have hgr : cap < n + 1 := by have : ((cap : Int) < (n + 1 : Nat)) := by simpa using hgr
                                 omega
    have s1 : slV (some (none, 4)) (.slice (some ⟨g, 0, none⟩) n cap) none (some (.int .i64 i)) = some (.slice (some ⟨g, 0, none⟩) i cap) := by
      have : (i : Int) ≤ cap := by omega
      simp [slV, bnd, this, Addr.add_lit, show ¬ cap = 0 by omega]
    have w2 : IntKind.i64.wrap (((n + 1 : Nat) : Int) - i) = (n + 1 - i : Nat) := by rw [wrap64_id (by omega) (by omega)]; omega
    unfold qbWZ
    simp only [s1, bin_sub, bin_add, w1, w2, ov_s]
    have hii : i * 4 ≤ n * 4 := Nat.mul_le_mul_right _ (by omega)
    refine app_zeros (olds := xs.take (i * 4)) cUnEnt (show P.underlying qqZ = some (.int .i64) by kernel_rfl) cApEnt (by omega) (by have := celx 0 (i * 4) (by omega); simpa using this) (by omega) (by omega) (by unfold maxLen; omega) (by omega) fun b' cap' cur' hb' hc1 hc2 hc3 hc4 => ?_
    have ei : i + (n + 1 - i) = n + 1 := by omega
    rw [ei] at hc1 ⊢
    have hmul' : (n + 1) * 4 ≤ cap' * 4 := Nat.mul_le_mul_right _ hc1
    have hi1 : (i + 1) * 4 ≤ n * 4 := Nat.mul_le_mul_right _ hin
    have s2 : ∀ j : Nat, j ≤ n → slV (some (none, 4)) (.slice (some ⟨b', 0, none⟩) (n + 1) cap') (some (.int .i64 j)) none = some (.slice (some ⟨b', j * 4, none⟩) (n + 1 - j) (cap' - j)) := fun j hj => by
      have : (j : Int) ≤ (n + 1 : Nat) := by omega
      have h2 : ¬ cap' = j := by omega
      have h3 : (j : Int) ≤ (n : Int) + 1 := by omega
      simp [slV, bnd, h3, h2, Addr.add_lit]
    have s3 : slV (some (none, 4)) (.slice (some ⟨g, 0, none⟩) n cap) (some (.int .i64 i)) none = some (.slice (some ⟨g, i * 4, none⟩) (n - i) (cap - i)) := by
      have : (i : Int) ≤ n := by omega
      simp [slV, bnd, this, show ¬ cap = i by omega, Addr.add_lit]
    unfold qbVZ
    simp only [s2 i (by omega), ov_s]
    have hb'a : a ≠ b' := fun e => by subst e; rw [hb'] at ha; cases ha
    have hb'g : g ≠ b' := fun e => by subst e; rw [hb'] at hg; cases hg
    have m1 : min 1 (n + 1 - i) = 1 := by omega
    refine copy_vv cUnEnt cApEnt (cs := x.toList) (upd_same' _ _ _) ?_ (by rw [m1, hc3]; omega) h1 ?_
    · rw [m1, cels_skip hb'a]
      exact cels_of ha (by rw [List.drop_zero, List.take_of_length_le (by rw [Array.length_toList, hx]; omega)]) (by simpa using hx)
    unfold qbUZ
    have w3 : IntKind.i64.wrap ((i : Int) + (1 : Nat)) = (i + 1 : Nat) := by rw [wrap64_id (by omega) (by omega)]; omega
    simp only [bin_add, w3, s2 (i + 1) (by omega), s3, ov_s, upd_upd]
    have m2 : min (n - i) (n + 1 - (i + 1)) = n - i := by omega
    have e5 : i * 4 + (n - i) * 4 = n * 4 := by rw [← Nat.add_mul]; congr 1; omega
    have e6 : (i + 1) * 4 + (n - i) * 4 = (n + 1) * 4 := by rw [← Nat.add_mul]; congr 1; omega
    refine copy_vv cUnEnt cApEnt (cs := (xs.drop (i * 4)).take ((n - i) * 4)) (upd_same' _ _ _) ?_ (by rw [m2, over_size, hc3]; omega) (one_take _ _) ?_
    · rw [m2, cels_skip hb'g]
      exact celx _ _ (by omega)
    rw [upd_upd]
    have hb0 : h0 b' = none := fresh_of r.ex hb'
    have hdl : (xs.drop (i * 4)).take ((n - i) * 4) = xs.drop (i * 4) := List.take_of_length_le (by simp [hl] <;> omega)
    refine hk _ _ ⟨ext_upd hb0 r.ex, ⟨by simp [hl, hx] <;> omega, .inr ⟨b', cap', _, rfl, upd_same' _ _ _, hc1, hc2, by simp [over_size, hc3], ?_⟩⟩, fun b hb => by simp [rowOf] at hb; subst hb; exact hb0, fun u hu => ?_⟩ fun b o hb _ => by rw [upd_ne (fun hh => by rw [hh, hb'] at hb; cases hb)]; exact hb
    · rw [hdl]
      have l1 : (xs.drop (i * 4)).length = (n - i) * 4 := by simp [hl] <;> omega
      have cl : cur'.toList.length = cap' * 4 := by simpa using hc3
      rw [over_list (by rw [over_size, hc3, l1]; omega), over_list (by rw [hc3, Array.length_toList, hx]; omega)]
      have x1 : x.toList.length = 4 := by simpa using hx
      have e7 : spl cur'.toList (i * 4) x.toList = xs.take (i * 4) ++ x.toList ++ cur'.toList.drop (i * 4 + 4) := by
        unfold spl; rw [hc4, x1]
      have e8 : (i + 1) * 4 = (xs.take (i * 4) ++ x.toList).length := by simp [hl, hx] <;> omega
      have e9 : (xs.take (i * 4) ++ x.toList ++ xs.drop (i * 4)).length = (n + 1) * 4 := by simp [hl, hx] <;> omega
      rw [e7]
      unfold spl
      rw [e8, List.take_left, List.take_left' e9]
    · simp only [List.mem_append] at hu
      rcases hu with (hu | hu) | hu
      · exact r.one u (List.mem_of_mem_take hu)
      · exact h1 u hu
      · exact r.one u (List.mem_of_mem_drop hu)
  · -- there is room
    have hgr : n + 1 ≤ cap := by have : ¬ ((cap : Int) < (n + 1 : Nat)) := by simpa using hgr
                                 omega
    have hmul' : (n + 1) * 4 ≤ cap * 4 := Nat.mul_le_mul_right _ hgr
    have hi1 : (i + 1) * 4 ≤ n * 4 := Nat.mul_le_mul_right _ hin
    have s1 : slV (some (none, 4)) (.slice (some ⟨g, 0, none⟩) n cap) none (some (.int .i64 (n + 1 : Nat))) = some (.slice (some ⟨g, 0, none⟩) (n + 1) cap) := by
      have : ((n + 1 : Nat) : Int) ≤ cap := by omega
      have h3 : 0 ≤ (n : Int) + 1 ∧ (n : Int) + 1 ≤ cap := by omega
      simp [slV, bnd, h3, Addr.add_lit, show ¬ cap = 0 by omega]
    have w3 : IntKind.i64.wrap ((i : Int) + (1 : Nat)) = (i + 1 : Nat) := by rw [wrap64_id (by omega) (by omega)]; omega
    have s2 : ∀ j : Nat, j ≤ n → slV (some (none, 4)) (.slice (some ⟨g, 0, none⟩) (n + 1) cap) (some (.int .i64 j)) none = some (.slice (some ⟨g, j * 4, none⟩) (n + 1 - j) (cap - j)) := fun j hj => by
      have h2 : ¬ cap = j := by omega
      have h3 : (j : Int) ≤ (n : Int) + 1 := by omega
      simp [slV, bnd, h3, h2, Addr.add_lit]
    unfold qbZZ
    simp only [bin_add, w1, w3, s1, s2 (i + 1) (by omega), ov_s]
    refine overlaps_nx (tS := qeZ) (tR := qugZ) (f := qfeZ) (by kernel_rfl) (by kernel_rfl) (by kernel_rfl) (by kernel_rfl) cUnEnt cApEnt (Ne.symm hga) ha hg (by rw [hcs]; omega) ?_
    unfold qbYZ
    simp only [unV_n, ov_s, cd_b, Bool.not_false, true_implies]
    refine ⟨?_, fun h => (by cases h)⟩
    unfold qbXZ
    simp only [bin_add, w3, s2 (i + 1) (by omega), s2 i (by omega), ov_s]
    have m2 : min (n + 1 - i) (n + 1 - (i + 1)) = n - i := by omega
    have e5 : i * 4 + (n - i) * 4 = n * 4 := by rw [← Nat.add_mul]; congr 1; omega
    have e6 : (i + 1) * 4 + (n - i) * 4 = (n + 1) * 4 := by rw [← Nat.add_mul]; congr 1; omega
    refine copy_vv cUnEnt cApEnt (cs := (xs.drop (i * 4)).take ((n - i) * 4)) hg ?_ (by rw [m2, hcs]; omega) (one_take _ _) ?_
    · rw [m2]; exact celx _ _ (by omega)
    try unfold qbNZ
    try simp only [s2 i (by omega), ov_s]
    have m1 : min 1 (n + 1 - i) = 1 := by omega
    refine copy_vv cUnEnt cApEnt (cs := x.toList) (upd_same' _ _ _) ?_ (by rw [m1, over_size, hcs]; omega) h1 ?_
    · rw [m1, cels_skip (Ne.symm hga)]
      exact cels_of ha (by rw [List.drop_zero, List.take_of_length_le (by rw [Array.length_toList, hx]; omega)]) (by simpa using hx)
    rw [upd_upd]
    have hdl : (xs.drop (i * 4)).take ((n - i) * 4) = xs.drop (i * 4) := List.take_of_length_le (by simp [hl] <;> omega)
    refine hk _ _ ⟨ext_upd hg0 r.ex, ⟨by simp [hl, hx] <;> omega, .inr ⟨g, cap, _, rfl, upd_same' _ _ _, hgr, hcm, by simp [over_size, hcs], ?_⟩⟩, fun b hb => by simp [rowOf] at hb; subst hb; exact hg0, fun u hu => ?_⟩ fun b o hb hn => by rw [upd_ne (fun hh => hn (by rw [hh]; rfl))]; exact hb
    · rw [hdl]
      have l1 : (xs.drop (i * 4)).length = (n - i) * 4 := by simp [hl] <;> omega
      have cl : cur.toList.length = cap * 4 := by simpa using hcs
      have x1 : x.toList.length = 4 := by simpa using hx
      rw [over_list (by rw [over_size, hcs, x1]; omega), over_list (by rw [hcs, l1]; omega)]
      have e10 : cur.toList.take (i * 4) = xs.take (i * 4) := by rw [← hct, List.take_take, Nat.min_eq_left (by omega)]
      exact spl_ins e10 (by rw [x1]; omega) (by omega) (by rw [l1]; omega) (by omega)
    · simp only [List.mem_append] at hu
      rcases hu with (hu | hu) | hu
      · exact r.one u (List.mem_of_mem_take hu)
      · exact h1 u hu
      · exact r.one u (List.mem_of_mem_drop hu)
theorem delEEnt {v : Value} {n i : Nat} {xs : List Value} {h0 h : Heap} (r : Rf 4 qjZ h0 h v n xs) (hi : i < n) (hn : n < 10000000)
    (hk : ∀ v' h', Rf 4 qjZ h0 h' v' (n - 1) (xs.take (i * 4) ++ xs.drop ((i + 1) * 4)) → K v' h') : callM P qarZ #[v, .int .i64 i, .int .i64 (i + 1 : Nat)] h K := by
  apply qiRZ
  unfold qaxZ
  obtain ⟨g, cap, cur, rfl, hg0, hg, hcap, hcm, hcs, hct⟩ := r.own (by omega)
  have hl : xs.length = n * 4 := r.row.1
  have hmul : n * 4 ≤ cap * 4 := Nat.mul_le_mul_right _ hcap
  have hi1 : (i + 1) * 4 ≤ n * 4 := Nat.mul_le_mul_right _ hi
  have hlen : lnV 7 (.slice (some ⟨g, 0, none⟩) n cap) = some (.int .i64 n) := rfl
  have s0 : ∃ y, sl3V (some (none, 4)) (.slice (some ⟨g, 0, none⟩) n cap) (some (.int .i64 i)) (.int .i64 (i + 1 : Nat)) (.int .i64 n) = some y := by
    have h1 : (n : Int) ≤ cap := by omega
    have h2 : (0 : Int) ≤ (i : Int) + 1 ∧ (i : Int) + 1 ≤ n := by omega
    have h3 : (i : Int) ≤ (i : Int) + 1 := by omega
    have h4 : i ≤ ((i : Int) + 1).toNat := by omega
    simp [sl3V, bnd, h1, h2, h3]
  obtain ⟨y, s0⟩ := s0
  have e3 : binV .eql 2 false (.int .i64 (i : Int)) (.int .i64 (i + 1 : Nat)) = some (.bool false) := by
    have : ¬ (i : Int) = (i + 1 : Nat) := by omega
    simp [-Int.natCast_add, this]
  simp only [hlen, s0, e3, ov_s, cd_b, true_implies]
  refine ⟨fun h => (by cases h), ?_⟩
  unfold qbTZ
  have s1 : slV (some (none, 4)) (.slice (some ⟨g, 0, none⟩) n cap) none (some (.int .i64 i)) = some (.slice (some ⟨g, 0, none⟩) i cap) := by
    have : (i : Int) ≤ cap := by omega
    simp [slV, bnd, this, Addr.add_lit, show ¬ cap = 0 by omega]
  have s2 : ∃ q, slV (some (none, 4)) (.slice (some ⟨g, 0, none⟩) n cap) (some (.int .i64 (i + 1 : Nat))) none = some (.slice (some ⟨g, q, none⟩) (n - (i + 1)) (cap - (i + 1))) ∧ cels h g q ((n - (i + 1)) * 4) = some (xs.drop ((i + 1) * 4)) := by
    have h3 : (0 : Int) ≤ (i : Int) + 1 ∧ (i : Int) + 1 ≤ n := by omega
    have h4 : ((i : Int) + 1).toNat = i + 1 := by omega
    by_cases hc : cap = i + 1
    · refine ⟨0, by simp [slV, bnd, h3, h4, hc, show n = i + 1 by omega], ?_⟩
      have : n - (i + 1) = 0 := by omega
      rw [this, List.drop_eq_nil_of_le (by rw [hl]; have : n = i + 1 := by omega
                                           subst this; omega)]
      simp [cels]
    · refine ⟨(i + 1) * 4, by simp [slV, bnd, h3, h4, hc, Addr.add_lit], ?_⟩
      have e5 : (i + 1) * 4 + (n - (i + 1)) * 4 = n * 4 := by rw [← Nat.add_mul]; congr 1; omega
      rw [r.row.cels (g := g) rfl (by omega), List.take_of_length_le (by simp [hl] <;> omega)]
  obtain ⟨q, s2, s3⟩ := s2
  simp only [hlen, s1, s2, ov_s]
  have e5 : i * 4 + (n - (i + 1)) * 4 = (n - 1) * 4 := by rw [← Nat.add_mul]; congr 1; omega
  have e6 : (n - 1) * 4 ≤ n * 4 := Nat.mul_le_mul_right _ (by omega)
  refine app_fit cUnEnt cApEnt hg s3 (by rw [hcs]; omega) (by omega) (fun u hu => r.one u (List.mem_of_mem_drop hu)) ?_
  unfold qbSZ
  have e7 : i + (n - (i + 1)) = n - 1 := by omega
  rw [e7]
  have s4 : slV (some (none, 4)) (.slice (some ⟨g, 0, none⟩) (n - 1) cap) (some (.int .i64 (n - 1 : Nat))) (some (.int .i64 n)) = some (.slice (some ⟨g, (n - 1) * 4, none⟩) (n - (n - 1)) (cap - (n - 1))) := by
    have h1 : (n : Int) ≤ cap := by omega
    have h2 : ((n - 1 : Nat) : Int) ≤ n := by omega
    simp [slV, bnd, h1, h2, show ¬ cap = n - 1 by omega, Addr.add_lit]
  have hlen2 : lnV 7 (.slice (some ⟨g, 0, none⟩) (n - 1) cap) = some (.int .i64 (n - 1 : Nat)) := rfl
  simp only [hlen2, s4, ov_s]
  have l1 : (xs.drop ((i + 1) * 4)).length = (n - (i + 1)) * 4 := by rw [List.length_drop, hl, ← Nat.sub_mul]
  have l2 : (xs.take (i * 4)).length = i * 4 := by rw [List.length_take, hl]; omega
  have e8 : (n - 1) * 4 + (n - (n - 1)) * 4 = n * 4 := by rw [← Nat.add_mul]; congr 1; omega
  have cl : cur.toList.length = cap * 4 := by simpa using hcs
  have e9 : (over cur (0 + i * 4) (xs.drop ((i + 1) * 4))).toList = xs.take (i * 4) ++ xs.drop ((i + 1) * 4) ++ cur.toList.drop (0 + i * 4 + (n - (i + 1)) * 4) := by
    rw [over_list (by rw [hcs, l1]; omega)]
    unfold spl
    rw [l1]
    congr 2
    rw [← hct, List.take_take, Nat.min_eq_left (by omega), Nat.zero_add]
  have e10 : (xs.take (i * 4) ++ xs.drop ((i + 1) * 4)).length = (n - 1) * 4 := by rw [List.length_append, l1, l2, e5]
  refine clear_vv cUnEnt cApEnt (fun z hz => by rw [cZcEnt] at hz; cases hz; rfl) (by omega) (upd_same' _ _ _) (by rw [over_size, hcs]; omega) (fun hz => by omega) fun cs hcs' => ?_
  rw [upd_upd]
  refine hk _ _ ⟨ext_upd hg0 r.ex, ⟨e10, .inr ⟨g, cap, _, rfl, upd_same' _ _ _, by omega, hcm, by simp [over_size, hcs], ?_⟩⟩, fun b hb => by simp [rowOf] at hb; subst hb; exact hg0, fun u hu => ?_⟩
  · rw [over_list (by rw [over_size, hcs, hcs']; omega), e9]
    unfold spl
    rw [List.append_assoc ((xs.take (i * 4) ++ xs.drop ((i + 1) * 4) ++ _).take _), List.take_append_of_le_length (by rw [List.length_take]; simp only [List.length_append, List.length_drop, l1, l2, cl]; omega), List.take_take, Nat.min_self]
    exact List.take_left' e10
  · simp only [List.mem_append] at hu
    rcases hu with hu | hu
    · exact r.one u (List.mem_of_mem_take hu)
    · exact r.one u (List.mem_of_mem_drop hu)
end Go.Proofs.YtmbningljbcpkaaGreat
namespace Go.Den
open Go
set_option linter.unusedVariables false
set_option linter.unusedSimpArgs false
structure El {α:Type}(sz:Nat)(R:Heap→List Value→α→Prop)(h:Heap)(L:List (List Value))(ys:List α):Prop where
 len:L.length=ys.length
 size:∀ c∈L,c.length=sz
 one:∀ c∈L,∀ u∈c,u.oneCell'=true
 el:∀ i (h1:i<L.length) (h2:i<ys.length),R h L[i] ys[i]
section
variable {α:Type}{sz:Nat}{R:Heap→List Value→α→Prop}{h h':Heap}{L M:List (List Value)}{ys zs:List α}
theorem El.nil:El sz R h [] ([]:List α):=⟨rfl,by simp,by simp,fun i h=>by simp at h⟩
theorem El.ext (hR:∀ {h h' c x},Ext h h'→R h c x→R h' c x)(e:Ext h h')(x:El sz R h L ys):El sz R h' L ys:=⟨x.len,x.size,x.one,fun i h1 h2=>hR e (x.el i h1 h2)⟩
theorem El.take (x:El sz R h L ys)(i:Nat):El sz R h (L.take i) (ys.take i) :=
 ⟨by simp[x.len],fun c hc=>x.size c (List.mem_of_mem_take hc),fun c hc=>x.one c (List.mem_of_mem_take hc),fun k h1 h2=>by
  rw[List.getElem_take,List.getElem_take]; exact x.el k _ _⟩
theorem El.drop (x:El sz R h L ys)(i:Nat):El sz R h (L.drop i) (ys.drop i) :=
 ⟨by simp[x.len],fun c hc=>x.size c (List.mem_of_mem_drop hc),fun c hc=>x.one c (List.mem_of_mem_drop hc),fun k h1 h2=>by
  rw[List.getElem_drop,List.getElem_drop]; exact x.el _ _ _⟩
theorem El.app (x:El sz R h L ys)(y:El sz R h M zs):El sz R h (L++M) (ys++zs):=by
 refine⟨by simp[x.len,y.len],fun c hc=>?_,fun c hc=>?_,fun i h1 h2=>?_⟩
 ·rcases List.mem_append.1 hc with hc | hc
  ·exact x.size c hc
  ·exact y.size c hc
 ·rcases List.mem_append.1 hc with hc | hc
  ·exact x.one c hc
  ·exact y.one c hc
 ·by_cases hi:i<L.length
  ·have hi':i<ys.length:=by rw[← x.len]; exact hi
   rw[List.getElem_append_left hi,List.getElem_append_left hi']; exact x.el i hi hi'
  ·have hi':¬ i<ys.length:=by rw[← x.len]; exact hi
   rw[List.getElem_append_right (by omega),List.getElem_append_right (by omega)]
   have hl:=x.len
   simp only[← hl]
   exact y.el (i-L.length) (by simp at h1; omega) (by simp at h2; omega)
theorem El.sing {c:List Value}{y:α}(h1:c.length=sz)(h2:∀ u∈c,u.oneCell'=true)(h3:R h c y):El sz R h [c] [y] :=
 ⟨rfl,by simpa using h1,by simpa using h2,fun i (k1:i<1) k2=>by
  have:i=0:=by omega
  subst this; exact h3⟩
theorem El.enc {enc:α→List Value}(hl:∀ y,(enc y).length=sz)(h1:∀ y,∀ u∈enc y,u.oneCell'=true)(hR:∀ h y,R h (enc y) y):El sz R h (ys.map enc) ys :=
 ⟨by simp,fun c hc=>by obtain⟨y,_,rfl⟩:=List.mem_map.1 hc; exact hl y,fun c hc=>by obtain⟨y,_,rfl⟩:=List.mem_map.1 hc; exact h1 y,fun i k1 k2=>by simp only[List.getElem_map]; exact hR h _⟩
theorem El.fone (x:El sz R h L ys):∀ u∈L.flatten,u.oneCell'=true:=fun u hu=>by
 obtain⟨c,hc,hu⟩:=List.mem_flatten.1 hu
 exact x.one c hc u hu
theorem El.ftake (x:El sz R h L ys)(i:Nat):L.flatten.take (i*sz)=(L.take i).flatten:=flat_take x.size
theorem El.fdrop (x:El sz R h L ys)(i:Nat):L.flatten.drop (i*sz)=(L.drop i).flatten:=flat_drop x.size
theorem Sl.els {v:Value}(x:Sl sz R h v ys)(h1:∀ c y,R h c y→∀ u∈c,u.oneCell'=true):∃ L,SlC sz h v ys.length L.flatten∧El sz R h L ys:=by
 obtain⟨L,q1,q2,q3,q4⟩:=x.slc
 refine⟨L,q1,q2,q3,fun c hc=>?_,q4⟩
 obtain⟨i,hi,rfl⟩:=List.getElem_of_mem hc
 exact h1 _ _ (q4 i hi (by omega))
theorem SlC.ext {v:Value}{n:Nat}{xs:List Value}(e:Ext h h')(x:SlC sz h v n xs):SlC sz h' v n xs:=by
 rcases x with ⟨h1,h2,h3⟩ | ⟨b,o,cap,h1,h2⟩
 ·exact .inl ⟨h1,h2,h3⟩
 ·exact .inr ⟨b,o,cap,h1,cels_ext e h2⟩
theorem Rf.sl {T:Tags}{e:TypeId}{h0:Heap}{v:Value}{n:Nat}(r:Rf sz e h0 h v n L.flatten)(w:Wf T h0)(hn:n=ys.length)(x:El sz R (fz T h) L ys):Sl sz R (fz T h) v ys :=
 (r.row.fz w r.new).slL hn x.len x.size x.el
end
theorem StrR.one {h:Heap}:∀ c y,StrR h c y→∀ u∈c,u.oneCell'=true:=fun c y r u hu=>by
 have:c=[.string y]:=r.1
 subst this; simp at hu; subst hu; rfl
theorem SessR.one {h:Heap}:∀ c y,SessR h c y→∀ u∈c,u.oneCell'=true:=fun c y r u hu=>by
 have:c=sessC y:=r
 subst this; simp[sessC] at hu; rcases hu with rfl | rfl | rfl | rfl<;>rfl
theorem EntR.one {h:Heap}:∀ c y,EntR h c y→∀ u∈c,u.oneCell'=true:=fun c y r u hu=>by
 obtain⟨v,rfl,h1,h2⟩:=r
 simp[presC] at hu; rcases hu with rfl | rfl | rfl | rfl
 ·exact h1.one.1
 ·rfl
 ·rfl
 ·rfl
theorem EvR.one {h:Heap}:∀ c y,EvR h c y→∀ u∈c,u.oneCell'=true:=fun c y r u hu=>by
 have:c=evC y:=r
 subst this; simp[evC,presC] at hu; rcases hu with rfl | rfl | rfl | rfl | rfl | rfl | rfl | rfl<;>rfl
def putB {α:Type}:List (ByteArray × α)→ByteArray→α→List (ByteArray × α)
 | [],u,e=>[(u,e)]
 | (k,x)::r,u,e=>if ltS k u then (k,x)::putB r u e else if k=u then (u,e)::r else (u,e)::(k,x)::r
def delB {α:Type}(b:List (ByteArray × α))(u:ByteArray):List (ByteArray × α):=b.filter fun x=>!decide (x.1=u)
def keysL {α:Type}(b:List (ByteArray × α)):List ByteArray:=b.map (·.1)
def hasL {α:Type}(b:List (ByteArray × α))(u:ByteArray):Bool:=(keysL b).any fun k=>decide (k=u)
theorem hasL_iff {α:Type}{b:List (ByteArray × α)}{u:ByteArray}:hasL b u=true↔u∈keysL b:=by simp[hasL]
theorem pos_cons_lt {k u:ByteArray}{l:List ByteArray}(h:ltS k u=true):pos (k::l) u=pos l u+1:=by simp[pos,List.takeWhile_cons,h]
theorem pos_cons_ge {k u:ByteArray}{l:List ByteArray}(h:ltS k u=false):pos (k::l) u=0:=by simp[pos,List.takeWhile_cons,h]
theorem putB_has {α:Type}{u:ByteArray}{e:α}:∀ {b:List (ByteArray × α)},SrtK (keysL b)→u∈keysL b→putB b u e=b.take (pos (keysL b) u)++[(u,e)]++b.drop (pos (keysL b) u+1)
 | [],_,h=>by simp[keysL] at h
 | (k,x)::r,s,h=>by
  have s':SrtK (keysL r):=(List.pairwise_cons.1 s).2
  simp only[putB]
  cases hk:ltS k u with
  | true =>
   have:u∈keysL r:=by
    simp only[keysL,List.map_cons,List.mem_cons] at h
    rcases h with rfl | h
    ·rw[ltS_irrefl] at hk; cases hk
    ·exact h
   have e1:pos (keysL ((k,x)::r)) u=pos (keysL r) u+1:=pos_cons_lt hk
   rw[e1,if_pos rfl,putB_has s' this]
   rfl
  | false =>
   have hku:k=u:=by
    simp only[keysL,List.map_cons,List.mem_cons] at h
    rcases h with rfl | h
    ·rfl
    ·have:=(List.pairwise_cons.1 s).1 u h
     rw[hk] at this; cases this
   have e1:pos (keysL ((k,x)::r)) u=0:=pos_cons_ge hk
   rw[e1]
   simp[hku]
theorem putB_new {α:Type}{u:ByteArray}{e:α}:∀ {b:List (ByteArray × α)},SrtK (keysL b)→u ∉ keysL b→putB b u e=b.take (pos (keysL b) u)++[(u,e)]++b.drop (pos (keysL b) u)
 | [],_,h=>by simp[putB]
 | (k,x)::r,s,h=>by
  have s':SrtK (keysL r):=(List.pairwise_cons.1 s).2
  simp only[keysL,List.map_cons,List.mem_cons,not_or] at h
  simp only[putB]
  cases hk:ltS k u with
  | true =>
   have e1:pos (keysL ((k,x)::r)) u=pos (keysL r) u+1:=pos_cons_lt hk
   rw[e1,if_pos rfl,putB_new s' h.2]
   rfl
  | false =>
   have e1:pos (keysL ((k,x)::r)) u=0:=pos_cons_ge hk
   rw[e1]
   simp[Ne.symm h.1]
theorem delB_none {α:Type}{u:ByteArray}{b:List (ByteArray × α)}(h:u ∉ keysL b):delB b u=b:=by
 refine List.filter_eq_self.2 fun x hx=>?_
 have:x.1≠u:=fun e=>h (e▸List.mem_map_of_mem hx)
 simp[this]
theorem delB_has {α:Type}{u:ByteArray}:∀ {b:List (ByteArray × α)},SrtK (keysL b)→u∈keysL b→delB b u=b.take (pos (keysL b) u)++b.drop (pos (keysL b) u+1)
 | [],_,h=>by simp[keysL] at h
 | (k,x)::r,s,h=>by
  have s':SrtK (keysL r):=(List.pairwise_cons.1 s).2
  cases hk:ltS k u with
  | true =>
   have hne:k≠u:=fun e=>by rw[e,ltS_irrefl] at hk; cases hk
   have:u∈keysL r:=by
    simp only[keysL,List.map_cons,List.mem_cons] at h
    exact h.resolve_left (Ne.symm hne)
   have e1:pos (keysL ((k,x)::r)) u=pos (keysL r) u+1:=pos_cons_lt hk
   rw[e1]
   have:=delB_has s' this
   unfold delB at this ⊢
   simp[hne,this]
  | false =>
   have hku:k=u:=by
    simp only[keysL,List.map_cons,List.mem_cons] at h
    rcases h with rfl | h
    ·rfl
    ·have:=(List.pairwise_cons.1 s).1 u h
     rw[hk] at this; cases this
   have e1:pos (keysL ((k,x)::r)) u=0:=pos_cons_ge hk
   have hn:u ∉ keysL r:=fun h=>by
    have:=(List.pairwise_cons.1 s).1 u h
    rw[hk] at this; cases this
   rw[e1]
   have:=delB_none hn
   unfold delB at this ⊢
   simp[hku,this]
theorem keys_putB {α:Type}{u:ByteArray}{e:α}:∀ {b:List (ByteArray × α)} {k:ByteArray},k∈keysL (putB b u e)→k=u∨k∈keysL b
 | [],k,h=>by simp[putB,keysL] at h; exact .inl h
 | (k',x)::r,k,h=>by
  simp only[putB] at h
  split at h
  ·simp only[keysL,List.map_cons,List.mem_cons] at h ⊢
   rcases h with h | h
   ·exact .inr (.inl h)
   ·rcases keys_putB h with h | h
    ·exact .inl h
    ·exact .inr (.inr h)
  ·split at h
   ·simp only[keysL,List.map_cons,List.mem_cons] at h ⊢
    rcases h with h | h
    ·exact .inl h
    ·exact .inr (.inr h)
   ·simp only[keysL,List.map_cons,List.mem_cons] at h ⊢
    exact h
theorem putB_srt {α:Type}{u:ByteArray}{e:α}:∀ {b:List (ByteArray × α)},SrtK (keysL b)→SrtK (keysL (putB b u e))
 | [],_=>by simp[putB,keysL,SrtK]
 | (k,x)::r,s=>by
  obtain⟨s1,s2⟩:=List.pairwise_cons.1 s
  simp only[putB]
  cases hk:ltS k u with
  | true =>
   rw[if_pos rfl]
   refine List.pairwise_cons.2 ⟨fun j hj=>?_,putB_srt s2⟩
   rcases keys_putB hj with rfl | hj
   ·exact hk
   ·exact s1 j hj
  | false =>
   simp only[Bool.false_eq_true,if_false]
   by_cases hku:k=u
   ·rw[if_pos hku]; subst hku; exact List.pairwise_cons.2 ⟨s1,s2⟩
   ·rw[if_neg hku]
    have huk:ltS u k=true:=by
     cases h:ltS u k with
     | true=>rfl
     | false=>exact absurd (ltS_total hk h) hku
    refine List.pairwise_cons.2 ⟨fun j hj=>?_,s⟩
    simp only[List.map_cons,List.mem_cons] at hj
    rcases hj with rfl | hj
    ·exact huk
    ·exact ltS_trans huk (s1 j hj)
theorem delB_srt {α:Type}{u:ByteArray}{b:List (ByteArray × α)}(s:SrtK (keysL b)):SrtK (keysL (delB b u)):=by
 unfold SrtK keysL delB at *
 exact s.sublist ((List.filter_sublist).map _)
theorem putB_len {α:Type}{u:ByteArray}{e:α}:∀ {b:List (ByteArray × α)},(putB b u e).length≤b.length+1
 | []=>by simp[putB]
 | (k,x)::r=>by
  have:=putB_len (u:=u) (e:=e) (b:=r)
  simp only[putB]; split
  ·simp; omega
  ·split<;>simp
theorem delB_len {α:Type}{u:ByteArray}{b:List (ByteArray × α)}:(delB b u).length≤b.length:=List.length_filter_le _ _
end Go.Den
namespace Go.Den
open Go
set_option linter.unusedVariables false
theorem flat_spl {sz:Nat}{L:List (List Value)}{i:Nat}{c:List Value}(hL:∀ c∈L,c.length=sz)(hi:i<L.length)(hc:c.length=sz):spl L.flatten (i*sz) c=(L.take i++[c]++L.drop (i+1)).flatten:=by
 unfold spl
 rw[hc,show i*sz+sz=(i+1)*sz by rw[Nat.add_mul]; omega,flat_take hL,flat_drop hL]
 simp
theorem Rf.st {sz : Nat} {e : TypeId} {h0 h : Heap} {v : Value} {n : Nat} {L : List (List Value)} (r : Rf sz e h0 h v n L.flatten) (hL : ∀ c ∈ L, c.length = sz) (hn : L.length = n) {i : Nat} (hi : i < n) {c : Value} (hc : c.cells.size = sz) (h1 : ∀ u ∈ c.cells.toList, u.oneCell' = true) {k : IntKind} :
    ∃ g, rowOf v = some g ∧ iaV (some (none, sz)) v (.int k i) = some (.pointer (some ⟨g, i * sz, none⟩)) ∧ h0 g = none ∧ (∃ o, h g = some o) ∧
      ∀ K : Heap → Prop, (∀ o', Rf sz e h0 (upd h g o') v n (L.take i ++ [c.cells.toList] ++ L.drop (i + 1)).flatten → K (upd h g o')) → stM (some sz) (.pointer (some ⟨g, i * sz, none⟩)) c h K := by
  obtain ⟨g, h2, h3⟩ := r.row.ia (k := k) hi
  obtain ⟨o, ho⟩ := r.row.lt g h2
  refine ⟨g, h2, h3, r.new g h2, ⟨o, ho⟩, fun K hK => ?_⟩
  refine r.row.st h2 hc (by have : (i + 1) * sz ≤ n * sz := Nat.mul_le_mul_right _ hi
                            rw [Nat.add_mul] at this; omega) h1 fun h' hk hr => ?_
  obtain ⟨o', ho'⟩ := hr.lt g h2
  have e1 : h' = upd h g o' := upd_of hk ho'
  rw [flat_spl hL (by omega) (by simpa using hc)] at hr
  subst e1
  refine hK o' ⟨ext_upd (r.new g h2) r.ex, hr, r.new, fun u hu => ?_⟩
  simp only [List.flatten_append, List.mem_append, List.flatten_cons, List.flatten_nil, List.append_nil] at hu
  rcases hu with (hu | hu) | hu
  · obtain ⟨d, hd, hu⟩ := List.mem_flatten.1 hu
    exact r.one u (List.mem_flatten.2 ⟨d, List.mem_of_mem_take hd, hu⟩)
  · exact h1 u hu
  · obtain ⟨d, hd, hu⟩ := List.mem_flatten.1 hu
    exact r.one u (List.mem_flatten.2 ⟨d, List.mem_of_mem_drop hd, hu⟩)
theorem keys_put_has {α:Type}{u:ByteArray}{e:α}:∀ {b:List (ByteArray × α)},SrtK (keysL b)→u∈keysL b→keysL (putB b u e)=keysL b
 | [],_,h=>by simp[keysL] at h
 | (k,x)::r,s,h=>by
  have s':SrtK (keysL r):=(List.pairwise_cons.1 s).2
  simp only[putB]
  cases hk:ltS k u with
  | true =>
   have:u∈keysL r:=by
    simp only[keysL,List.map_cons,List.mem_cons] at h
    rcases h with rfl | h
    ·rw[ltS_irrefl] at hk; cases hk
    ·exact h
   have ih:=keys_put_has (e:=e) s' this
   rw[if_pos rfl]
   simp only[keysL,List.map_cons] at ih ⊢
   rw[ih]
  | false =>
   have hku:k=u:=by
    simp only[keysL,List.map_cons,List.mem_cons] at h
    rcases h with rfl | h
    ·rfl
    ·have:=(List.pairwise_cons.1 s).1 u h
     rw[hk] at this; cases this
   simp[hku,keysL]
theorem Rf.skip {sz:Nat}{e:TypeId}{h0 h:Heap}{v:Value}{n:Nat}{xs:List Value}{b:Nat}{o:Obj}(r:Rf sz e h0 h v n xs)(hb:h0 b=none)(hv:rowOf v≠some b):Rf sz e h0 (upd h b o) v n xs :=
 ⟨ext_upd hb r.ex,r.row.of_at fun g hg=>by rw[upd_ne (fun hh=>hv (by rw[hg,hh]))],r.new,r.one⟩
theorem Rf.ne_old {sz:Nat}{e:TypeId}{h0 h:Heap}{v:Value}{n:Nat}{xs:List Value}{b:Nat}{o:Obj}(r:Rf sz e h0 h v n xs)(hb:h0 b=some o):rowOf v≠some b:=fun hh=>by rw[r.new b hh] at hb; cases hb
theorem Rf.ne_new {sz:Nat}{e:TypeId}{h0 h:Heap}{v:Value}{n:Nat}{xs:List Value}{b:Nat}(r:Rf sz e h0 h v n xs)(hb:h b=none):rowOf v≠some b:=fun hh=>by obtain⟨o,ho⟩:=r.row.lt b hh; rw[hb] at ho; cases ho
end Go.Den
namespace Go.Den
open Go
theorem cels_sub {h:Heap}{b o n:Nat}{l:List Value}(hc:cels h b o n=some l){j m:Nat}(hj:j+m≤n):cels h b (o+j) m=some ((l.drop j).take m):=by
 obtain⟨h1,h2⟩:=cels_get hc
 have:∀ (m o:Nat) (l':List Value),l'.length=m→(∀ i (hi:i<m),cel h b (o+i)=l'[i]?)→cels h b o m=some l':=by
  intro m
  induction m with
  | zero=>intro o l' hl _; simp[List.eq_nil_of_length_eq_zero hl,cels]
  | succ m ih =>
   intro o l' hl hi
   cases l' with
   | nil=>simp at hl
   | cons x l' =>
    have e0:=hi 0 (by omega)
    simp only[Nat.add_zero,List.getElem?_cons_zero] at e0
    have e1:=ih (o+1) l' (by simpa using hl) fun i hi'=>by
     have:=hi (i+1) (by omega)
     rw[List.getElem?_cons_succ] at this
     rw[← this]; congr 1; omega
    simp only[cels,e0,e1]
 refine this m (o+j) _ (by simp; omega) fun i hi=>?_
 have:=h2 (j+i) (by omega)
 rw[show o+j+i=o+(j+i) by omega,this,List.getElem?_take_of_lt hi,List.getElem?_drop]
 exact (List.getElem?_eq_getElem _).symm
end Go.Den
namespace Go.Den
open Go
def valL {α:Type}(d:α):List (ByteArray × α)→ByteArray→α
 | [],_=>d
 | (k,e)::r,u=>if k=u then e else valL d r u
theorem valL_mem {α:Type}{d:α}{b:List (ByteArray × α)}(s:SrtK (keysL b)){i:Nat}(hi:i<b.length):valL d b b[i].1=b[i].2:=by
 induction b generalizing i with
 | nil=>simp at hi
 | cons x b ih =>
  obtain⟨k,e⟩:=x
  have s':SrtK (keysL b):=(List.pairwise_cons.1 s).2
  cases i with
  | zero=>simp[valL]
  | succ i =>
   have hi':i<b.length:=by simpa using hi
   have hne:¬ k=b[i].1:=fun h=>by
    have:=(List.pairwise_cons.1 s).1 b[i].1 (List.mem_map_of_mem (List.getElem_mem _))
    rw[h,ltS_irrefl] at this; cases this
   simp only[List.getElem_cons_succ,valL,if_neg hne]
   exact ih s' hi'
theorem valL_none {α:Type}{d:α}{b:List (ByteArray × α)}{u:ByteArray}(h:u ∉ keysL b):valL d b u=d:=by
 induction b with
 | nil=>rfl
 | cons x b ih =>
  obtain⟨k,e⟩:=x
  simp only[keysL,List.map_cons,List.mem_cons,not_or] at h
  simp only[valL,if_neg (Ne.symm h.1)]
  exact ih h.2
end Go.Den
namespace Go.Proofs.YtmbningljbcpkaaGreat
open Go Go.Den Go.MapKept
set_option linter.unusedSimpArgs false
set_option linter.unusedVariables false
set_option maxRecDepth 20000
theorem bdMap (a b:Option Addr)(n m c d:Nat):bdV (binf P qaZ) [(0,.slice a n c),(1,.slice b m d)]=some (.agg #[.slice a n c,.slice b m d]):=by kernel_rfl
theorem tgMap:tagg P qaZ=some (some 2):=by kernel_rfl
theorem row_sl {sz:Nat}{e:TypeId}{h:Heap}{v:Value}{n:Nat}{xs:List Value}(r:Row sz e h v n xs):∃ a n c,v = .slice a n c:=by
 rcases r.2 with ⟨rfl,_⟩ | ⟨g,cap,cur,rfl,_⟩<;>exact⟨_,_,_,rfl⟩
theorem sl_sl {α:Type}{sz:Nat}{R:Heap→List Value→α→Prop}{h:Heap}{v:Value}{xs:List α}(x:Sl sz R h v xs):∃ a n c,v = .slice a n c:=by
 rcases x with ⟨rfl,a,c,rfl⟩ | ⟨b,o,cap,rfl,_⟩<;>exact⟨_,_,_,rfl⟩
theorem bdMapS {k v:Value}(hk:∃ a n c,k = .slice a n c)(hv:∃ a n c,v = .slice a n c):bdV (binf P qaZ) [(0,k),(1,v)]=some (.agg #[k,v]):=by
 obtain⟨a,n,c,rfl⟩:=hk
 obtain⟨b,m,d,rfl⟩:=hv
 exact bdMap _ _ _ _ _ _
variable {K:KTy}
theorem with_ok (b:Book)(so:SrtK (keysB b))(u:ByteArray)(hu:u.size≤maxLen)(e:Ent){T:Tags}{h:Heap}(w:Wf T h){kw vw sv:Value}(x:BookR (fz T h) kw vw b)(hs:Sl 4 SessR (fz T h) sv e.ss)(hn:Sn sv)(hl:b.length<1000000)
  (hk:∀ h' k v,Ext h h'→BookR (fz T h') k v (putB b u e)→K (.agg #[k,v]) h'):callM P qaRZ #[.agg #[kw,vw],.string u,.agg (sv::presC e.told).toArray] h K:=by
 apply qlpZ
 unfold qbgZ
 rw[zcMap]
 refine nw_agg fun v1 h1 n1 e1 c1=>?_
 refine nw_agg fun v3 h3 n3 e3 c3=>?_
 refine nw_intro fun v5 h5 n5 e5 c5=>?_
 have ne13:=ne_fresh c1 n3
 have ne15:=ne_fresh (e3 _ _ c1) n5
 have ne35:=ne_fresh c3 n5
 have c1:=e5 _ _ (e3 _ _ c1)
 have c3:=e5 _ _ c3
 have n5:h v5=none:=fresh_of (e1.trans e3) n5
 have e0:=(e1.trans e3).trans e5
 have kl:(keysB b).length=b.length:=by simp[keysB]
 simp -implicitDefEqProofs[ld_at c1,cel_of c1,stm_at c1,stm_upd,ld_same,cel_same,over]
 refine find_ok (keysB b) so u x.2.1.one.2 (x.1.ext (@StrR.ext) ((fz_ext T h).trans e0)) (by omega) fun h6 e6=>?_
 have c1:=e6 _ _ c1
 have c3:=e6 _ _ c3
 have c5:=e6 _ _ c5
 have e0:=e0.trans e6
 have w6:=w.ext e0
 have x6:BookR (fz T h6) kw vw b:=x.ext (fz_of_ext e0)
 have hs6:Sl 4 SessR (fz T h6) sv e.ss:=hs.ext (@SessR.ext) (fz_of_ext e0)
 unfold qdCZ
 simp -implicitDefEqProofs only[exV_0,exV_1,ov_s]
 rw[seqM_eq]
 unfold qdBZ
 simp -implicitDefEqProofs only[cd_b]
 have o1:=x6.1.one
 have o2:=x6.2.1.one
 have os:=hs6.one
 obtain⟨Lk,k1,k2⟩:=x.1.els StrR.one
 obtain⟨Lv,l1,l2⟩:=x.2.1.els EntR.one
 simp -implicitDefEqProofs only[List.length_map] at k1 l1
 have lk:=k2.len
 have lv:=l2.len
 simp -implicitDefEqProofs only[List.length_map] at lk lv
 refine⟨fun hy=>?_,fun hno=>?_⟩
 ·have hyes:hasL b u=true:=hy
  have hmem:=hasL_iff.1 hyes
  obtain⟨p1,p2⟩:=(mem_pos so u).1 hmem
  have hpb:pos (keysB b) u<b.length:=by omega
  have put:putB b u e=b.take (pos (keysB b) u)++[(u,e)]++b.drop (pos (keysB b) u+1):=putB_has so hmem
  have keq:(putB b u e).map (·.1)=b.map (·.1):=keys_put_has so hmem
  obtain⟨p,hp⟩:∃ p,pos (keysB b) u=p:=⟨_,rfl⟩
  rw[hp] at hpb put ⊢
  -- what is left once the values lie anew
  have fin:∀ (h7:Heap) (vo v':Value) (o:Nat) (s:Env) (m:List Nat),vo=ptr o→Ext h6 h7→h6 o=none→h7 o=some (.cells #[kw,v'] qaZ (0,0))→rowOf v'≠some o→Rf 4 qjZ h6 h7 v' b.length Lv.flatten →
    s 9=vo→s 5=ptr v3→s 6=ptr v5→s 7 = .int .i64 p→qaMZ s h7 (thenM (fun m s13 h14=>qaGZ s13 h14 m K) (retM P [.cell 6 qaZ] K)) []:=by
   rintro h7 vo v' o s m rfl e7 no co hro r s9 s5 s6 s7
   have nov:v5≠o:=ne_fresh c5 no
   have no3:v3≠o:=ne_fresh c3 no
   have c1':=c1
   have c5':=c5
   have c1:=e7 _ _ c1
   have c3:=e7 _ _ c3
   have c5:=e7 _ _ c5
   obtain⟨g,q1,q2,q3,⟨go,q4⟩,q5⟩:=r.st (i:=p) (c:=.agg (sv::presC e.told).toArray) (k:=.i64) l2.size (by omega) hpb (by simp[presC]) (by simp[presC,os.1])
   have hgo:g≠o:=fun hh=>hro (by rw[q1,hh])
   have hg5:v5≠g:=ne_fresh c5' q3
   have hg1:v1≠g:=ne_fresh c1' q3
   unfold qaMZ
   simp -implicitDefEqProofs only[presC] at c3 q5
   have ov':=r.row.one
   simp -implicitDefEqProofs[s9,s5,s6,s7,ld_at co,cel_of co,stm_at co,ld_at c3,cel_of c3,stm_at c3,ld_at c5,cel_of c5,stm_at c5,stm_upd,ld_same,cel_same,over,q2]
   refine q5 _ fun o' r'=>?_
   have e8:=ext_upd (o:=o') q3 e7
   simp -implicitDefEqProofs[ld_at co,cel_of co,stm_at co,ld_at c3,cel_of c3,stm_at c3,ld_at c5,cel_of c5,stm_at c5,stm_skip hgo,stm_skip (Ne.symm hgo),ld_skip hgo,ld_skip (Ne.symm hgo),cel_skip hgo,cel_skip (Ne.symm hgo),stm_skip hg5,stm_skip (Ne.symm hg5),ld_skip hg5,ld_skip (Ne.symm hg5),cel_skip hg5,cel_skip (Ne.symm hg5),stm_upd,ld_same,cel_same,over,s9,s5,s6,s7,o1.1,ov'.1,tgMap]
   rw[upd_comm hg5]
   have e9:=ext_upd (o:=.cells #[kw,v'] qaZ (0,0)) n5 (e0.trans e8)
   refine hk _ kw v' e9 ⟨?_,?_,x.2.2.1,r'.row.sn⟩
   ·rw[keq]; exact x.1.ext (@StrR.ext) (fz_of_ext e9)
   ·have r9:=(r'.back e0).skip (o:=.cells #[kw,v'] qaZ (0,0)) n5 (by rw[q1]; intro hh; cases hh; exact hg5 rfl)
    rw[put]
    simp -implicitDefEqProofs only[List.map_append,List.map_take,List.map_drop,List.map_cons,List.map_nil]
    have l3:=l2.ext (@EntR.ext) (fz_of_ext e9)
    have hs9:=hs.ext (@SessR.ext) (fz_of_ext e9)
    exact r9.sl w (by simp; omega) (((l3.take p).app (El.sing (by simp[presC]) (by simp[presC,os.1]) ⟨sv,rfl,hs9,hn⟩)).app (l3.drop (p+1)))
  unfold qdzZ
  rw[seqM_eq]
  unfold qdyZ
  have lv6:=(l1.ext ((fz_ext T h).trans e0))
  simp -implicitDefEqProofs[ld_at c1,cel_of c1,stm_at c1,stm_upd,ld_same,cel_same,over]
  refine⟨?_,?_⟩
  ·unfold qdwZ
   refine cloneEEnt lv6 x.2.2.2 l2.fone (by omega) fun v' h7 r7=>?_
   have c1':=r7.ex _ _ c1
   unfold qdvZ
   simp -implicitDefEqProofs[ld_at c1',cel_of c1',stm_at c1',stm_upd,ld_same,cel_same,over,bdMapS (sl_sl x.1) (row_sl r7.row),zcMap]
   intro o no
   have ne:=ne_fresh c1' no
   have no6:=fresh_of r7.ex no
   have hro:rowOf v'≠some o:=fun hh=>by obtain⟨z,hz⟩:=r7.row.lt o hh; rw[no] at hz; cases hz
   simp -implicitDefEqProofs[ld_at c1',cel_of c1',stm_at c1',stm_skip ne,stm_skip (Ne.symm ne),ld_skip ne,ld_skip (Ne.symm ne),cel_skip ne,cel_skip (Ne.symm ne),stm_upd,ld_same,cel_same,over,o1.1,r7.row.one.1]
   refine fin _ _ v' o _ [] rfl (ext_upd no6 r7.ex) no6 (upd_same' _ _ _) hro (r7.skip no6 hro) ?_ ?_ ?_ ?_<;>simp
  ·unfold qdxZ
   rw[zcMap]
   simp -implicitDefEqProofs only[nwM_s]
   intro o no
   have ne:=ne_fresh c1 no
   have e7:Ext h6 (upd h6 o _):=Ext.upd no (.cells #[.slice none 0 0,.slice none 0 0] qaZ (0,0))
   have co:=upd_same' h6 o (.cells #[.slice none 0 0,.slice none 0 0] qaZ (0,0))
   have c1':=e7 _ _ c1
   generalize upd h6 o _=h7 at *
   simp -implicitDefEqProofs[ld_at c1',cel_of c1',stm_at c1',stm_upd,ld_same,cel_same,over]
   refine cloneEEnt (lv6.ext e7) x.2.2.2 l2.fone (by omega) fun v' h8 r8=>?_
   have c1':=r8.ex _ _ c1'
   have co0:=co
   have co:=r8.ex _ _ co
   have hro:rowOf v'≠some o:=fun hh=>by have h1:=r8.new o hh; rw[co0] at h1; cases h1
   simp -implicitDefEqProofs[ld_at c1',cel_of c1',stm_at c1',ld_at co,cel_of co,stm_at co,stm_upd,ld_same,cel_same,over,o1.1,r8.row.one.1,bdMapS (sl_sl x.1) (row_sl r8.row)]
   refine fin _ _ v' o _ [] rfl (ext_upd no (e7.trans r8.ex)) no (upd_same' _ _ _) hro ((r8.back e7).skip no hro) ?_ ?_ ?_ ?_<;>simp
 ·have hno':hasL b u=false:=hno
  have hmem:u ∉ keysL b:=fun hh=>by rw[hasL_iff.2 hh] at hno'; cases hno'
  have put:putB b u e=b.take (pos (keysB b) u)++[(u,e)]++b.drop (pos (keysB b) u):=putB_new so hmem
  have hpb:=(pos_spec so u).1
  obtain⟨p,hp⟩:∃ p,pos (keysB b) u=p:=⟨_,rfl⟩
  rw[hp] at hpb put ⊢
  have hpb:p≤b.length:=by omega
  have k0:=k1.ext ((fz_ext T h).trans e0)
  have l0:=l1.ext ((fz_ext T h).trans e0)
  have k0:SlC 1 h6 kw b.length Lk.flatten:=k0
  have l0:SlC 4 h6 vw b.length Lv.flatten:=l0
  have fin2:∀ (h':Heap) (vk vv:Value),Ext h6 h'→Rf 1 qcSZ h6 h' vk (b.length+1) (Lk.flatten.take (p*1)++(Value.string u).cells.toList++Lk.flatten.drop (p*1)) →
    Rf 4 qjZ h6 h' vv (b.length+1) (Lv.flatten.take (p*4)++(Value.agg (sv::presC e.told).toArray).cells.toList++Lv.flatten.drop (p*4))→∀ s:Env,s 6=ptr v5 →
    ov (bdV (binf P qaZ) [(0,vk),(1,vv)]) fun v=>stM (some 2) (ptr v5) v h' fun h''=>retM P [.cell 6 qaZ] K .ret [] s h'':=by
   intro h' vk vv e7 rk rv s s6
   have c5':=e7 _ _ c5
   have u1:=rk.row.one
   have u2:=rv.row.one
   have nk:rowOf vk≠some v5:=Rf.ne_old rk c5
   have nv:rowOf vv≠some v5:=Rf.ne_old rv c5
   simp -implicitDefEqProofs[bdMapS (row_sl rk.row) (row_sl rv.row),ld_at c5',cel_of c5',stm_at c5',stm_upd,ld_same,cel_same,over,u1.1,u2.1,tgMap,s6]
   have e9:=ext_upd (o:=.cells #[vk,vv] qaZ (0,0)) n5 (e0.trans e7)
   have rk9:=(rk.back e0).skip (o:=.cells #[vk,vv] qaZ (0,0)) n5 nk
   have rv9:=(rv.back e0).skip (o:=.cells #[vk,vv] qaZ (0,0)) n5 nv
   have k3:=k2.ext (@StrR.ext) (fz_of_ext e9)
   have l3:=l2.ext (@EntR.ext) (fz_of_ext e9)
   have hs9:=hs.ext (@SessR.ext) (fz_of_ext e9)
   refine hk _ vk vv e9 ⟨?_,?_,rk.row.sn,rv.row.sn⟩
   ·have:=((k3.take p).app (El.sing (c:=[.string u]) (y:=u) (by simp) (by simp) ⟨rfl,hu⟩)).app (k3.drop p)
    rw[k2.ftake,k2.fdrop] at rk9
    rw[put]
    simp -implicitDefEqProofs only[List.map_append,List.map_take,List.map_drop,List.map_cons,List.map_nil]
    have e8:(Lk.take p).flatten++(Value.string u).cells.toList++(Lk.drop p).flatten=(Lk.take p++[[Value.string u]]++Lk.drop p).flatten:=by simp
    rw[e8] at rk9
    exact rk9.sl w (by simp; omega) this
   ·have:=((l3.take p).app (El.sing (by simp[presC]) (by simp[presC,os.1]) ⟨sv,rfl,hs9,hn⟩)).app (l3.drop p)
    rw[l2.ftake,l2.fdrop] at rv9
    rw[put]
    simp -implicitDefEqProofs only[List.map_append,List.map_take,List.map_drop,List.map_cons,List.map_nil]
    have e8:(Lv.take p).flatten++(Value.agg (sv::presC e.told).toArray).cells.toList++(Lv.drop p).flatten=(Lv.take p++[(Value.agg (sv::presC e.told).toArray).cells.toList]++Lv.drop p).flatten:=by simp
    rw[e8] at rv9
    exact rv9.sl w (by simp; omega) this
  have main:∀ s:Env,s 1 = .string u→s 3=ptr v1→s 5=ptr v3→s 6=ptr v5→s 7 = .int .i64 p→qaFZ s h6 (thenM (fun m s42 h43=>(retM P [.cell 6 qaZ] K) .ret m s42 h43) (retM P [.cell 6 qaZ] K)) []:=by
   intro s s1 s3 s5 s6 s7
   have ec0:=Ext.refl h6
   simp -implicitDefEqProofs only[presC] at c3
   unfold qaFZ
   simp -implicitDefEqProofs[ld_at c1,cel_of c1,stm_at c1,ld_at c3,cel_of c3,stm_at c3,stm_upd,ld_same,cel_same,over,s1,s3,s5,s6,s7]
   refine⟨?_,?_,?_⟩
   ·
    unfold qdeZ
    try simp only[s1,s3,s5,s6,s7]
    refine cloneEStr (k0.ext ec0) x.2.2.1 k2.fone (by omega) fun vk1 h1_ rk1=>?_
    have eb1:=ec0
    have ec1:=ec0.trans rk1.ex
    have c1_1:=ec1 _ _ c1
    have c3_1:=ec1 _ _ c3
    unfold qddZ
    try simp only[s1,s3,s5,s6,s7]
    refine⟨by simp[ld_at c1_1,cel_of c1_1,stm_at c1_1,ld_at c3_1,cel_of c3_1,stm_at c3_1,stm_upd,ld_same,cel_same,over],?_⟩
    refine⟨by simp[ld_at c1_1,cel_of c1_1,stm_at c1_1,ld_at c3_1,cel_of c3_1,stm_at c3_1,stm_upd,ld_same,cel_same,over],?_⟩
    refine⟨?_,?_⟩
    ·
     refine bs_one cBsStr (by simp) (by omega) fun b2 h2_ n2 e2 bk2=>?_
     have nn2:=Rf.ne_new rk1 n2
     have rkk2:=rk1.ext e2
     have ec2:=ec1.trans e2
     have c1_2:=ec2 _ _ c1
     have c3_2:=ec2 _ _ c3
     refine⟨by simp[ld_at c1_2,cel_of c1_2,stm_at c1_2,ld_at c3_2,cel_of c3_2,stm_at c3_2,stm_upd,ld_same,cel_same,over],?_⟩
     refine⟨by simp[ld_at c1_2,cel_of c1_2,stm_at c1_2,ld_at c3_2,cel_of c3_2,stm_at c3_2,stm_upd,ld_same,cel_same,over],?_⟩
     refine⟨?_,?_⟩
     ·
      refine insEStr rkk2 rfl bk2 nn2 (by omega) (by omega) (by simp) fun vk3 h3_ rk3 kb3=>?_
      have ec3:=eb1.trans rk3.ex
      have rk03:=rk3.back eb1
      have c1_3:=ec3 _ _ c1
      have c3_3:=ec3 _ _ c3
      unfold qdaZ
      try simp only[s1,s3,s5,s6,s7]
      refine⟨by simp[ld_at c1_3,cel_of c1_3,stm_at c1_3,ld_at c3_3,cel_of c3_3,stm_at c3_3,stm_upd,ld_same,cel_same,over],?_⟩
      refine⟨by simp[ld_at c1_3,cel_of c1_3,stm_at c1_3,ld_at c3_3,cel_of c3_3,stm_at c3_3,stm_upd,ld_same,cel_same,over],?_⟩
      refine⟨?_,?_⟩
      ·
       refine cloneEEnt (l0.ext ec3) x.2.2.2 l2.fone (by omega) fun vv4 h4_ rv4=>?_
       have rkk4:=rk03.ext rv4.ex
       have eb4:=ec3
       have ec4:=ec3.trans rv4.ex
       have c1_4:=ec4 _ _ c1
       have c3_4:=ec4 _ _ c3
       unfold qcYZ
       try simp only[s1,s3,s5,s6,s7]
       refine⟨by simp[ld_at c1_4,cel_of c1_4,stm_at c1_4,ld_at c3_4,cel_of c3_4,stm_at c3_4,stm_upd,ld_same,cel_same,over],?_⟩
       refine bs_one cBsEnt (by simp[presC]) (by omega) fun b5 h5_ n5 e5 bv5=>?_
       have nn5:=Rf.ne_new rkk4 n5
       have rkk5:=rkk4.ext e5
       have nv5:=Rf.ne_new rv4 n5
       have rvv5:=rv4.ext e5
       have ec5:=ec4.trans e5
       have c1_5:=ec5 _ _ c1
       have c3_5:=ec5 _ _ c3
       refine insEEnt rvv5 (by simp[presC]) bv5 nv5 (by omega) (by omega) (by simp[presC,os.1]) fun vv6 h6_ rv6 kb6=>?_
       have ec6:=eb4.trans rv6.ex
       have c1_6:=ec6 _ _ c1
       have c3_6:=ec6 _ _ c3
       unfold qcXZ
       try simp only[s1,s3,s5,s6,s7]
       exact fin2 _ _ _ ec6 (rk03.ext rv6.ex) (rv6.back eb4) _ (by simp[s6])
      ·
       refine bs_one cBsEnt (by simp[presC]) (by omega) fun b8 h8_ n8 e8 bv8=>?_
       have nn8:=Rf.ne_new rk03 n8
       have rkk8:=rk03.ext e8
       have ec8:=ec3.trans e8
       have c1_8:=ec8 _ _ c1
       have c3_8:=ec8 _ _ c3
       refine⟨by simp[ld_at c1_8,cel_of c1_8,stm_at c1_8,ld_at c3_8,cel_of c3_8,stm_at c3_8,stm_upd,ld_same,cel_same,over],?_⟩
       refine cloneEEnt (l0.ext ec8) x.2.2.2 l2.fone (by omega) fun vv9 h9_ rv9=>?_
       have rkk9:=rkk8.ext rv9.ex
       have nbv9:=Rf.ne_old rv9 bv8
       have bv9:=rv9.ex _ _ bv8
       have eb9:=ec8
       have ec9:=ec8.trans rv9.ex
       have c1_9:=ec9 _ _ c1
       have c3_9:=ec9 _ _ c3
       refine insEEnt rv9 (by simp[presC]) bv9 nbv9 (by omega) (by omega) (by simp[presC,os.1]) fun vv10 h10_ rv10 kb10=>?_
       have ec10:=eb9.trans rv10.ex
       have c1_10:=ec10 _ _ c1
       have c3_10:=ec10 _ _ c3
       unfold qcZZ
       try simp only[s1,s3,s5,s6,s7]
       exact fin2 _ _ _ ec10 (rkk8.ext rv10.ex) (rv10.back eb9) _ (by simp[s6])
     ·
      refine bs_one cBsEnt (by simp[presC]) (by omega) fun b12 h12_ n12 e12 bv12=>?_
      have nn12:=Rf.ne_new rkk2 n12
      have rkk12:=rkk2.ext e12
      have bk12:=e12 _ _ bk2
      have ec12:=ec2.trans e12
      have c1_12:=ec12 _ _ c1
      have c3_12:=ec12 _ _ c3
      refine⟨by simp[ld_at c1_12,cel_of c1_12,stm_at c1_12,ld_at c3_12,cel_of c3_12,stm_at c3_12,stm_upd,ld_same,cel_same,over],?_⟩
      refine insEStr rkk12 rfl bk12 nn2 (by omega) (by omega) (by simp) fun vk13 h13_ rk13 kb13=>?_
      have bv13:=kb13 _ _ bv12 nn12
      have ec13:=eb1.trans rk13.ex
      have rk013:=rk13.back eb1
      have c1_13:=ec13 _ _ c1
      have c3_13:=ec13 _ _ c3
      refine⟨by simp[ld_at c1_13,cel_of c1_13,stm_at c1_13,ld_at c3_13,cel_of c3_13,stm_at c3_13,stm_upd,ld_same,cel_same,over],?_⟩
      refine cloneEEnt (l0.ext ec13) x.2.2.2 l2.fone (by omega) fun vv14 h14_ rv14=>?_
      have rkk14:=rk013.ext rv14.ex
      have nbv14:=Rf.ne_old rv14 bv13
      have bv14:=rv14.ex _ _ bv13
      have eb14:=ec13
      have ec14:=ec13.trans rv14.ex
      have c1_14:=ec14 _ _ c1
      have c3_14:=ec14 _ _ c3
      refine insEEnt rv14 (by simp[presC]) bv14 nbv14 (by omega) (by omega) (by simp[presC,os.1]) fun vv15 h15_ rv15 kb15=>?_
      have ec15:=eb14.trans rv15.ex
      have c1_15:=ec15 _ _ c1
      have c3_15:=ec15 _ _ c3
      unfold qdbZ
      try simp only[s1,s3,s5,s6,s7]
      exact fin2 _ _ _ ec15 (rk013.ext rv15.ex) (rv15.back eb14) _ (by simp[s6])
    ·
     refine bs_one cBsEnt (by simp[presC]) (by omega) fun b17 h17_ n17 e17 bv17=>?_
     have nn17:=Rf.ne_new rk1 n17
     have rkk17:=rk1.ext e17
     have ec17:=ec1.trans e17
     have c1_17:=ec17 _ _ c1
     have c3_17:=ec17 _ _ c3
     refine⟨by simp[ld_at c1_17,cel_of c1_17,stm_at c1_17,ld_at c3_17,cel_of c3_17,stm_at c3_17,stm_upd,ld_same,cel_same,over],?_⟩
     refine bs_one cBsStr (by simp) (by omega) fun b18 h18_ n18 e18 bk18=>?_
     have nn18:=Rf.ne_new rkk17 n18
     have rkk18:=rkk17.ext e18
     have bv18:=e18 _ _ bv17
     have ec18:=ec17.trans e18
     have c1_18:=ec18 _ _ c1
     have c3_18:=ec18 _ _ c3
     refine⟨by simp[ld_at c1_18,cel_of c1_18,stm_at c1_18,ld_at c3_18,cel_of c3_18,stm_at c3_18,stm_upd,ld_same,cel_same,over],?_⟩
     refine insEStr rkk18 rfl bk18 nn18 (by omega) (by omega) (by simp) fun vk19 h19_ rk19 kb19=>?_
     have bv19:=kb19 _ _ bv18 nn17
     have ec19:=eb1.trans rk19.ex
     have rk019:=rk19.back eb1
     have c1_19:=ec19 _ _ c1
     have c3_19:=ec19 _ _ c3
     refine⟨by simp[ld_at c1_19,cel_of c1_19,stm_at c1_19,ld_at c3_19,cel_of c3_19,stm_at c3_19,stm_upd,ld_same,cel_same,over],?_⟩
     refine cloneEEnt (l0.ext ec19) x.2.2.2 l2.fone (by omega) fun vv20 h20_ rv20=>?_
     have rkk20:=rk019.ext rv20.ex
     have nbv20:=Rf.ne_old rv20 bv19
     have bv20:=rv20.ex _ _ bv19
     have eb20:=ec19
     have ec20:=ec19.trans rv20.ex
     have c1_20:=ec20 _ _ c1
     have c3_20:=ec20 _ _ c3
     refine insEEnt rv20 (by simp[presC]) bv20 nbv20 (by omega) (by omega) (by simp[presC,os.1]) fun vv21 h21_ rv21 kb21=>?_
     have ec21:=eb20.trans rv21.ex
     have c1_21:=ec21 _ _ c1
     have c3_21:=ec21 _ _ c3
     unfold qdcZ
     try simp only[s1,s3,s5,s6,s7]
     exact fin2 _ _ _ ec21 (rk019.ext rv21.ex) (rv21.back eb20) _ (by simp[s6])
   ·
    unfold qdmZ
    try simp only[s1,s3,s5,s6,s7]
    refine bs_one cBsStr (by simp) (by omega) fun b23 h23_ n23 e23 bk23=>?_
    have ec23:=ec0.trans e23
    have c1_23:=ec23 _ _ c1
    have c3_23:=ec23 _ _ c3
    refine⟨by simp[ld_at c1_23,cel_of c1_23,stm_at c1_23,ld_at c3_23,cel_of c3_23,stm_at c3_23,stm_upd,ld_same,cel_same,over],?_⟩
    refine⟨by simp[ld_at c1_23,cel_of c1_23,stm_at c1_23,ld_at c3_23,cel_of c3_23,stm_at c3_23,stm_upd,ld_same,cel_same,over],?_⟩
    refine⟨by simp[ld_at c1_23,cel_of c1_23,stm_at c1_23,ld_at c3_23,cel_of c3_23,stm_at c3_23,stm_upd,ld_same,cel_same,over],?_⟩
    refine⟨?_,?_⟩
    ·
     refine cloneEStr (k0.ext ec23) x.2.2.1 k2.fone (by omega) fun vk24 h24_ rk24=>?_
     have nbk24:=Rf.ne_old rk24 bk23
     have bk24:=rk24.ex _ _ bk23
     have eb24:=ec23
     have ec24:=ec23.trans rk24.ex
     have c1_24:=ec24 _ _ c1
     have c3_24:=ec24 _ _ c3
     unfold qdkZ
     try simp only[s1,s3,s5,s6,s7]
     refine⟨by simp[ld_at c1_24,cel_of c1_24,stm_at c1_24,ld_at c3_24,cel_of c3_24,stm_at c3_24,stm_upd,ld_same,cel_same,over],?_⟩
     refine⟨by simp[ld_at c1_24,cel_of c1_24,stm_at c1_24,ld_at c3_24,cel_of c3_24,stm_at c3_24,stm_upd,ld_same,cel_same,over],?_⟩
     refine⟨?_,?_⟩
     ·
      refine insEStr rk24 rfl bk24 nbk24 (by omega) (by omega) (by simp) fun vk25 h25_ rk25 kb25=>?_
      have ec25:=eb24.trans rk25.ex
      have rk025:=rk25.back eb24
      have c1_25:=ec25 _ _ c1
      have c3_25:=ec25 _ _ c3
      unfold qdiZ
      try simp only[s1,s3,s5,s6,s7]
      refine⟨by simp[ld_at c1_25,cel_of c1_25,stm_at c1_25,ld_at c3_25,cel_of c3_25,stm_at c3_25,stm_upd,ld_same,cel_same,over],?_⟩
      refine⟨by simp[ld_at c1_25,cel_of c1_25,stm_at c1_25,ld_at c3_25,cel_of c3_25,stm_at c3_25,stm_upd,ld_same,cel_same,over],?_⟩
      refine⟨?_,?_⟩
      ·
       refine cloneEEnt (l0.ext ec25) x.2.2.2 l2.fone (by omega) fun vv26 h26_ rv26=>?_
       have rkk26:=rk025.ext rv26.ex
       have eb26:=ec25
       have ec26:=ec25.trans rv26.ex
       have c1_26:=ec26 _ _ c1
       have c3_26:=ec26 _ _ c3
       unfold qdgZ
       try simp only[s1,s3,s5,s6,s7]
       refine⟨by simp[ld_at c1_26,cel_of c1_26,stm_at c1_26,ld_at c3_26,cel_of c3_26,stm_at c3_26,stm_upd,ld_same,cel_same,over],?_⟩
       refine bs_one cBsEnt (by simp[presC]) (by omega) fun b27 h27_ n27 e27 bv27=>?_
       have nn27:=Rf.ne_new rkk26 n27
       have rkk27:=rkk26.ext e27
       have nv27:=Rf.ne_new rv26 n27
       have rvv27:=rv26.ext e27
       have ec27:=ec26.trans e27
       have c1_27:=ec27 _ _ c1
       have c3_27:=ec27 _ _ c3
       refine insEEnt rvv27 (by simp[presC]) bv27 nv27 (by omega) (by omega) (by simp[presC,os.1]) fun vv28 h28_ rv28 kb28=>?_
       have ec28:=eb26.trans rv28.ex
       have c1_28:=ec28 _ _ c1
       have c3_28:=ec28 _ _ c3
       unfold qdfZ
       try simp only[s1,s3,s5,s6,s7]
       exact fin2 _ _ _ ec28 (rk025.ext rv28.ex) (rv28.back eb26) _ (by simp[s6])
      ·
       refine bs_one cBsEnt (by simp[presC]) (by omega) fun b30 h30_ n30 e30 bv30=>?_
       have nn30:=Rf.ne_new rk025 n30
       have rkk30:=rk025.ext e30
       have ec30:=ec25.trans e30
       have c1_30:=ec30 _ _ c1
       have c3_30:=ec30 _ _ c3
       refine⟨by simp[ld_at c1_30,cel_of c1_30,stm_at c1_30,ld_at c3_30,cel_of c3_30,stm_at c3_30,stm_upd,ld_same,cel_same,over],?_⟩
       refine cloneEEnt (l0.ext ec30) x.2.2.2 l2.fone (by omega) fun vv31 h31_ rv31=>?_
       have rkk31:=rkk30.ext rv31.ex
       have nbv31:=Rf.ne_old rv31 bv30
       have bv31:=rv31.ex _ _ bv30
       have eb31:=ec30
       have ec31:=ec30.trans rv31.ex
       have c1_31:=ec31 _ _ c1
       have c3_31:=ec31 _ _ c3
       refine insEEnt rv31 (by simp[presC]) bv31 nbv31 (by omega) (by omega) (by simp[presC,os.1]) fun vv32 h32_ rv32 kb32=>?_
       have ec32:=eb31.trans rv32.ex
       have c1_32:=ec32 _ _ c1
       have c3_32:=ec32 _ _ c3
       unfold qdhZ
       try simp only[s1,s3,s5,s6,s7]
       exact fin2 _ _ _ ec32 (rkk30.ext rv32.ex) (rv32.back eb31) _ (by simp[s6])
     ·
      refine bs_one cBsEnt (by simp[presC]) (by omega) fun b34 h34_ n34 e34 bv34=>?_
      have nn34:=Rf.ne_new rk24 n34
      have rkk34:=rk24.ext e34
      have bk34:=e34 _ _ bk24
      have ec34:=ec24.trans e34
      have c1_34:=ec34 _ _ c1
      have c3_34:=ec34 _ _ c3
      refine⟨by simp[ld_at c1_34,cel_of c1_34,stm_at c1_34,ld_at c3_34,cel_of c3_34,stm_at c3_34,stm_upd,ld_same,cel_same,over],?_⟩
      refine insEStr rkk34 rfl bk34 nbk24 (by omega) (by omega) (by simp) fun vk35 h35_ rk35 kb35=>?_
      have bv35:=kb35 _ _ bv34 nn34
      have ec35:=eb24.trans rk35.ex
      have rk035:=rk35.back eb24
      have c1_35:=ec35 _ _ c1
      have c3_35:=ec35 _ _ c3
      refine⟨by simp[ld_at c1_35,cel_of c1_35,stm_at c1_35,ld_at c3_35,cel_of c3_35,stm_at c3_35,stm_upd,ld_same,cel_same,over],?_⟩
      refine cloneEEnt (l0.ext ec35) x.2.2.2 l2.fone (by omega) fun vv36 h36_ rv36=>?_
      have rkk36:=rk035.ext rv36.ex
      have nbv36:=Rf.ne_old rv36 bv35
      have bv36:=rv36.ex _ _ bv35
      have eb36:=ec35
      have ec36:=ec35.trans rv36.ex
      have c1_36:=ec36 _ _ c1
      have c3_36:=ec36 _ _ c3
      refine insEEnt rv36 (by simp[presC]) bv36 nbv36 (by omega) (by omega) (by simp[presC,os.1]) fun vv37 h37_ rv37 kb37=>?_
      have ec37:=eb36.trans rv37.ex
      have c1_37:=ec37 _ _ c1
      have c3_37:=ec37 _ _ c3
      unfold qdjZ
      try simp only[s1,s3,s5,s6,s7]
      exact fin2 _ _ _ ec37 (rk035.ext rv37.ex) (rv37.back eb36) _ (by simp[s6])
    ·
     refine bs_one cBsEnt (by simp[presC]) (by omega) fun b39 h39_ n39 e39 bv39=>?_
     have bk39:=e39 _ _ bk23
     have ec39:=ec23.trans e39
     have c1_39:=ec39 _ _ c1
     have c3_39:=ec39 _ _ c3
     refine⟨by simp[ld_at c1_39,cel_of c1_39,stm_at c1_39,ld_at c3_39,cel_of c3_39,stm_at c3_39,stm_upd,ld_same,cel_same,over],?_⟩
     refine⟨by simp[ld_at c1_39,cel_of c1_39,stm_at c1_39,ld_at c3_39,cel_of c3_39,stm_at c3_39,stm_upd,ld_same,cel_same,over],?_⟩
     refine cloneEStr (k0.ext ec39) x.2.2.1 k2.fone (by omega) fun vk40 h40_ rk40=>?_
     have nbk40:=Rf.ne_old rk40 bk39
     have bk40:=rk40.ex _ _ bk39
     have nx40:=Rf.ne_old rk40 bv39
     have bv40:=rk40.ex _ _ bv39
     have eb40:=ec39
     have ec40:=ec39.trans rk40.ex
     have c1_40:=ec40 _ _ c1
     have c3_40:=ec40 _ _ c3
     refine⟨by simp[ld_at c1_40,cel_of c1_40,stm_at c1_40,ld_at c3_40,cel_of c3_40,stm_at c3_40,stm_upd,ld_same,cel_same,over],?_⟩
     refine insEStr rk40 rfl bk40 nbk40 (by omega) (by omega) (by simp) fun vk41 h41_ rk41 kb41=>?_
     have bv41:=kb41 _ _ bv40 nx40
     have ec41:=eb40.trans rk41.ex
     have rk041:=rk41.back eb40
     have c1_41:=ec41 _ _ c1
     have c3_41:=ec41 _ _ c3
     refine⟨by simp[ld_at c1_41,cel_of c1_41,stm_at c1_41,ld_at c3_41,cel_of c3_41,stm_at c3_41,stm_upd,ld_same,cel_same,over],?_⟩
     refine cloneEEnt (l0.ext ec41) x.2.2.2 l2.fone (by omega) fun vv42 h42_ rv42=>?_
     have rkk42:=rk041.ext rv42.ex
     have nbv42:=Rf.ne_old rv42 bv41
     have bv42:=rv42.ex _ _ bv41
     have eb42:=ec41
     have ec42:=ec41.trans rv42.ex
     have c1_42:=ec42 _ _ c1
     have c3_42:=ec42 _ _ c3
     refine insEEnt rv42 (by simp[presC]) bv42 nbv42 (by omega) (by omega) (by simp[presC,os.1]) fun vv43 h43_ rv43 kb43=>?_
     have ec43:=eb42.trans rv43.ex
     have c1_43:=ec43 _ _ c1
     have c3_43:=ec43 _ _ c3
     unfold qdlZ
     try simp only[s1,s3,s5,s6,s7]
     exact fin2 _ _ _ ec43 (rk041.ext rv43.ex) (rv43.back eb42) _ (by simp[s6])
   ·
    unfold qdqZ
    try simp only[s1,s3,s5,s6,s7]
    refine bs_one cBsEnt (by simp[presC]) (by omega) fun b45 h45_ n45 e45 bv45=>?_
    have ec45:=ec0.trans e45
    have c1_45:=ec45 _ _ c1
    have c3_45:=ec45 _ _ c3
    refine⟨by simp[ld_at c1_45,cel_of c1_45,stm_at c1_45,ld_at c3_45,cel_of c3_45,stm_at c3_45,stm_upd,ld_same,cel_same,over],?_⟩
    refine⟨by simp[ld_at c1_45,cel_of c1_45,stm_at c1_45,ld_at c3_45,cel_of c3_45,stm_at c3_45,stm_upd,ld_same,cel_same,over],?_⟩
    refine⟨?_,?_⟩
    ·
     refine cloneEStr (k0.ext ec45) x.2.2.1 k2.fone (by omega) fun vk46 h46_ rk46=>?_
     have nx46:=Rf.ne_old rk46 bv45
     have bv46:=rk46.ex _ _ bv45
     have eb46:=ec45
     have ec46:=ec45.trans rk46.ex
     have c1_46:=ec46 _ _ c1
     have c3_46:=ec46 _ _ c3
     unfold qdoZ
     try simp only[s1,s3,s5,s6,s7]
     refine⟨by simp[ld_at c1_46,cel_of c1_46,stm_at c1_46,ld_at c3_46,cel_of c3_46,stm_at c3_46,stm_upd,ld_same,cel_same,over],?_⟩
     refine bs_one cBsStr (by simp) (by omega) fun b47 h47_ n47 e47 bk47=>?_
     have nn47:=Rf.ne_new rk46 n47
     have rkk47:=rk46.ext e47
     have bv47:=e47 _ _ bv46
     have ec47:=ec46.trans e47
     have c1_47:=ec47 _ _ c1
     have c3_47:=ec47 _ _ c3
     refine⟨by simp[ld_at c1_47,cel_of c1_47,stm_at c1_47,ld_at c3_47,cel_of c3_47,stm_at c3_47,stm_upd,ld_same,cel_same,over],?_⟩
     refine insEStr rkk47 rfl bk47 nn47 (by omega) (by omega) (by simp) fun vk48 h48_ rk48 kb48=>?_
     have bv48:=kb48 _ _ bv47 nx46
     have ec48:=eb46.trans rk48.ex
     have rk048:=rk48.back eb46
     have c1_48:=ec48 _ _ c1
     have c3_48:=ec48 _ _ c3
     refine⟨by simp[ld_at c1_48,cel_of c1_48,stm_at c1_48,ld_at c3_48,cel_of c3_48,stm_at c3_48,stm_upd,ld_same,cel_same,over],?_⟩
     refine cloneEEnt (l0.ext ec48) x.2.2.2 l2.fone (by omega) fun vv49 h49_ rv49=>?_
     have rkk49:=rk048.ext rv49.ex
     have nbv49:=Rf.ne_old rv49 bv48
     have bv49:=rv49.ex _ _ bv48
     have eb49:=ec48
     have ec49:=ec48.trans rv49.ex
     have c1_49:=ec49 _ _ c1
     have c3_49:=ec49 _ _ c3
     refine insEEnt rv49 (by simp[presC]) bv49 nbv49 (by omega) (by omega) (by simp[presC,os.1]) fun vv50 h50_ rv50 kb50=>?_
     have ec50:=eb49.trans rv50.ex
     have c1_50:=ec50 _ _ c1
     have c3_50:=ec50 _ _ c3
     unfold qdnZ
     try simp only[s1,s3,s5,s6,s7]
     exact fin2 _ _ _ ec50 (rk048.ext rv50.ex) (rv50.back eb49) _ (by simp[s6])
    ·
     refine bs_one cBsStr (by simp) (by omega) fun b52 h52_ n52 e52 bk52=>?_
     have bv52:=e52 _ _ bv45
     have ec52:=ec45.trans e52
     have c1_52:=ec52 _ _ c1
     have c3_52:=ec52 _ _ c3
     refine⟨by simp[ld_at c1_52,cel_of c1_52,stm_at c1_52,ld_at c3_52,cel_of c3_52,stm_at c3_52,stm_upd,ld_same,cel_same,over],?_⟩
     refine⟨by simp[ld_at c1_52,cel_of c1_52,stm_at c1_52,ld_at c3_52,cel_of c3_52,stm_at c3_52,stm_upd,ld_same,cel_same,over],?_⟩
     refine cloneEStr (k0.ext ec52) x.2.2.1 k2.fone (by omega) fun vk53 h53_ rk53=>?_
     have nbk53:=Rf.ne_old rk53 bk52
     have bk53:=rk53.ex _ _ bk52
     have nx53:=Rf.ne_old rk53 bv52
     have bv53:=rk53.ex _ _ bv52
     have eb53:=ec52
     have ec53:=ec52.trans rk53.ex
     have c1_53:=ec53 _ _ c1
     have c3_53:=ec53 _ _ c3
     refine⟨by simp[ld_at c1_53,cel_of c1_53,stm_at c1_53,ld_at c3_53,cel_of c3_53,stm_at c3_53,stm_upd,ld_same,cel_same,over],?_⟩
     refine insEStr rk53 rfl bk53 nbk53 (by omega) (by omega) (by simp) fun vk54 h54_ rk54 kb54=>?_
     have bv54:=kb54 _ _ bv53 nx53
     have ec54:=eb53.trans rk54.ex
     have rk054:=rk54.back eb53
     have c1_54:=ec54 _ _ c1
     have c3_54:=ec54 _ _ c3
     refine⟨by simp[ld_at c1_54,cel_of c1_54,stm_at c1_54,ld_at c3_54,cel_of c3_54,stm_at c3_54,stm_upd,ld_same,cel_same,over],?_⟩
     refine cloneEEnt (l0.ext ec54) x.2.2.2 l2.fone (by omega) fun vv55 h55_ rv55=>?_
     have rkk55:=rk054.ext rv55.ex
     have nbv55:=Rf.ne_old rv55 bv54
     have bv55:=rv55.ex _ _ bv54
     have eb55:=ec54
     have ec55:=ec54.trans rv55.ex
     have c1_55:=ec55 _ _ c1
     have c3_55:=ec55 _ _ c3
     refine insEEnt rv55 (by simp[presC]) bv55 nbv55 (by omega) (by omega) (by simp[presC,os.1]) fun vv56 h56_ rv56 kb56=>?_
     have ec56:=eb55.trans rv56.ex
     have c1_56:=ec56 _ _ c1
     have c3_56:=ec56 _ _ c3
     unfold qdpZ
     try simp only[s1,s3,s5,s6,s7]
     exact fin2 _ _ _ ec56 (rk054.ext rv56.ex) (rv56.back eb55) _ (by simp[s6])
  unfold qdAZ
  simp -implicitDefEqProofs only[thenM_n]
  unfold qaGZ
  rw[seqM_eq]
  refine main _ ?_ ?_ ?_ ?_ ?_<;>simp
end Go.Proofs.YtmbningljbcpkaaGreat
namespace Go.Proofs.YtmbningljbcpkaaGreat
open Go Go.Den Go.MapKept
set_option linter.unusedSimpArgs false
set_option linter.unusedVariables false
set_option maxRecDepth 20000
def WsR (h:Heap)(k v:Value)(b:List (ByteArray × Int)):Prop:=Sl 1 StrR h k (b.map (·.1))∧Sl 1 MaskR h v (b.map (·.2))∧Sn k∧Sn v
variable {K:KTy}
theorem mfind_ok (l:List ByteArray)(so:SrtK l)(u:ByteArray){h:Heap}{kw vw:Value}(ov_:vw.cells=#[vw])(x:Sl 1 StrR h kw l)(hl:l.length<1000000)(hk:∀ h',Ext h h'→K (.tuple #[.int .i64 (pos l u),.bool (l.any fun k=>decide (k=u))]) h') :
  callM P qbJZ #[.agg #[kw,vw],.string u] h K:=by
 apply qnwZ
 unfold qcfZ
 refine nw_agg fun v1 h1 n1 e1 c1=>?_
 simp -implicitDefEqProofs[ld_at c1,cel_of c1,stm_at c1,stm_upd,ld_same,cel_same,over]
 refine bs_ok l so u (x.ext (@StrR.ext) e1) hl ?_
 simp -implicitDefEqProofs
 exact hk _ e1
end Go.Proofs.YtmbningljbcpkaaGreat
namespace Go.Den
open Go
set_option linter.unusedVariables false
variable {P:Program}{g:Nat→Bool}
theorem rf_itL (hg:GoodP P g)(hm:P.follows .mixedOrders=true){gv:Value}{gf:FuncId}{lb:Array Value}{xs:List (Array Value)}{hA:Heap}(hgv:gv = .func (.func gf) #[] lb)(hgf:g gf=true)(it:It P gf lb xs hA)
  {ps:Array Tmp} {zas bd:Code} {m:List Nat} {s:Env} {h:Heap} {Q:Post} (J:Nat→Nat→Nat→Heap→Prop) (S:Nat→Nat→Exit→Heap→Prop)
  (h0:∀ l b,h l=none→h b=none→J l b 0 h) (hx:∀ l b i h',J l b i h'→Ext hA h') (hk:∀ l b,h l=none→h b=none→∀ i h' h'',J l b i h'→Keep (some l) h' h''→J l b i h'') (hkS:∀ l b,h l=none→h b=none→∀ e h' h'',S l b e h'→Keep (some l) h' h''→S l b e h'')
  (hsz:∀ i (hi:i<xs.length),xs[i].size=ps.size)
  (round:∀ i (hi:i<xs.length) l b h' h2,h l=none→h b=none→J l b i h'→Keep (some l) h' h2→(∃ o,h2 l=some o)→(∃ o,h2 b=some o) →
   ∃ A:List Nat→Env→Heap→Prop,(∀ m2 s2 h3 h4,A m2 s2 h3→Keep (some l) h3 h4→A m2 s2 h4) ∧
    den P g zas [] (puts s (ps.toList.zip xs[i].toList)) h2 (fun e m2 s2 h3=>e = .normal∧A m2 s2 h3∧h3 l=h2 l∧h3 b=h2 b) ∧
    ∀ m2 s2 h3,A m2 s2 h3→(∃ o,h3 l=some o)→(∃ o,h3 b=some o) →
     den P g bd m2 s2 h3 (fun e _ _ h4=>h4 l=h3 l∧h4 b=h3 b∧match e with
      | .normal=>J l b (i+1) h4
      | .ret=>S l b .ret h4
      | .exit id=>S l b (.exit id) h4
      | _=>False))
  (hend:∀ l b h',h l=none→l≠b→h b=none→h' b=some (.deferred (some []))→J l b xs.length h'→Q .normal (b::m) s h')
  (hret:∀ l b h',h l=none→l≠b→h b=none→h' b=some (.deferred (some []))→S l b .ret h'→Q .ret (b::m) s h')
  (hexit:∀ id l b h',h l=none→l≠b→h b=none→h' b=some (.deferred (some []))→S l b (.exit id) h'→Q (.exit id) (b::m) s h'):rfM P g gv ps zas bd m s h Q:=by
 refine⟨gf,lb,hgv,hgf,fun fn tmps b l hs hf hb hl hlb=>?_⟩
 obtain⟨R,hR⟩:∃ R:Loop,R={ state:=.ready,pending:=none,fn,tmps,params:=ps,assign:=zas,body:=bd,defers:=b }:=⟨_,rfl⟩
 rw[← hR]
 have hfb:fz (fun _=>[]) h=h:=fz_nil h
 let I:Nat→Heap→Prop:=fun i h'=>J l b i h'∧h' b=some (.deferred (some []))∧h' l=some (.loop R)
 let St:Heap→Prop:=fun h'=>h' b=some (.deferred (some []))∧((∃ r:Loop,h' l=some (.loop r)∧r.state = .done∧r.pending=some .ret∧S l b .ret h')∨(∃ id,∃ r:Loop,h' l=some (.loop r)∧r.state = .done∧r.pending=some (.exit id)∧S l b (.exit id) h'))
 have e1:Ext h (upd (upd h b (.deferred (some []))) l (.loop R)):=ext_upd hl (Ext.upd hb _)
 have start:I 0 (upd (upd h b (.deferred (some []))) l (.loop R)):=by
  refine⟨hk l b hl hb 0 h _ (h0 l b hl hb) fun k o e _=>e1 k o e,?_,upd_same' _ _ _⟩
  rw[upd_ne (Ne.symm hlb),upd_same']
 refine it (.func (.yield l) #[] #[]) I St _ _ (fun i h' hi=>hx l b i h' hi.1) (fun i h' h'' hi e=>⟨hk l b hl hb i h' h'' hi.1 fun k o ek _=>e k o ek,e _ _ hi.2.1,e _ _ hi.2.2⟩) start ?_ ?_ ?_
 ·intro i hi h' K' hI hK1 hK2
  obtain⟨hJ,hb',hl'⟩:=hI
  have hps:ps=R.params:=by rw[hR]
  refine nx_yield hl' (by rw[hsz i hi,hps]) ?_
  simp only[Bool.and_eq_true] at hf
  obtain⟨⟨⟨⟨f1,f2⟩,f3⟩,f4⟩,f5⟩:=hf
  have hR1:R.params=ps:=hps.symm
  have hR2:R.tmps=tmps:=by rw[hR]
  have hR3:R.assign=zas:=by rw[hR]
  have hR4:R.body=bd:=by rw[hR]
  have hR5:R.state = .ready:=by rw[hR]
  rw[hR1,hR2,hR3,hR4]
  have hfold:(ps.zip xs[i]).foldl (fun tmps (t,a)=>tmps.setIfInBounds t a) tmps=(ps.toList.zip xs[i].toList).foldl (fun tmps (x:Tmp × Value)=>tmps.setIfInBounds x.1 x.2) tmps:=by
   rw[← Array.foldl_toList,Array.toList_zip]
  rw[hfold]
  obtain⟨g1,g2⟩:=getD_fold (ps:=ps.toList) (xs:=xs[i].toList) hs f1
  obtain⟨A,a1,a2,a3⟩:=round i hi l b h' h' hl hb hJ (fun k o e _=>e) ⟨_,hl'⟩ ⟨_,hb'⟩
  refine round_of_den2 hg hm g1 (by rw[g2]; simp[f2,f3,f4,f5]) a2 (fun m2 s2 h2 hq=>?_) (fun e m2 s2 h2 he hq=>he hq.1)
  obtain⟨_,hA2,hl2,hb2⟩:=hq
  have hl2':h2 l=some (.loop R):=by rw[hl2]; exact hl'
  have hb2':h2 b=some (.deferred (some [])):=by rw[hb2]; exact hb'
  refine⟨R,hl2',hR5,_,a3 m2 s2 _ (a1 _ _ _ _ hA2 keep_upd) ⟨_,upd_same' _ _ _⟩ ⟨_,by rw[upd_ne (Ne.symm hlb)]; exact hb2'⟩,fun e m4 s4 h4 hq=>?_⟩
  obtain⟨hl4,hb4,hq⟩:=hq
  rw[upd_same'] at hl4
  rw[upd_ne (Ne.symm hlb)] at hb4
  have hb4':h4 b=some (.deferred (some [])):=by rw[hb4]; exact hb2'
  refine⟨_,hl4,?_⟩
  cases e with
  | normal =>
   refine hK1 _ ⟨hk l b hl hb _ _ _ hq keep_upd,by rw[upd_ne (Ne.symm hlb)]; exact hb4',?_⟩
   rw[upd_same',hR]
  | ret =>
   refine hK2 _ ⟨by rw[upd_ne (Ne.symm hlb)]; exact hb4',.inl ⟨_,upd_same' _ _ _,rfl,rfl,hkS l b hl hb _ _ _ hq keep_upd⟩⟩
  | exit id =>
   refine hK2 _ ⟨by rw[upd_ne (Ne.symm hlb)]; exact hb4',.inr ⟨id,_,upd_same' _ _ _,rfl,rfl,hkS l b hl hb _ _ _ hq keep_upd⟩⟩
  | _=>exact hq.elim
 ·intro v h' hI
  refine⟨R,hI.2.2,by rw[hR]; simp,?_⟩
  have:R.pending=none:=by rw[hR]
  rw[this]
  exact hend l b _ hl hlb hb (by rw[upd_ne (Ne.symm hlb)]; exact hI.2.1) (hk l b hl hb _ _ _ hI.1 keep_upd)
 ·intro v h' hS
  obtain⟨hb',hS⟩:=hS
  rcases hS with ⟨r,hl',hst,hp,hs'⟩ | ⟨id,r,hl',hst,hp,hs'⟩
  ·refine⟨r,hl',by rw[hst]; simp,?_⟩
   rw[hp]
   exact hret l b _ hl hlb hb (by rw[upd_ne (Ne.symm hlb)]; exact hb') (hkS l b hl hb _ _ _ hs' keep_upd)
  ·refine⟨r,hl',by rw[hst]; simp,?_⟩
   rw[hp]
   exact hexit id l b _ hl hlb hb (by rw[upd_ne (Ne.symm hlb)]; exact hb') (hkS l b hl hb _ _ _ hs' keep_upd)
theorem rf_go (hg : GoodP P g) (hm : P.follows .mixedOrders = true) {gv : Value} {gf : FuncId} {lb : Array Value} {xs : List (Array Value)} {hA : Heap} (hgv : gv = .func (.func gf) #[] lb) (hgf : g gf = true) (it : It P gf lb xs hA)
    {ps : Array Tmp} {zas bd : Code} {m : List Nat} {s : Env} {h : Heap} {Q : Post} (J : Nat → Nat → Nat → Heap → Prop) (S : Nat → Nat → Exit → Heap → Prop) (C : Nat → Nat → Nat → Env → Heap → Prop)
    (h0 : ∀ l b, h l = none → h b = none → J l b 0 h) (hx : ∀ l b i h', J l b i h' → Ext hA h') (hk : ∀ l b, h l = none → h b = none → ∀ i h' h'', J l b i h' → Keep (some l) h' h'' → J l b i h'') (hkS : ∀ l b, h l = none → h b = none → ∀ e h' h'', S l b e h' → Keep (some l) h' h'' → S l b e h'')
    (hC : ∀ l b i s2 h3 h4, h l = none → h b = none → C l b i s2 h3 → Keep (some l) h3 h4 → C l b i s2 h4)
    (hsz : ∀ i (hi : i < xs.length), xs[i].size = ps.size)
    (asg : ∀ i (hi : i < xs.length) l b h2, h l = none → h b = none → (∃ o, h2 l = some o) → (∃ o, h2 b = some o) → J l b i h2 →
      den P g zas [] (puts s (ps.toList.zip xs[i].toList)) h2 (fun e m2 s2 h3 => e = .normal ∧ (m2 = [] ∧ C l b i s2 h3) ∧ h3 l = h2 l ∧ h3 b = h2 b))
    (body : ∀ i (hi : i < xs.length) l b s2 h3, h l = none → h b = none → (∃ o, h3 l = some o) → (∃ o, h3 b = some o) → C l b i s2 h3 →
      den P g bd [] s2 h3 (fun e _ _ h4 => h4 l = h3 l ∧ h4 b = h3 b ∧ match e with
            | .normal => J l b (i + 1) h4
            | .ret => S l b .ret h4
            | .exit id => S l b (.exit id) h4
            | _ => False))
    (hend : ∀ l b h', h l = none → l ≠ b → h b = none → h' b = some (.deferred (some [])) → J l b xs.length h' → Q .normal (b :: m) s h')
    (hret : ∀ l b h', h l = none → l ≠ b → h b = none → h' b = some (.deferred (some [])) → S l b .ret h' → Q .ret (b :: m) s h')
    (hexit : ∀ id l b h', h l = none → l ≠ b → h b = none → h' b = some (.deferred (some [])) → S l b (.exit id) h' → Q (.exit id) (b :: m) s h') : rfM P g gv ps zas bd m s h Q := by
  refine rf_itL hg hm hgv hgf it J S h0 hx hk hkS hsz (fun i hi l b h' h2 hl hb hJ hkp hl2 hb2 => ?_) hend hret hexit
  refine ⟨fun m2 s2 h3 => m2 = [] ∧ C l b i s2 h3, fun m2 s2 h3 h4 hc hkp => ⟨hc.1, hC l b i s2 h3 h4 hl hb hc.2 hkp⟩, ?_, fun m2 s2 h3 hc hl3 hb3 => ?_⟩
  · exact asg i hi l b h2 hl hb hl2 hb2 (hk l b hl hb i h' h2 hJ hkp)
  · obtain ⟨rfl, hc⟩ := hc
    exact body i hi l b s2 h3 hl hb hl3 hb3 hc
end Go.Den
namespace Go.Proofs.YtmbningljbcpkaaGreat
open Go Go.Den Go.MapKept
set_option linter.unusedSimpArgs false
set_option linter.unusedVariables false
set_option maxRecDepth 20000
theorem mask_at {F:Heap}{v:Value}{l:List Int}(x:Sl 1 MaskR F v l){i:Nat}(hi:i<l.length){k:IntKind}:∃ b p,iaV (some (none,1)) v (.int k i)=some (.pointer (some ⟨b,p,none⟩))∧∀ h',Ext F h'→cel h' b p=some (.int .u32 l[i]):=by
 obtain⟨b,p,c,h1,h2,h3⟩:=x.at (k:=k) (i:=i) (by omega) (by omega)
 refine⟨b,p,h1,fun h' e=>?_⟩
 have hc:c=[.int .u32 l[i]]:=h3
 subst hc
 have:=(cels_get (cels_ext e h2)).2 0 (by simp)
 simpa using this
variable {K:KTy}
theorem mget_ok (b:List (ByteArray × Int))(so:SrtK (keysL b))(u:ByteArray){F h:Heap}(eF:Ext F h){kw vw:Value}(x:WsR F kw vw b)(hl:b.length<1000000)
  (hk:∀ h',Ext h h'→K (.tuple #[.int .u32 (valL 0 b u),.bool (hasL b u)]) h'):callM P qceZ #[.agg #[kw,vw],.string u] h K:=by
 apply qoIZ
 unfold qcxZ
 refine nw_agg fun v1 h1 n1 e1 c1=>?_
 simp -implicitDefEqProofs[ld_at c1,cel_of c1,stm_at c1,stm_upd,ld_same,cel_same,over]
 refine mfind_ok (keysL b) so u x.2.1.one.2 (x.1.ext (@StrR.ext) (eF.trans e1)) (by simpa [keysL] using hl) fun h6 e6=>?_
 have c1:=e6 _ _ c1
 have e0:=e1.trans e6
 unfold qeZZ
 simp -implicitDefEqProofs only[exV_0,exV_1,ov_s,unV_n,cd_b]
 refine⟨fun hn=>?_,fun hy=>?_⟩
 ·have hno':hasL b u=false:=by
   have h2:(!hasL b u)=true:=hn
   cases h3:hasL b u with
   | false=>rfl
   | true=>rw[h3] at h2; cases h2
  have hno:u ∉ keysL b:=fun hh=>by rw[hasL_iff.2 hh] at hno'; cases hno'
  exact kv (hk _ e0) (by rw[valL_none hno,hno'])
 ·have hyes:hasL b u=true:=by
   have h2:(!hasL b u)=false:=hy
   cases h3:hasL b u with
   | true=>rfl
   | false=>rw[h3] at h2; cases h2
  obtain⟨h1,h2⟩:=(mem_pos so u).1 (hasL_iff.1 hyes)
  have hlen:(keysL b).length=b.length:=by simp[keysL]
  have hp:pos (keysL b) u<b.length:=by omega
  have hu:b[pos (keysL b) u].1=u:=by simpa [keysL] using h2
  have he:valL 0 b u=b[pos (keysL b) u].2:=by
   have:=valL_mem (d:=0) so hp
   rw[hu] at this; exact this
  obtain⟨eb,eo,i1,i2⟩:=mask_at x.2.1 (k:=.i64) (i:=pos (keysL b) u) (by simpa using hp)
  have i2:=i2 _ (eF.trans e0)
  unfold qeYZ
  simp -implicitDefEqProofs[ld_at c1,cel_of c1,stm_at c1,stm_upd,ld_same,cel_same,over,i1,i2]
  exact kv (hk _ e0) (by rw[hyes,he])
theorem without_ok (b:Book)(so:SrtK (keysL b))(u:ByteArray){T:Tags}{h:Heap}(w:Wf T h){kw vw:Value}(x:BookR (fz T h) kw vw b)(hl:b.length<1000000)
  (hk:∀ h' k v,Ext h h'→BookR (fz T h') k v (delB b u)→K (.agg #[k,v]) h'):callM P qavZ #[.agg #[kw,vw],.string u] h K:=by
 apply qjCZ
 unfold qaEZ
 rw[zcMap]
 refine nw_agg fun v1 h1 n1 e1 c1=>?_
 refine nw_intro fun v3 h3 n3 e3 c3=>?_
 have c1:=e3 _ _ c1
 have n3:=fresh_of e1 n3
 have e0:=e1.trans e3
 have kl:(keysL b).length=b.length:=by simp[keysL]
 have o1:=x.1.one
 have o2:=x.2.1.one
 simp -implicitDefEqProofs[ld_at c1,cel_of c1,stm_at c1,stm_upd,ld_same,cel_same,over]
 refine find_ok (keysL b) so u x.2.1.one.2 (x.1.ext (@StrR.ext) ((fz_ext T h).trans e0)) (by omega) fun h6 e6=>?_
 have c1:=e6 _ _ c1
 have c3:=e6 _ _ c3
 have e0:=e0.trans e6
 unfold qcqZ
 simp -implicitDefEqProofs only[exV_0,exV_1,ov_s,unV_n,cd_b]
 obtain⟨Lk,k1,k2⟩:=x.1.els StrR.one
 obtain⟨Lv,l1,l2⟩:=x.2.1.els EntR.one
 simp -implicitDefEqProofs only[List.length_map] at k1 l1
 refine⟨fun hn=>?_,fun hy=>?_⟩
 ·have hno':hasL b u=false:=by
   have:(!hasL b u)=true:=hn
   simpa using this
  have hno:u ∉ keysL b:=fun hh=>by rw[hasL_iff.2 hh] at hno'; cases hno'
  simp -implicitDefEqProofs[ld_at c1,cel_of c1,stm_at c1,ld_at c3,cel_of c3,stm_at c3,stm_upd,ld_same,cel_same,over,o1.1,o2.1]
  refine hk _ kw vw (ext_upd n3 e0) ?_
  rw[delB_none hno]
  exact x.ext (fz_of_ext (ext_upd n3 e0))
 ·have hyes:hasL b u=true:=by
   have:(!hasL b u)=false:=hy
   simpa using this
  have hmem:=hasL_iff.1 hyes
  obtain⟨p1,p2⟩:=(mem_pos so u).1 hmem
  have del:delB b u=b.take (pos (keysL b) u)++b.drop (pos (keysL b) u+1):=delB_has so hmem
  have hpb:pos (keysL b) u<b.length:=by omega
  obtain⟨p,hp⟩:∃ p,pos (keysL b) u=p:=⟨_,rfl⟩
  rw[hp] at hpb del ⊢
  have w1:IntKind.i64.wrap ((p:Int)+1)=(p+1:Nat):=by rw[wrap64_id (by omega) (by omega)]; omega
  unfold qcpZ
  simp -implicitDefEqProofs[ld_at c1,cel_of c1,stm_at c1,stm_upd,ld_same,cel_same,over,w1,-Int.natCast_add]
  refine cloneEStr (k1.ext ((fz_ext T h).trans e0)) x.2.2.1 k2.fone (by omega) fun k' h7 r7=>?_
  have c1:=r7.ex _ _ c1
  unfold qcoZ
  simp -implicitDefEqProofs only[ldV_c,cel_of c1,List.getElem?_toArray,List.getElem?_cons_succ,List.getElem?_cons_zero,true_and]
  refine delEStr r7 hpb (by omega) fun k'' h8 r8=>?_
  have c1':=r8.ex _ _ (e6 _ _ (e3 _ _ ‹_›))
  have c3:=r8.ex _ _ c3
  have c1:=c1'
  simp -implicitDefEqProofs only[ldV_c,cel_of c1,List.getElem?_toArray,List.getElem?_cons_succ,List.getElem?_cons_zero,true_and]
  have e8:=e0.trans r8.ex
  refine cloneEEnt (l1.ext ((fz_ext T h).trans e8)) x.2.2.2 l2.fone (by omega) fun v' h9 r9=>?_
  refine delEEnt r9 hpb (by omega) fun v'' ha ra=>?_
  unfold qcnZ
  have c3:=ra.ex _ _ c3
  have rk:=(r8.back e0).ext ra.ex
  have rv:=ra.back e8
  have nk:rowOf k''≠some v3:=Rf.ne_old r8 ‹_›
  have nv:rowOf v''≠some v3:=Rf.ne_old ra ‹_›
  have u1:=rk.row.one
  have u2:=rv.row.one
  have e9:=ext_upd (o:=.cells #[k'',v''] qaZ (0,0)) n3 (e8.trans ra.ex)
  have rk9:=rk.skip (o:=.cells #[k'',v''] qaZ (0,0)) n3 nk
  have rv9:=rv.skip (o:=.cells #[k'',v''] qaZ (0,0)) n3 nv
  have k3:=k2.ext (@StrR.ext) (fz_of_ext e9)
  have l3:=l2.ext (@EntR.ext) (fz_of_ext e9)
  simp -implicitDefEqProofs[bdMapS (row_sl rk.row) (row_sl rv.row),ld_at c3,cel_of c3,stm_at c3,stm_upd,ld_same,cel_same,over,u1.1,u2.1]
  refine hk _ k'' v'' e9 ⟨?_,?_,rk.row.sn,rv.row.sn⟩
  ·rw[k2.ftake,k2.fdrop,← List.flatten_append] at rk9
   rw[del]
   simp -implicitDefEqProofs only[List.map_append,List.map_take,List.map_drop]
   exact rk9.sl w (by simp; omega) ((k3.take p).app (k3.drop (p+1)))
  ·rw[l2.ftake,l2.fdrop,← List.flatten_append] at rv9
   rw[del]
   simp -implicitDefEqProofs only[List.map_append,List.map_take,List.map_drop]
   exact rv9.sl w (by simp; omega) ((l3.take p).app (l3.drop (p+1)))
def allX (b:Book)(Lv:List (List Value)):List (Array Value):=(List.range b.length).map fun i=>#[.string (b.getD i (⟨#[]⟩,ent0)).1,.agg (Lv.getD i []).toArray]
theorem all_it (b : Book) {hA : Heap} {p : Nat} {kw vw : Value} {Lv : List (List Value)} (cp : hA p = some (.cells #[kw, vw] qaZ (0, 0))) (x : BookR hA kw vw b) (l1 : SlC 4 hA vw b.length Lv.flatten) (l2 : ∀ c ∈ Lv, c.length = 4) (l3 : Lv.length = b.length) :
    It P qKZ #[ptr p] (allX b Lv) hA := by
  intro yv I S h K hx hs h0 hround hK1 hK2
  apply qjGZ
  unfold qaLZ
  have ca0 := hx _ _ h0 _ _ cp
  have hlen := x.1.len
  simp -implicitDefEqProofs [ld_at ca0, cel_of ca0, stm_at ca0, stm_upd, ld_same, cel_same, over, hlen]
  refine loop_on [0, 1, 6, 7] (fun s h' => ∃ k : Nat, k ≤ b.length ∧ s 8 = .int .i64 k ∧ I k h') (fun s _ => (b.length - num (s 8)).toNat) ⟨0, by omega, rfl, h0⟩ ?_
  rintro s h1 hf ⟨k, hk, s8, hI⟩
  have s0 : s 0 = yv := by simpa using hf 0 (by simp)
  have s1 : s 1 = ptr p := by simpa using hf 1 (by simp)
  have s6 : s 6 = kw := by simpa using hf 6 (by simp)
  have s7 : s 7 = .int .i64 b.length := by simpa using hf 7 (by simp)
  unfold qcFZ
  simp -implicitDefEqProofs only [s8, s7, bin_lss, ov_s, cd_b]
  refine ⟨fun hc => ?_, fun hc => ?_⟩
  rotate_left
  · have : k = b.length := by have : ¬ ((k : Int) < b.length) := by simpa using hc
                              omega
    subst this
    simp -implicitDefEqProofs
    exact hK1 _ _ (by simpa [allX] using hI)
  have hlt : k < b.length := by have : ((k : Int) < b.length) := by simpa using hc
                                omega
  have eA := hx _ _ hI
  have ca1 := eA _ _ cp
  obtain ⟨eb, eo, i1, i2⟩ := str_at x.1 (k := .i64) (i := k) (by simpa using hlt)
  simp -implicitDefEqProofs only [List.getElem_map] at i2
  have i2 := i2 _ eA
  have hmx := x.1.max
  simp -implicitDefEqProofs only [List.length_map] at hmx
  have hw : IntKind.i64.wrap ((k : Int) + 1) = k + 1 := wrap64_id (by omega) (by omega)
  have hv : ∃ vb vo, iaV (some (none, 4)) vw (.int .i64 k) = some (.pointer (some ⟨vb, vo, none⟩)) ∧ cels h1 vb vo 4 = some (Lv[k]'(by omega)) := by
    rcases l1 with ⟨h1, _⟩ | ⟨vb, vo, cap, rfl, h2⟩
    · omega
    · have hk9 : (k : Int) < b.length := by omega
      refine ⟨vb, vo + k * 4, by simp [iaV, hk9], ?_⟩
      obtain ⟨q1, q2⟩ := cels_get (cels_ext eA h2)
      have h8 : (Lv[k]'(by omega)).length = 4 := l2 _ (List.getElem_mem _)
      have h9 := flat_drop (i := k) l2
      have h7 : (Lv.drop k) = Lv[k]'(by omega) :: Lv.drop (k + 1) := List.drop_eq_getElem_cons _
      rw [h7, List.flatten_cons] at h9
      have hm : (k + 1) * 4 ≤ b.length * 4 := Nat.mul_le_mul_right _ hlt
      have := cels_sub (cels_ext eA h2) (j := k * 4) (m := 4) (by omega)
      rw [this, h9, List.take_append_of_le_length (by omega), List.take_of_length_le (by omega)]
  obtain ⟨vb, vo, j1, j2⟩ := hv
  have j3 := j2

  unfold qcEZ
  simp -implicitDefEqProofs only [s6, s8, s1, i1, i2, j1, faV_p, ov_s, ldV_c, Nat.zero_add, cel_of ca1, List.getElem?_toArray, List.getElem?_cons_succ, List.getElem?_cons_zero, ldV_n j2, s0]
  have hj' : k < (allX b Lv).length := by simpa [allX] using hlt
  have hr := hround k hj' h1
  have hx' : (allX b Lv)[k] = #[.string b[k].1, .agg (Lv[k]).toArray] := by simp [allX, hlt, List.getD_eq_getElem?_getD, l3]
  rw [hx'] at hr
  refine hr _ hI (fun h3 hI3 => ?_) (fun h3 hS => ?_)
  · unfold qawZ qcDZ
    simp -implicitDefEqProofs [s8, hw, s0, s1, s6, s7]
    exact ⟨⟨k + 1, by omega, by simp, hI3⟩, by omega⟩
  · unfold qawZ qcCZ
    simp -implicitDefEqProofs
    exact hK2 _ _ hS
theorem all_ok (b:Book){F h:Heap}(eF:Ext F h){kw vw:Value}(x:BookR F kw vw b)
  (hk:∀ p h',h p=none→Ext h h'→h' p=some (.cells #[kw,vw] qaZ (0,0))→K (.func (.func qKZ) #[] #[ptr p]) h'):callM P qXZ #[.agg #[kw,vw]] h K:=by
 apply qlAZ
 unfold qbrZ
 refine nw_agg fun v1 h1 n1 e1 c1=>?_
 simp -implicitDefEqProofs only[ov_s]
 exact hk v1 h1 n1 e1 c1
end Go.Proofs.YtmbningljbcpkaaGreat
namespace Go.Den
open Go
set_option linter.unusedVariables false
set_option linter.unusedSimpArgs false
def addU (a b:Int):Int:=if 18446744073709551615-a<b then 18446744073709551615 else a+b
theorem addU_rng {a b:Int}(ha:U64 a)(hb:U64 b):U64 (addU a b):=by unfold addU U64 at *; split<;>omega
def purgeS (l:List Sess)(now:Int):List Sess:=l.filter fun s=>!late now s.un
def SrtI (l:List Sess):Prop:=l.Pairwise fun a b=>a.id<b.id
def posI (l:List Sess)(id:Int):Nat:=(l.takeWhile fun s=>decide (s.id<id)).length
def hasI (l:List Sess)(id:Int):Bool:=l.any fun s=>decide (s.id=id)
def putS:List Sess→Sess→List Sess
 | [],s=>[s]
 | x::r,s=>if x.id<s.id then x::putS r s else if x.id=s.id then s::r else s::x::r
def delS (l:List Sess)(id:Int):List Sess:=l.filter fun s=>!decide (s.id=id)
def setS (l:List Sess)(s:Sess)(most:Int):List Sess × Int:=if hasI l s.id=false∧most≤l.length then (l,2) else (putS l s,0)
def beatS (l:List Sess)(id un:Int):List Sess × Int:=if hasI l id then (l.map fun s=>if s.id=id then { s with un:=max s.un un } else s,0) else (l,3)
def clearS (l:List Sess)(id:Int):List Sess × Int:=if hasI l id then (delS l id,0) else (l,3)
theorem SrtI.purge {l:List Sess}(s:SrtI l)(now:Int):SrtI (purgeS l now):=s.sublist List.filter_sublist
theorem SrtI.del {l:List Sess}(s:SrtI l)(id:Int):SrtI (delS l id):=s.sublist List.filter_sublist
theorem hasI_iff {l:List Sess}{id:Int}:hasI l id=true↔∃ s∈l,s.id=id:=by simp[hasI]
theorem posI_lt {x:Sess}{l:List Sess}{id:Int}(h:x.id<id):posI (x::l) id=posI l id+1:=by simp[posI,List.takeWhile_cons,h]
theorem posI_ge {x:Sess}{l:List Sess}{id:Int}(h:¬ x.id<id):posI (x::l) id=0:=by simp[posI,List.takeWhile_cons,h]
theorem posI_spec {l:List Sess}(s:SrtI l)(id:Int):posI l id≤l.length∧(∀ k (hk:k<l.length),k<posI l id→l[k].id<id)∧(∀ k (hk:k<l.length),posI l id≤k→id≤l[k].id):=by
 induction l with
 | nil=>simp[posI]
 | cons a l ih =>
  have s':SrtI l:=(List.pairwise_cons.1 s).2
  obtain⟨h1,h2,h3⟩:=ih s'
  by_cases ha:a.id<id
  ·rw[posI_lt ha]
   refine⟨by simpa using h1,fun k hk hkp=>?_,fun k hk hkp=>?_⟩
   ·cases k with
    | zero=>simpa using ha
    | succ k=>rw[List.getElem_cons_succ]; exact h2 k (by simpa using hk) (by omega)
   ·cases k with
    | zero=>omega
    | succ k=>rw[List.getElem_cons_succ]; exact h3 k (by simpa using hk) (by omega)
  ·rw[posI_ge ha]
   refine⟨by omega,fun k hk hkp=>by omega,fun k hk _=>?_⟩
   cases k with
   | zero=>simp; omega
   | succ k =>
    have hk':k<l.length:=by simpa using hk
    have:=(List.pairwise_cons.1 s).1 l[k] (List.getElem_mem _)
    rw[List.getElem_cons_succ]; omega
theorem posI_of {l:List Sess}(id:Int){i:Nat}(hi:i≤l.length)(h1:∀ k (hk:k<l.length),k<i→l[k].id<id)(h2:∀ (hk:i<l.length),id≤l[i].id):posI l id=i:=by
 induction l generalizing i with
 | nil=>simp at hi; subst hi; rfl
 | cons a l ih =>
  cases i with
  | zero =>
   have:=h2 (by simp)
   simp only[List.getElem_cons_zero] at this
   exact posI_ge (by omega)
  | succ i =>
   have h0:=h1 0 (by simp) (by omega)
   simp only[List.getElem_cons_zero] at h0
   rw[posI_lt h0,ih (i:=i) (by simpa using hi) (fun k hk hki=>by have:=h1 (k+1) (by simpa using hk) (by omega); rwa [List.getElem_cons_succ] at this) (fun hk=>by have:=h2 (by simpa using hk); rwa [List.getElem_cons_succ] at this)]
theorem has_posI {l:List Sess}(s:SrtI l)(id:Int):hasI l id=true↔∃ h:posI l id<l.length,l[posI l id].id=id:=by
 obtain⟨h1,h2,h3⟩:=posI_spec s id
 rw[hasI_iff]
 constructor
 ·rintro⟨x,hx,hid⟩
  obtain⟨i,hi,rfl⟩:=List.getElem_of_mem hx
  have hip:posI l id=i:=by
   refine posI_of id (by omega) (fun k hk hki=>?_) (fun hk=>by omega)
   have:=List.pairwise_iff_getElem.1 s k i hk hi hki
   omega
  exact⟨by omega,by simp only[hip]; exact hid⟩
 ·rintro⟨h,e⟩; exact⟨_,List.getElem_mem _,e⟩
theorem putS_has {x:Sess}:∀ {l:List Sess},SrtI l→hasI l x.id=true→putS l x=l.take (posI l x.id)++[x]++l.drop (posI l x.id+1)
 | [],_,h=>by simp[hasI] at h
 | a::r,s,h=>by
  have s':SrtI r:=(List.pairwise_cons.1 s).2
  simp only[putS]
  by_cases ha:a.id<x.id
  ·have:hasI r x.id=true:=by
    simp only[hasI,List.any_cons,Bool.or_eq_true,decide_eq_true_eq] at h ⊢
    exact h.resolve_left (by omega)
   rw[if_pos ha,posI_lt ha,putS_has s' this]; rfl
  ·have hid:a.id=x.id:=by
    obtain⟨y,hy,e⟩:=hasI_iff.1 h
    rcases List.mem_cons.1 hy with rfl | hy
    ·exact e
    ·have:=(List.pairwise_cons.1 s).1 y hy; omega
   rw[if_neg ha,if_pos hid,posI_ge ha]; rfl
theorem putS_new {x:Sess}:∀ {l:List Sess},SrtI l→hasI l x.id=false→putS l x=l.take (posI l x.id)++[x]++l.drop (posI l x.id)
 | [],_,h=>by simp[putS]
 | a::r,s,h=>by
  have s':SrtI r:=(List.pairwise_cons.1 s).2
  simp only[hasI,List.any_cons,Bool.or_eq_false_iff,decide_eq_false_iff_not] at h
  simp only[putS]
  by_cases ha:a.id<x.id
  ·rw[if_pos ha,posI_lt ha,putS_new s' h.2]; rfl
  ·rw[if_neg ha,if_neg h.1,posI_ge ha]; rfl
theorem delS_has {id:Int}:∀ {l:List Sess},SrtI l→hasI l id=true→delS l id=l.take (posI l id)++l.drop (posI l id+1)
 | [],_,h=>by simp[hasI] at h
 | a::r,s,h=>by
  obtain⟨s1,s'⟩:=List.pairwise_cons.1 s
  by_cases ha:a.id<id
  ·have:hasI r id=true:=by
    simp only[hasI,List.any_cons,Bool.or_eq_true,decide_eq_true_eq] at h ⊢
    exact h.resolve_left (by omega)
   have ih:=delS_has s' this
   unfold delS at ih ⊢
   rw[posI_lt ha]
   have:¬ a.id=id:=by omega
   simp[this,ih]
  ·have hid:a.id=id:=by
    obtain⟨y,hy,e⟩:=hasI_iff.1 h
    rcases List.mem_cons.1 hy with rfl | hy
    ·exact e
    ·have:=s1 y hy; omega
   rw[posI_ge ha]
   have:r.filter (fun s=>!decide (s.id=id))=r:=List.filter_eq_self.2 fun y hy=>by
    have:=s1 y hy
    have:¬ y.id=id:=by omega
    simp[this]
   unfold delS
   simp[hid,this]
theorem mem_putS {x y:Sess}:∀ {l:List Sess},y∈putS l x→y=x∨y∈l
 | [],h=>by simp[putS] at h; exact .inl h
 | a::r,h=>by
  simp only[putS] at h
  split at h
  ·rcases List.mem_cons.1 h with h | h
   ·exact .inr (by simp[h])
   ·rcases mem_putS h with h | h
    ·exact .inl h
    ·exact .inr (by simp[h])
  ·split at h
   ·rcases List.mem_cons.1 h with h | h
    ·exact .inl h
    ·exact .inr (by simp[h])
   ·rcases List.mem_cons.1 h with h | h
    ·exact .inl h
    ·exact .inr h
theorem SrtI.put {x:Sess}:∀ {l:List Sess},SrtI l→SrtI (putS l x)
 | [],_=>by simp[putS,SrtI]
 | a::r,s=>by
  obtain⟨s1,s2⟩:=List.pairwise_cons.1 s
  simp only[putS]
  by_cases ha:a.id<x.id
  ·rw[if_pos ha]
   refine List.pairwise_cons.2 ⟨fun y hy=>?_,SrtI.put s2⟩
   rcases mem_putS hy with rfl | hy
   ·exact ha
   ·exact s1 y hy
  ·rw[if_neg ha]
   by_cases hid:a.id=x.id
   ·rw[if_pos hid]; exact List.pairwise_cons.2 ⟨fun y hy=>by have:=s1 y hy; omega,s2⟩
   ·rw[if_neg hid]
    refine List.pairwise_cons.2 ⟨fun y hy=>?_,s⟩
    rcases List.mem_cons.1 hy with rfl | hy
    ·omega
    ·have:=s1 y hy; omega
theorem putS_len {x:Sess}:∀ {l:List Sess},(putS l x).length≤l.length+1
 | []=>by simp[putS]
 | a::r=>by
  have:=putS_len (x:=x) (l:=r)
  simp only[putS]; split
  ·simp; omega
  ·split<;>simp
end Go.Den
namespace Go.Proofs.YtmbningljbcpkaaGreat
open Go Go.Den Go.MapKept
set_option linter.unusedSimpArgs false
set_option linter.unusedVariables false
set_option maxRecDepth 20000
variable {K:KTy}
theorem tickAdd_ok {a b:Int}(ha:U64 a)(hb:U64 b){h:Heap}(hk:K (.int .u64 (addU a b)) h):callM P qkuZ #[.int .u64 a,.int .u64 b] h K:=by
 apply quOZ
 unfold qrSZ
 unfold U64 at ha hb
 have w1:IntKind.u64.wrap (18446744073709551615-a)=18446744073709551615-a:=wrapU_id (by omega) (by omega)
 simp -implicitDefEqProofs only[bin_sub,w1,bin_gtr,ov_s,cd_b]
 refine⟨fun hc=>?_,fun hc=>?_⟩
 ·have:18446744073709551615-a<b:=by simpa using hc
  exact kv hk (by simp[addU,this])
 ·have hn:¬ 18446744073709551615-a<b:=by simpa using hc
  have w2:IntKind.u64.wrap (a+b)=a+b:=wrapU_id (by omega) (by omega)
  simp -implicitDefEqProofs only[bin_add,w2,ov_s]
  exact kv hk (by simp[addU,hn])
theorem refAdd_ok {a b:Int}(ha:U64 a)(hb:U64 b){h:Heap}(hk:K (.int .u64 (addU a b)) h):callM P qbcZ #[.int .u64 a,.int .u64 b] h K:=by
 apply qpbZ
 unfold qeTZ
 unfold U64 at ha hb
 have w1:IntKind.u64.wrap (18446744073709551615-a)=18446744073709551615-a:=wrapU_id (by omega) (by omega)
 simp -implicitDefEqProofs only[bin_sub,w1,bin_lss,ov_s,cd_b]
 refine⟨fun hc=>?_,fun hc=>?_⟩
 ·have:18446744073709551615-a<b:=by simpa using hc
  exact kv hk (by simp[addU,this])
 ·have hn:¬ 18446744073709551615-a<b:=by simpa using hc
  have w2:IntKind.u64.wrap (a+b)=a+b:=wrapU_id (by omega) (by omega)
  simp -implicitDefEqProofs only[bin_add,w2,ov_s]
  exact kv hk (by simp[addU,hn])
theorem tickTake_ok (t:Tm)(ht:U64 t.seq){h:Heap}(hk:∀ h',Ext h h'→K (.tuple #[.agg (tmC { t with seq:=addU t.seq 1 }).toArray,.int .u64 (addU t.seq 1)]) h'):callM P qpKZ #[.agg (tmC t).toArray] h K:=by
 apply quGZ
 unfold qqNZ
 rw[zcTime]
 refine nw_agg fun v1 h1 n1 e1 c1=>?_
 refine nw_intro fun v3 h3 n3 e3 c3=>?_
 have ne:=ne_fresh c1 n3
 have c1:=e3 _ _ c1
 simp -implicitDefEqProofs only[tmC] at c1
 simp -implicitDefEqProofs[ld_at c1,cel_of c1,stm_at c1,ld_at c3,cel_of c3,stm_at c3,stm_skip ne,stm_skip (Ne.symm ne),ld_skip ne,ld_skip (Ne.symm ne),cel_skip ne,cel_skip (Ne.symm ne),stm_upd,ld_same,cel_same,over]
 refine tickAdd_ok ht (by unfold U64; omega) ?_
 unfold qslZ
 simp -implicitDefEqProofs[ld_at c1,cel_of c1,stm_at c1,ld_at c3,cel_of c3,stm_at c3,stm_skip ne,stm_skip (Ne.symm ne),ld_skip ne,ld_skip (Ne.symm ne),cel_skip ne,cel_skip (Ne.symm ne),stm_upd,ld_same,cel_same,over]
 refine kv (hk _ ?_) rfl
 exact ext_upd n1 (ext_upd (fresh_of e1 n3) (e1.trans e3))
theorem tickPass_ok (t:Tm)(ht:U64 t.now){by_:Int}(hb:U64 by_){h:Heap}(hk:∀ h',Ext h h'→K (.agg (tmC { t with now:=addU t.now by_ }).toArray) h'):callM P qpJZ #[.agg (tmC t).toArray,.int .u64 by_] h K:=by
 apply quFZ
 unfold qqMZ
 rw[zcTime]
 refine nw_agg fun v1 h1 n1 e1 c1=>?_
 refine nw_intro fun v3 h3 n3 e3 c3=>?_
 have ne:=ne_fresh c1 n3
 have c1:=e3 _ _ c1
 simp -implicitDefEqProofs only[tmC] at c1
 simp -implicitDefEqProofs[ld_at c1,cel_of c1,stm_at c1,ld_at c3,cel_of c3,stm_at c3,stm_skip ne,stm_skip (Ne.symm ne),ld_skip ne,ld_skip (Ne.symm ne),cel_skip ne,cel_skip (Ne.symm ne),stm_upd,ld_same,cel_same,over]
 refine tickAdd_ok ht hb ?_
 unfold qskZ
 simp -implicitDefEqProofs[ld_at c1,cel_of c1,stm_at c1,ld_at c3,cel_of c3,stm_at c3,stm_skip ne,stm_skip (Ne.symm ne),ld_skip ne,ld_skip (Ne.symm ne),cel_skip ne,cel_skip (Ne.symm ne),stm_upd,ld_same,cel_same,over]
 refine kv (hk _ ?_) rfl
 exact ext_upd n1 (ext_upd (fresh_of e1 n3) (e1.trans e3))
theorem cisNaN_ok (a:Int){h:Heap}(hk:K (.bool false) h):callM P qhjZ #[.int .i64 a] h K:=by
 apply qufZ
 unfold qnvZ
 simpa using hk
def cmpI (a b:Int):Int:=if a<b then -1 else if b<a then 1 else 0
theorem cmpI_zero (a b:Int):cmpI a b=0↔a=b:=by
 unfold cmpI; split
 ·constructor<;>intro h<;>omega
 ·split
  ·constructor<;>intro h<;>omega
  ·constructor<;>intro h<;>omega
theorem compare_ok (a b:Int){h:Heap}(hk:K (.int .i64 (cmpI a b)) h):callM P qjbZ #[.int .i64 a,.int .i64 b] h K:=by
 apply qtIZ
 unfold qksZ
 refine cisNaN_ok a ?_
 unfold qoxZ
 refine cisNaN_ok b ?_
 unfold qowZ qovZ qouZ
 by_cases h1:a<b
 ·simpa [cmpI,h1] using hk
 ·by_cases h2:b<a<;>simpa [cmpI,h1,h2] using hk
theorem findc_ok (s:Sess)(id:Int){h:Heap}(hk:∀ h',Ext h h'→K (.int .i64 (cmpI s.id id)) h'):nxM P (do let d ← Deferred.ofValue (.func (.func qeRZ) #[] #[]) #[.agg (sessC s).toArray,.int .i64 id]; invoke d.target d.args) h K:=by
 refine nx_fn good (by kernel_rfl) ?_
 show callM P qeRZ #[.agg (sessC s).toArray,.int .i64 id] h K
 apply qujZ
 unfold qoKZ
 refine nw_agg fun v1 h1 n1 e1 c1=>?_
 simp -implicitDefEqProofs only[sessC] at c1
 simp -implicitDefEqProofs[ld_at c1,cel_of c1,stm_at c1,stm_upd,ld_same,cel_same,over]
 exact compare_ok _ _ (hk _ e1)
theorem sess_ld {F:Heap}{v:Value}{l:List Sess}(x:Sl 4 SessR F v l){i:Nat}(hi:i<l.length){k:IntKind}:∃ b p,iaV (some (none,4)) v (.int k i)=some (.pointer (some ⟨b,p,none⟩))∧∀ h',Ext F h'→cels h' b p 4=some (sessC l[i]):=by
 obtain⟨b,p,c,h1,h2,h3⟩:=x.at (k:=k) (i:=i) (by omega) (by omega)
 refine⟨b,p,h1,fun h' e=>?_⟩
 have hc:c=sessC l[i]:=h3
 subst hc
 exact cels_ext e h2
set_option maxHeartbeats 1000000 in
theorem sfind_ok (l : List Sess) (so : SrtI l) (id : Int) {h : Heap} {v : Value} (x : Sl 4 SessR h v l) (hl : l.length < 1000000) (hk : ∀ h', Ext h h' → K (.tuple #[.int .i64 (posI l id), .bool (hasI l id)]) h') :
    callM P qjaZ #[v, .int .i64 id] h K := by
  apply quJZ
  unfold qqQZ
  apply qdrZ
  unfold qBZ
  have hlen := x.len
  simp -implicitDefEqProofs only [hlen, ov_s]
  rw [seqM_eq]
  unfold qaeZ
  refine loop_on [0, 1, 2, 8] (fun s h' => Ext h h' ∧ ∃ i j : Nat, i ≤ j ∧ j ≤ l.length ∧ s 9 = .int .i64 i ∧ s 10 = .int .i64 j ∧ (∀ k (hk : k < l.length), k < i → l[k].id < id) ∧ ∀ k (hk : k < l.length), j ≤ k → id ≤ l[k].id)
    (fun s _ => (num (s 10) - num (s 9)).toNat) ⟨Ext.refl h, 0, l.length, by omega, by omega, rfl, by simp, fun k _ h => by omega, fun k hk h => by omega⟩ ?_
  rintro s h1 hf ⟨e1, i, j, hij, hj, s9, s10, hlo, hhi⟩
  have s0 : s 0 = v := by simpa using hf 0 (by simp)
  have s1 : s 1 = .int .i64 id := by simpa using hf 1 (by simp)
  have s2 : s 2 = .func (.func qeRZ) #[] #[] := by simpa using hf 2 (by simp)
  have s8 : s 8 = .int .i64 l.length := by simpa using hf 8 (by simp)
  unfold qadZ
  simp -implicitDefEqProofs only [s9, s10, bin_lss, ov_s, cd_b]
  refine ⟨fun hc => ?_, fun hc => ?_⟩
  · have hlt : i < j := by have : ((i : Int) < j) := by simpa using hc
                           omega
    obtain ⟨m, hm⟩ : ∃ m : Nat, m = (i + j) / 2 := ⟨_, rfl⟩
    have hm1 : i ≤ m ∧ m < j := by omega
    have w1 : IntKind.i64.wrap ((i : Int) + j) = (i + j : Nat) := by rw [wrap64_id (by omega) (by omega)]; omega
    have w2 : IntKind.u64.wrap ((i + j : Nat) : Int) = (i + j : Nat) := wrapU_id (by omega) (by omega)
    have w3 : binV .shr 2 true (.int .u64 ((i + j : Nat) : Int)) (.int .u64 1) = some (.int .u64 m) := by
      have : ((i + j : Nat) : Int).fdiv 2 = m := by rw [Int.fdiv_eq_ediv_of_nonneg _ (by omega)]; omega
      simp -implicitDefEqProofs [binV, intV, IntKind.bits]
      rw [← this]; rfl
    have w4 : IntKind.i64.wrap (m : Int) = m := wrap64_id (by omega) (by omega)
    have w5 : IntKind.i64.wrap ((m : Int) + 1) = m + 1 := wrap64_id (by omega) (by omega)
    obtain ⟨b, p, i1, i2⟩ := sess_ld x (k := .i64) (i := m) (by omega)
    unfold qacZ
    simp -implicitDefEqProofs only [s0, s1, s2, s9, s10, bin_add, ov_s, w1, cvV_i, w2, w3, w4, i1, ldV_n (i2 _ e1)]
    refine findc_ok _ _ fun h2 e2 => ?_
    unfold qabZ qZZ qaaZ
    by_cases hlm : l[m].id < id
    · have : cmpI l[m].id id = -1 := by simp [cmpI, hlm]
      simp -implicitDefEqProofs [this, w5, s0, s1, s2, s8, s9, s10]
      refine ⟨⟨e1.trans e2, m + 1, j, by omega, by omega, by simp, rfl, fun k hk hkm => ?_, hhi⟩, by omega⟩
      by_cases e : k = m
      · subst e; exact hlm
      · have := List.pairwise_iff_getElem.1 so k m hk (by omega) (by omega); omega
    · have : ¬ cmpI l[m].id id < 0 := by unfold cmpI; rw [if_neg hlm]; split <;> omega
      simp -implicitDefEqProofs [this, s0, s1, s2, s8, s9, s10]
      refine ⟨⟨e1.trans e2, i, m, by omega, by omega, rfl, rfl, hlo, fun k hk hkm => ?_⟩, by omega⟩
      by_cases e : k = m
      · subst e; omega
      · have := List.pairwise_iff_getElem.1 so m k (by omega) hk (by omega); omega
  · have : i = j := by have : ¬ ((i : Int) < j) := by simpa using hc
                       omega
    subst this
    have hp : posI l id = i := posI_of id hj (fun k hk hki => hlo k hk hki) (fun hk => hhi i hk (by omega))
    have hmem := has_posI so id
    rw [hp] at hk
    simp -implicitDefEqProofs only [lpM_e, blkM_e, if_true, thenM_n]
    unfold qafZ
    by_cases hil : i < l.length
    · obtain ⟨b, p, i1, i2⟩ := sess_ld x (k := .i64) hil
      have hil' : (i : Int) < l.length := by omega
      simp -implicitDefEqProofs [s0, s1, s2, s8, s9, s10, hil', hil, i1, ldV_n (i2 _ e1)]
      refine findc_ok _ _ fun h2 e2 => ?_
      have hcmp : decide (cmpI l[i].id id = 0) = hasI l id := by
        have h5 : hasI l id = true ↔ l[i].id = id := by
          rw [hmem]
          constructor
          · rintro ⟨q, e⟩; simp only [hp] at e; exact e
          · intro e; exact ⟨by omega, by simp only [hp]; exact e⟩
        rw [Bool.eq_iff_iff, h5, decide_eq_true_eq, cmpI_zero]
      have := hk h2 (e1.trans e2)
      simpa [hcmp] using this
    · have hil' : ¬ ((i : Int) < l.length) := by omega
      have : hasI l id = false := by
        cases hh : hasI l id with
        | false => rfl
        | true => obtain ⟨h3, h4⟩ := hmem.1 hh; rw [hp] at h3; exact absurd h3 hil
      simp -implicitDefEqProofs [s0, s1, s2, s8, s9, s10, hil', hil]
      rw [this] at hk; exact hk _ e1
end Go.Proofs.YtmbningljbcpkaaGreat
namespace Go.Proofs.YtmbningljbcpkaaGreat
open Go Go.Den Go.MapKept
set_option linter.unusedSimpArgs false
set_option linter.unusedVariables false
set_option maxRecDepth 20000
theorem sess_els {h:Heap}{v:Value}{l:List Sess}(x:Sl 4 SessR h v l):SlC 4 h v l.length (l.flatMap sessC):=by
 obtain⟨L,h1,h2⟩:=x.els SessR.one
 have:L=l.map sessC:=by
  apply List.ext_getElem (by simp[h2.len])
  intro i h3 h4
  simp -implicitDefEqProofs only[List.getElem_map]
  exact h2.el i h3 (by simpa using h4)
 rw[this,← List.flatMap_def] at h1
 exact h1
theorem sessC_one (l:List Sess):∀ u∈l.flatMap sessC,u.oneCell'=true:=by
 intro u hu
 obtain⟨s,_,hs⟩:=List.mem_flatMap.1 hu
 simp -implicitDefEqProofs[sessC] at hs; rcases hs with rfl | rfl | rfl | rfl<;>rfl
theorem rf_sess {h0 h:Heap}{v:Value}{l:List Sess}(r:Rf 4 qcZ h0 h v l.length (l.flatMap sessC)):Sl 4 SessR h v l:=Row.slE (enc:=sessC) (fun _=>rfl) (fun _=>rfl) r.row
variable {K:KTy}
theorem purgec_ok (s:Sess)(now:Int){p:Nat}{h:Heap}(cp:h p=some (.cells #[.int .u64 now] qaoZ (0,0)))(hk:∀ h',Ext h h'→K (.bool (late now s.un)) h') :
  nxM P (do let d ← Deferred.ofValue (.func (.func qaBZ) #[] #[ptr p]) #[.agg (sessC s).toArray]; invoke d.target d.args) h K:=by
 refine nx_fn good (by kernel_rfl) ?_
 show callM P qaBZ #[.agg (sessC s).toArray,ptr p] h K
 apply queZ
 unfold qnuZ
 refine nw_agg fun v1 h1 n1 e1 c1=>?_
 have cp:=e1 _ _ cp
 simp -implicitDefEqProofs only[sessC] at c1
 simp -implicitDefEqProofs[ld_at c1,cel_of c1,stm_at c1,ld_at cp,cel_of cp,stm_at cp,stm_upd,ld_same,cel_same,over]
 exact late_ok _ _ (hk _ e1)
def firstL (l:List Sess)(now:Int):Nat:=(l.takeWhile fun s=>!late now s.un).length
theorem firstL_spec (l:List Sess)(now:Int):firstL l now≤l.length∧(∀ k (hk:k<l.length),k<firstL l now→late now l[k].un=false)∧∀ hk:firstL l now<l.length,late now (l[firstL l now]'hk).un=true:=by
 unfold firstL
 induction l with
 | nil=>simp
 | cons a l ih =>
  cases ha:late now a.un with
  | true=>simp[List.takeWhile_cons,ha]
  | false =>
   obtain⟨h1,h2,h3⟩:=ih
   simp -implicitDefEqProofs only[List.takeWhile_cons,ha,Bool.not_false,if_true,List.length_cons]
   refine⟨by omega,fun k hk hkp=>?_,fun hk=>?_⟩
   ·cases k with
    | zero=>simpa using ha
    | succ k=>rw[List.getElem_cons_succ]; exact h2 k (by omega) (by omega)
   ·rw[List.getElem_cons_succ]; exact h3 (by omega)
theorem firstL_of (l:List Sess)(now:Int){i:Nat}(hi:i<l.length)(h1:∀ k (hk:k<l.length),k<i→late now l[k].un=false)(h2:late now l[i].un=true):firstL l now=i:=by
 obtain⟨q1,q2,q3⟩:=firstL_spec l now
 rcases Nat.lt_trichotomy (firstL l now) i with h | h | h
 ·have:=h1 _ (by omega) h; rw[q3 (by omega)] at this; cases this
 ·exact h
 ·have:=q2 i hi h; rw[h2] at this; cases this
theorem firstL_all (l:List Sess)(now:Int)(h1:∀ k (hk:k<l.length),late now l[k].un=false):firstL l now=l.length:=by
 obtain⟨q1,q2,q3⟩:=firstL_spec l now
 rcases Nat.lt_or_ge (firstL l now) l.length with h | h
 ·have:=h1 _ h; rw[q3 h] at this; cases this
 ·omega
theorem index_ok (l : List Sess) (now : Int) {p : Nat} {h : Heap} (cp : h p = some (.cells #[.int .u64 now] qaoZ (0, 0))) {v : Value} (x : Sl 4 SessR h v l) (hl : l.length < 1000000)
    (hk : ∀ h', Ext h h' → K (.int .i64 (if firstL l now < l.length then firstL l now else -1)) h') : callM P qSZ #[v, .func (.func qaBZ) #[] #[ptr p]] h K := by
  apply qfKZ
  unfold qWZ
  rw [seqM_eq]
  unfold qbmZ
  have hlen := x.len
  simp -implicitDefEqProofs only [hlen, ov_s]
  refine loop_on [0, 1, 7] (fun s h' => Ext h h' ∧ ∃ i : Nat, i ≤ l.length ∧ s 8 = .int .i64 i ∧ ∀ k (hk : k < l.length), k < i → late now l[k].un = false) (fun s _ => (l.length - num (s 8)).toNat) ⟨Ext.refl h, 0, by omega, rfl, fun k _ h => by omega⟩ ?_
  rintro s h1 hf ⟨e1, i, hi, s8, hlo⟩
  have s0 : s 0 = v := by simpa using hf 0 (by simp)
  have s1 : s 1 = .func (.func qaBZ) #[] #[ptr p] := by simpa using hf 1 (by simp)
  have s7 : s 7 = .int .i64 l.length := by simpa using hf 7 (by simp)
  unfold qblZ
  simp -implicitDefEqProofs only [s8, s7, bin_lss, ov_s, cd_b]
  refine ⟨fun hc => ?_, fun hc => ?_⟩
  · have hlt : i < l.length := by have : ((i : Int) < l.length) := by simpa using hc
                                  omega
    have hw : IntKind.i64.wrap ((i : Int) + 1) = i + 1 := wrap64_id (by omega) (by omega)
    obtain ⟨b, q, i1, i2⟩ := sess_ld x (k := .i64) hlt
    unfold qbkZ
    simp -implicitDefEqProofs only [s0, s1, s8, i1, ov_s, ldV_n (i2 _ e1)]
    refine purgec_ok _ now (e1 _ _ cp) fun h2 e2 => ?_
    unfold qbjZ qbhZ qbiZ
    cases hlt2 : late now l[i].un with
    | true =>
      simp -implicitDefEqProofs [s8]
      have := firstL_of l now hlt hlo hlt2
      rw [this, if_pos hlt] at hk
      exact hk _ (e1.trans e2)
    | false =>
      simp -implicitDefEqProofs [hw, s0, s1, s7, s8]
      refine ⟨⟨e1.trans e2, i + 1, by omega, by simp, fun k hk hki => ?_⟩, by omega⟩
      by_cases e : k = i
      · subst e; exact hlt2
      · exact hlo k hk (by omega)
  · have : i = l.length := by have : ¬ ((i : Int) < l.length) := by simpa using hc
                              omega
    subst this
    have := firstL_all l now fun k hk => hlo k hk hk
    rw [this, if_neg (by omega)] at hk
    simp -implicitDefEqProofs
    exact hk _ e1
structure DelI (l:List Sess)(now:Int)(h0 h':Heap)(v:Value)(i j:Nat)(ys:List Sess):Prop where
 row:Rf 4 qcZ h0 h' v l.length (ys.flatMap sessC)
 ylen:ys.length=l.length
 ij:i<j
 jl:j≤l.length
 lo:ys.take i=purgeS (l.take j) now
 hi:ys.drop j=l.drop j
def DelE (l:List Sess)(now:Int)(h0:Heap)(v a b:Value)(h':Heap):Prop:=∃ (i j:Nat) (ys:List Sess),a = .int .i64 i∧b = .int .i64 j∧DelI l now h0 h' v i j ys
theorem map_flat (l:List Sess):(l.map sessC).flatten=l.flatMap sessC:=(List.flatMap_def).symm
theorem deleteFunc_ok (l : List Sess) (now : Int) {p : Nat} {h0 h : Heap} (cp : h0 p = some (.cells #[.int .u64 now] qaoZ (0, 0))) {v : Value} (r : Rf 4 qcZ h0 h v l.length (l.flatMap sessC)) (hl : l.length < 1000000)
    (hk : ∀ h' v', Rf 4 qcZ h0 h' v' (purgeS l now).length ((purgeS l now).flatMap sessC) → K v' h') : callM P qOZ #[v, .func (.func qaBZ) #[] #[ptr p]] h K := by
  apply qfhZ
  unfold qTZ
  refine index_ok l now (r.ex _ _ cp) (rf_sess r) hl fun h1 e1 => ?_
  have r1 := r.ext e1
  obtain ⟨q1, q2, q3⟩ := firstL_spec l now
  unfold qbbZ
  by_cases hlt : firstL l now < l.length
  rotate_left
  · have hall : purgeS l now = l := List.filter_eq_self.2 fun s hs => by
      obtain ⟨k, hk, rfl⟩ := List.getElem_of_mem hs
      simp -implicitDefEqProofs [q2 k hk (by omega)]
    simp -implicitDefEqProofs [hlt]
    rw [hall] at hk
    exact hk _ _ r1
  obtain ⟨f, hf0⟩ : ∃ f, firstL l now = f := ⟨_, rfl⟩
  simp -implicitDefEqProofs only [hf0] at hlt q1 q2 q3 ⊢
  have hw : IntKind.i64.wrap ((f : Int) + 1) = (f + 1 : Nat) := by rw [wrap64_id (by omega) (by omega)]; omega
  have hne : ¬ (f : Int) = -1 := by omega
  rw [if_pos hlt]
  simp -implicitDefEqProofs only [bin_eql, hne, decide_false, ov_s, cd_b, true_implies]
  refine ⟨fun h => (by cases h), ?_⟩
  unfold qbaZ
  rw [seqM_eq]
  unfold qaZZ
  simp -implicitDefEqProofs only [bin_add, hw, ov_s]
  have tk : purgeS (l.take (f + 1)) now = l.take f := by
    have h1 : l.take (f + 1) = l.take f ++ [l[f]] := List.take_succ_eq_append_getElem hlt
    unfold purgeS
    rw [h1, List.filter_append]
    have h2 : (l.take f).filter (fun s => !late now s.un) = l.take f := List.filter_eq_self.2 fun s hs => by
      obtain ⟨k, hk, rfl⟩ := List.getElem_of_mem hs
      have hk' : k < f := by simp at hk; omega
      rw [List.getElem_take]
      simp -implicitDefEqProofs [q2 k (by omega) hk']
    rw [h2]
    simp -implicitDefEqProofs [q3 hlt]
  intro _
  refine loop_on [0, 1] (fun s h' => DelE l now h0 v (s 5) (s 6) h') (fun s _ => (l.length - num (s 6)).toNat) ⟨f, f + 1, l, rfl, rfl, ⟨r1, rfl, by omega, by omega, tk.symm, rfl⟩⟩ ?_
  rintro s h2 hf ⟨i, j, ys, s5, s6, D⟩
  have s0 : s 0 = v := by simpa using hf 0 (by simp)
  have s1 : s 1 = .func (.func qaBZ) #[] #[ptr p] := by simpa using hf 1 (by simp)
  have xs : Sl 4 SessR h2 v ys := rf_sess (by rw [D.ylen]; exact D.row)
  have hlen := xs.len
  rw [D.ylen] at hlen
  have hij := D.ij
  have hjl := D.jl
  have hyl := D.ylen
  unfold qaYZ
  simp -implicitDefEqProofs only [s0, s6, hlen, bin_lss, ov_s, cd_b]
  refine ⟨fun hc => ?_, fun hc => ?_⟩
  · have hlt : j < l.length := by have : ((j : Int) < l.length) := by simpa using hc
                                  omega
    have hw1 : IntKind.i64.wrap ((j : Int) + 1) = (j + 1 : Nat) := by rw [wrap64_id (by omega) (by omega)]; omega
    have hw2 : IntKind.i64.wrap ((i : Int) + 1) = (i + 1 : Nat) := by rw [wrap64_id (by omega) (by omega)]; omega
    obtain ⟨b, q, i1, i2⟩ := sess_ld xs (k := .i64) (i := j) (by omega)
    have hyj : ys[j]'(by omega) = l[j] := by
      have h1 := congrArg (fun l => l[0]?) D.hi
      simp -implicitDefEqProofs only [List.getElem?_drop, Nat.add_zero] at h1
      rw [List.getElem?_eq_getElem (by omega), List.getElem?_eq_getElem hlt] at h1
      exact Option.some.inj h1
    rw [hyj] at i2
    have hpur : purgeS (l.take (j + 1)) now = purgeS (l.take j) now ++ (if late now l[j].un then [] else [l[j]]) := by
      rw [List.take_succ_eq_append_getElem hlt]
      unfold purgeS
      rw [List.filter_append]
      cases hh : late now l[j].un <;> simp [hh]
    have hdr : ys.drop (j + 1) = l.drop (j + 1) := by
      have := congrArg (List.drop 1) D.hi
      rwa [List.drop_drop, List.drop_drop] at this
    unfold qaXZ
    rw [seqM_eq]
    unfold qaWZ
    simp -implicitDefEqProofs only [s0, s1, s6, i1, ov_s, ldV_n (i2 _ (Ext.refl _)), zcSess]
    refine nw_st rfl rfl (by simp [sessC]) fun vb h3 n3 e3 c3 => ?_
    simp -implicitDefEqProofs only [sessC, cells_agg] at c3
    have hag : ldV (some (some 4)) (ptr vb) h3 = some (.agg (sessC l[j]).toArray) := by simp [ld_at c3, sessC]
    simp -implicitDefEqProofs only [hag, ov_s]
    refine purgec_ok _ now (D.row.ex.trans e3 _ _ cp) fun h4 e4 => ?_
    have r4 := (D.row.ext e3).ext e4
    have c4 := e4 _ _ c3
    unfold qaVZ
    cases hlj : late now l[j].un with
    | true =>
      unfold qaUZ
      simp -implicitDefEqProofs [s5, s6, hw1, s0, s1, -Int.natCast_add]
      refine ⟨⟨i, j + 1, ys, rfl, rfl, r4, hyl, by omega, by omega, ?_, hdr⟩, by omega⟩
      rw [hpur, hlj, D.lo]; simp
    | false =>
      unfold qaTZ
      have hl4 : ldV (some (some 4)) (ptr vb) h4 = some (.agg (sessC l[j]).toArray) := by simp [ld_at c4, sessC]
      have r4' : Rf 4 qcZ h0 h4 v l.length ((ys.map sessC).flatten) := by rw [map_flat]; exact r4
      obtain ⟨g, g1, g2, g3, g4, g5⟩ := r4'.st (i := i) (c := .agg (sessC l[j]).toArray) (k := .i64) (by simp [sessC]) (by simpa using hyl) (by omega) (by simp [sessC]) (by simp [sessC])
      simp -implicitDefEqProofs only [unV_n, Bool.not_false, ov_s, cd_b, true_implies]
      refine ⟨?_, fun h => (by cases h)⟩
      simp -implicitDefEqProofs only [hl4, s0, s5, g2, ov_s]
      refine g5 _ fun o' r5 => ?_
      simp -implicitDefEqProofs [s5, s6, hw1, hw2, s0, s1, -Int.natCast_add]
      have hm : (ys.map sessC).take i ++ [(Value.agg (sessC l[j]).toArray).cells.toList] ++ (ys.map sessC).drop (i + 1) = (ys.take i ++ [l[j]] ++ ys.drop (i + 1)).map sessC := by simp
      rw [hm, map_flat] at r5
      have hti : (ys.take i).length = i := by simp; omega
      refine ⟨⟨i + 1, j + 1, _, rfl, rfl, r5, by simp; omega, by omega, by omega, ?_, ?_⟩, by omega⟩
      · rw [hpur, hlj, ← D.lo]
        rw [List.take_append_of_le_length (by simp; omega)]
        simp -implicitDefEqProofs only [Bool.false_eq_true, if_false]
        rw [List.take_of_length_le (by simp; omega)]
      · rw [← hdr, List.drop_append, List.drop_eq_nil_of_le (by simp; omega), List.nil_append, List.drop_drop]
        congr 1
        simp; omega
  · have : j = l.length := by have : ¬ ((j : Int) < l.length) := by simpa using hc
                              omega
    subst this
    obtain ⟨g, cap, cur, hv, hg0, hg, hcap, hcm, hcs, hct⟩ := D.row.own (by omega)
    subst hv
    simp -implicitDefEqProofs only [lpM_e, blkM_e, if_true, thenM_n]
    unfold qaPZ
    have sl1 : slV (some (none, 4)) (.slice (some ⟨g, 0, none⟩) l.length cap) (some (.int .i64 i)) none = some (.slice (some ⟨g, i * 4, none⟩) (l.length - i) (cap - i)) := by
      have h1 : (i : Int) ≤ l.length := by omega
      simp -implicitDefEqProofs [slV, bnd, h1, show ¬ cap = i by omega, Addr.add_lit]
    have sl2 : slV (some (none, 4)) (.slice (some ⟨g, 0, none⟩) l.length cap) none (some (.int .i64 i)) = some (.slice (some ⟨g, 0, none⟩) i cap) := by
      have h1 : (i : Int) ≤ cap := by omega
      simp -implicitDefEqProofs [slV, bnd, h1, show ¬ cap = 0 by omega, Addr.add_lit]
    simp -implicitDefEqProofs [s0, s5, sl1]
    have hm1 : i * 4 + (l.length - i) * 4 = l.length * 4 := by omega
    refine clear_vv cUnSess cApSess (fun z hz => by rw [cZcSess] at hz; cases hz; rfl) (by omega) hg (by rw [hcs]; omega) (fun hz => by omega) fun cs hcs' => ?_
    unfold qaOZ
    simp -implicitDefEqProofs [s0, s5, sl2]
    have hpl : ys.take i = purgeS l now := by rw [D.lo, List.take_length]
    have hn : (purgeS l now).length = i := by rw [← hpl]; simp; omega
    have hct' : cur.toList.take (l.length * 4) = ys.flatMap sessC := hct
    refine hk _ _ ⟨ext_upd hg0 D.row.ex, ⟨by rw [← map_flat, flat_len (sz := 4) (by simp [sessC])]; simp, .inr ⟨g, cap, _, by rw [hn], upd_same' _ _ _, by omega, hcm, by simp [over_size, hcs], ?_⟩⟩, fun b hb => by simp [rowOf] at hb; subst hb; exact hg0, sessC_one _⟩
    rw [over_list (by rw [hcs, hcs']; omega), hn, ← hpl]
    unfold spl
    have cl : cur.toList.length = cap * 4 := by simpa using hcs
    have e1 : cur.toList.take (i * 4) = (ys.take i).flatMap sessC := by
      have h2 : cur.toList.take (i * 4) = (cur.toList.take (l.length * 4)).take (i * 4) := by rw [List.take_take, Nat.min_eq_left (by omega)]
      rw [h2, hct', ← map_flat, flat_take (by simp [sessC]), ← List.map_take, map_flat]
    have e2 : (cur.toList.take (i * 4)).length = i * 4 := by rw [List.length_take, cl]; omega
    rw [List.append_assoc, List.take_append_of_le_length (by omega), List.take_take, Nat.min_self, e1]
end Go.Proofs.YtmbningljbcpkaaGreat
namespace Go.Proofs.YtmbningljbcpkaaGreat
open Go Go.Den Go.MapKept
set_option linter.unusedSimpArgs false
set_option linter.unusedVariables false
set_option maxRecDepth 20000
variable {K:KTy}
theorem purge_ok (l:List Sess)(now:Int){h:Heap}{v:Value}(x:Sl 4 SessR h v l)(sn:Sn v)(hl:l.length<1000000)
  (hk:∀ h' v',Rf 4 qcZ h h' v' (purgeS l now).length ((purgeS l now).flatMap sessC)→K v' h'):callM P qlrZ #[v,.int .u64 now] h K:=by
 apply quyZ
 unfold qqaZ
 simp -implicitDefEqProofs only[nwM_s,cells_i]
 intro v1 n1
 have e1:Ext h (upd h v1 _):=Ext.upd n1 (.cells #[.int .u64 now] qaoZ (0,0))
 have c1:=upd_same' h v1 (.cells #[.int .u64 now] qaoZ (0,0))
 generalize upd h v1 _=h1 at *
 refine cloneESess (sess_els (x.ext (R:=SessR) (@SessR.ext) e1)) sn (sessC_one l) (by omega) fun v2 h2 r2=>?_
 unfold qrwZ
 simp -implicitDefEqProofs only[ov_s]
 refine deleteFunc_ok l now c1 r2 hl fun h3 v3 r3=>?_
 exact hk _ _ (r3.back e1)
theorem flat_sess (l:List Sess)(i:Nat):(l.flatMap sessC).take (i*4)=(l.take i).flatMap sessC∧(l.flatMap sessC).drop (i*4)=(l.drop i).flatMap sessC:=by
 rw[← map_flat,flat_take (by simp[sessC]),flat_drop (by simp[sessC]),← List.map_take,← List.map_drop,map_flat,map_flat]
 exact⟨rfl,rfl⟩
theorem sset_ok (l:List Sess)(so:SrtI l)(s:Sess)(most:Int){h:Heap}{v:Value}(x:Sl 4 SessR h v l)(sn:Sn v)(hl:l.length<1000000)
  (hk:∀ h' v',Rf 4 qcZ h h' v' (setS l s most).1.length ((setS l s most).1.flatMap sessC)→K (.tuple #[v',.int .i64 (setS l s most).2]) h'):callM P qqGZ #[v,.agg (sessC s).toArray,.int .i64 most] h K:=by
 apply quPZ
 unfold qrTZ
 refine nw_agg fun v1 h1 n1 e1 c1=>?_
 have c1':=c1
 simp -implicitDefEqProofs only[sessC] at c1
 refine cloneESess (sess_els (x.ext (R:=SessR) (@SessR.ext) e1)) sn (sessC_one l) (by omega) fun v2 h2 r2=>?_
 have c1:=r2.ex _ _ c1
 unfold qtnZ
 simp -implicitDefEqProofs[ld_at c1,cel_of c1,stm_at c1,stm_upd,ld_same,cel_same,over]
 refine sfind_ok l so s.id (rf_sess r2) hl fun h3 e3=>?_
 have c1:=e3 _ _ c1
 have r3:=r2.ext e3
 obtain⟨q1,q2,q3⟩:=posI_spec so s.id
 have hlen:lnV 7 v2=some (.int .i64 l.length):=(rf_sess r2).len
 unfold qtmZ
 simp -implicitDefEqProofs only[exV_0,exV_1,ov_s]
 rw[seqM_eq]
 unfold qtlZ
 cases hh:hasI l s.id with
 | true =>
  obtain⟨p1,p2⟩:=(has_posI so s.id).1 hh
  have e:setS l s most=(putS l s,0):=by simp[setS,hh]
  rw[e] at hk
  have hput:=putS_has so hh
  have r3':Rf 4 qcZ h1 h3 v2 l.length ((l.map sessC).flatten):=by rw[map_flat]; exact r3
  obtain⟨g,g1,g2,g3,g4,g5⟩:=r3'.st (i:=posI l s.id) (c:=.agg (sessC s).toArray) (k:=.i64) (by simp[sessC]) (by simp) p1 (by simp[sessC]) (by simp[sessC])
  unfold qtgZ
  have hld:ldV (some (some 4)) (ptr v1) h3=some (.agg (sessC s).toArray):=by simp[ld_at c1,sessC]
  simp -implicitDefEqProofs only[cd_b,true_implies]
  refine⟨?_,fun h=>(by cases h)⟩
  simp -implicitDefEqProofs only[hld,g2,ov_s]
  refine g5 _ fun o' r5=>?_
  have hm:(l.map sessC).take (posI l s.id)++[(Value.agg (sessC s).toArray).cells.toList]++(l.map sessC).drop (posI l s.id+1)=(putS l s).map sessC:=by rw[hput]; simp
  rw[hm,map_flat] at r5
  have hn:l.length=(putS l s).length:=by rw[hput]; simp; omega
  rw[hn] at r5
  simp -implicitDefEqProofs
  exact hk _ _ (r5.back e1)
 | false =>
  simp -implicitDefEqProofs only[cd_b,true_implies]
  refine⟨fun h=>(by cases h),?_⟩
  unfold qtkZ
  simp -implicitDefEqProofs only[hlen,bin_geq,ov_s,cd_b]
  refine⟨fun hc=>?_,fun hc=>?_⟩
  ·have hm:most≤l.length:=by simpa using hc
   have e:setS l s most=(l,2):=by simp[setS,hh,hm]
   rw[e] at hk
   unfold qthZ
   simp -implicitDefEqProofs
   exact hk _ _ (r3.back e1)
  ·have hm:¬ most≤(l.length:Int):=by simpa using hc
   have e:setS l s most=(putS l s,0):=by simp[setS,hh,hm]
   rw[e] at hk
   have hput:=putS_new so hh
   unfold qtjZ
   have hld:ldV (some (some 4)) (ptr v1) h3=some (.agg (sessC s).toArray):=by simp[ld_at c1,sessC]
   simp -implicitDefEqProofs only[hld,ov_s]
   refine bs_one cBsSess (by simp[sessC]) (by omega) fun b h4 n4 e4 c4=>?_
   have r4:=r3.ext e4
   refine insESess (x:=(Value.agg (sessC s).toArray).cells) r4 (by simp[sessC]) c4 (Rf.ne_new r3 n4) q1 (by omega) (by simp[sessC]) fun v5 h5 r5 _=>?_
   unfold qtiZ
   simp -implicitDefEqProofs
   refine hk _ _ ?_
   have r6:=r5.back e1
   have hn:l.length+1=(putS l s).length:=by rw[hput]; simp; omega
   rw[(flat_sess l _).1,(flat_sess l _).2,hn] at r6
   have hm:(l.take (posI l s.id)).flatMap sessC++(Value.agg (sessC s).toArray).cells.toList++(l.drop (posI l s.id)).flatMap sessC=(putS l s).flatMap sessC:=by rw[hput]; simp
   rw[hm] at r6
   exact r6
theorem sclear_ok (l:List Sess)(so:SrtI l)(id:Int){h:Heap}{v:Value}(x:Sl 4 SessR h v l)(sn:Sn v)(hl:l.length<1000000)
  (hk:∀ h' v',Rf 4 qcZ h h' v' (clearS l id).1.length ((clearS l id).1.flatMap sessC)→K (.tuple #[v',.int .i64 (clearS l id).2]) h'):callM P qpmZ #[v,.int .i64 id] h K:=by
 apply quzZ
 unfold qqbZ
 refine cloneESess (sess_els x) sn (sessC_one l) (by omega) fun v2 h2 r2=>?_
 unfold qrzZ
 refine sfind_ok l so id (rf_sess r2) hl fun h3 e3=>?_
 have r3:=r2.ext e3
 unfold qryZ
 simp -implicitDefEqProofs only[exV_0,exV_1,ov_s,unV_n]
 cases hh:hasI l id with
 | true =>
  obtain⟨p1,p2⟩:=(has_posI so id).1 hh
  have e:clearS l id=(delS l id,0):=by simp[clearS,hh]
  rw[e] at hk
  have hdel:=delS_has so hh
  have w1:IntKind.i64.wrap ((posI l id:Int)+1)=(posI l id+1:Nat):=by rw[wrap64_id (by omega) (by omega)]; omega
  unfold qrxZ
  simp -implicitDefEqProofs only[Bool.not_true,cd_b,true_implies]
  refine⟨fun h=>(by cases h),?_⟩
  simp -implicitDefEqProofs only[bin_add,w1,ov_s]
  refine delESess r3 p1 (by omega) fun v5 h5 r5=>?_
  refine hk _ _ ?_
  have hn:l.length-1=(delS l id).length:=by rw[hdel]; simp; omega
  rw[(flat_sess l _).1,(flat_sess l _).2,hn,← List.flatMap_append,← hdel] at r5
  exact r5
 | false =>
  have e:clearS l id=(l,3):=by simp[clearS,hh]
  rw[e] at hk
  simp -implicitDefEqProofs only[Bool.not_false,cd_b,true_implies]
  exact⟨hk _ _ r3,fun h=>(by cases h)⟩
theorem sbeat_ok (l:List Sess)(so:SrtI l)(id un:Int){h:Heap}{v:Value}(x:Sl 4 SessR h v l)(sn:Sn v)(hl:l.length<1000000)
  (hk:∀ h' v',Rf 4 qcZ h h' v' (beatS l id un).1.length ((beatS l id un).1.flatMap sessC)→K (.tuple #[v',.int .i64 (beatS l id un).2]) h'):callM P qpLZ #[v,.int .i64 id,.int .u64 un] h K:=by
 apply quHZ
 unfold qqOZ
 refine cloneESess (sess_els x) sn (sessC_one l) (by omega) fun v2 h2 r2=>?_
 unfold qspZ
 refine sfind_ok l so id (rf_sess r2) hl fun h3 e3=>?_
 have r3:=r2.ext e3
 unfold qsoZ
 simp -implicitDefEqProofs only[exV_0,exV_1,ov_s,unV_n]
 cases hh:hasI l id with
 | true =>
  obtain⟨p1,p2⟩:=(has_posI so id).1 hh
  obtain⟨q1,q2,q3⟩:=posI_spec so id
  unfold qsnZ
  simp -implicitDefEqProofs only[Bool.not_true,cd_b,true_implies]
  refine⟨fun h=>(by cases h),?_⟩
  obtain⟨p,hp⟩:∃ p,posI l id=p:=⟨_,rfl⟩
  simp -implicitDefEqProofs only[hp] at p1 p2 q1 q2 q3 ⊢
  obtain⟨g,g1,g2⟩:=r3.row.ia (k:=.i64) p1
  have hm1:p*4+4≤l.length*4:=by omega
  have hcl:=r3.row.cels g1 (o:=p*4) (m:=4) hm1
  have hcl4:cels h3 g (p*4) 4=some (sessC l[p]):=by
   rw[hcl]
   have:=flat_at sessC (sz:=4) (fun _=>rfl) l p p1
   rw[this]
  have hc3:cel h3 g (p*4+3)=some (.int .u64 l[p].un):=by
   have:=(cels_get hcl4).2 3 (by simp[sessC])
   simpa [sessC] using this
  simp -implicitDefEqProofs only[g2,faV_p,ov_s,ldV_c,hc3]
  refine vv_max ?_
  unfold qsmZ
  simp -implicitDefEqProofs only[g2,faV_p,ov_s]
  refine r3.row.st g1 (by simp) (by omega) (by simp) fun h4 hk4 hr4=>?_
  obtain⟨o',ho'⟩:=hr4.lt g g1
  have e4:h4=upd h3 g o':=upd_of hk4 ho'
  have hbe:beatS l id un=(l.take p++[{ l[p] with un:=max l[p].un un }]++l.drop (p+1),0):=by
   simp -implicitDefEqProofs only[beatS,hh,if_true]
   congr 1
   apply List.ext_getElem (by simp; omega)
   intro i h1 h2
   have h1:i<l.length:=by simpa using h1
   rw[List.getElem_map]
   by_cases hi:i<p
   ·rw[List.getElem_append_left (by simp; omega),List.getElem_append_left (by simp; omega),List.getElem_take]
    have:=q2 i h1 hi
    rw[if_neg (by omega)]
   ·by_cases hi2:i=p
    ·subst hi2
     rw[List.getElem_append_left (by simp; omega),List.getElem_append_right (by simp; omega)]
     simp -implicitDefEqProofs[p2]
    ·rw[List.getElem_append_right (by simp; omega)]
     have:=List.pairwise_iff_getElem.1 so p i p1 h1 (by omega)
     rw[if_neg (by omega),List.getElem_drop]
     congr 1
     simp; omega
  rw[hbe] at hk
  refine hk _ _ ?_
  have hsp:spl (l.flatMap sessC) (p*4+3) (Value.int .u64 (max l[p].un un)).cells.toList=(l.take p++[{ l[p] with un:=max l[p].un un }]++l.drop (p+1)).flatMap sessC:=by
   have h1:l=l.take p++[l[p]]++l.drop (p+1):=by
    rw[← List.take_succ_eq_append_getElem p1,List.take_append_drop]
   have h2:(l.flatMap sessC).take (p*4+3)=(l.take p).flatMap sessC++(sessC l[p]).take 3:=by
    rw[← (flat_sess l p).1]
    have h3:=flat_at sessC (sz:=4) (fun _=>rfl) l p p1
    rw[← h3,List.take_take,Nat.min_eq_left (by omega),List.take_add]
   have h4:(l.flatMap sessC).drop (p*4+3+1)=(l.drop (p+1)).flatMap sessC:=by
    rw[← (flat_sess l (p+1)).2]; congr 1; omega
   unfold spl
   simp -implicitDefEqProofs only[cells_i,List.length_cons,List.length_nil,Nat.zero_add] at h4 ⊢
   rw[h2,h4]
   simp -implicitDefEqProofs[sessC]
  rw[hsp] at hr4
  have hn:l.length=(l.take p++[{ l[p] with un:=max l[p].un un }]++l.drop (p+1)).length:=by simp; omega
  rw[hn] at hr4
  exact⟨by rw[e4]; exact ext_upd (r3.new g g1) r3.ex,hr4,r3.new,sessC_one _⟩
 | false =>
  have e:beatS l id un=(l,3):=by simp[beatS,hh]
  rw[e] at hk
  simp -implicitDefEqProofs only[Bool.not_false,cd_b,true_implies]
  exact⟨hk _ _ r3,fun h=>(by cases h)⟩
end Go.Proofs.YtmbningljbcpkaaGreat
namespace Go.Den
open Go
set_option linter.unusedVariables false
structure Chg where
 user:ByteArray
 old:Pres
 new:Pres
def chgC (c:Chg):List Value:=.string c.user::(presC c.old++presC c.new)
def ChgR (_:Heap)(l:List Value)(c:Chg):Prop:=l=chgC c
theorem ChgR.ext {h h':Heap}{c:List Value}{x:Chg}(_:Ext h h')(r:ChgR h c x):ChgR h' c x:=r
theorem chgC_one (c:Chg):∀ u∈chgC c,u.oneCell'=true:=by
 intro u hu
 simp[chgC,presC] at hu; rcases hu with rfl | rfl | rfl | rfl | rfl | rfl | rfl<;>rfl
def settleB (b:Book)(u:ByteArray)(ss:List Sess)(now:Int):Book × List Chg :=
 (if ss=[] then delB b u else putB b u ⟨ss,presOf ss now⟩,if presOf ss now=(entOf b u).told then [] else [⟨u,(entOf b u).told,presOf ss now⟩])
def workS (ss:List Sess)(x:OpD)(now most:Int):List Sess × Int :=
 if x.kind=1 then setS ss ⟨x.id,x.status,x.prio,addU now x.ttl⟩ most else if x.kind=2 then beatS ss x.id (addU now x.ttl) else if x.kind=3 then clearS ss x.id else (ss,0)
def writeB (b:Book)(x:OpD)(now most:Int):Book × List Chg × Int :=
 let w:=workS (purgeS (entOf b x.user).ss now) x now most
 let s:=settleB b x.user w.1 now
 (s.1,s.2,w.2)
def sweepTo (b0:Book)(now:Int):Nat→Book × List Chg
 | 0=>(b0,[])
 | n+1 =>
  let p:=sweepTo b0 now n
  let x:=b0.getD n (⟨#[]⟩,ent0)
  let s:=settleB p.1 x.1 (purgeS x.2.ss now) now
  (s.1,p.2++s.2)
def sweepB (b:Book)(now:Int):Book × List Chg:=sweepTo b now b.length
def storedB (b:Book):Nat:=(b.map fun x=>x.2.ss.length).sum
structure BkW (b:Book):Prop where
 so:SrtK (keysB b)
 us:∀ x∈b,SrtI x.2.ss∧∀ s∈x.2.ss,U64 s.un
theorem entOf_cases (b:Book)(u:ByteArray):entOf b u=ent0∨∃ x∈b,x.1=u∧entOf b u=x.2:=by
 induction b with
 | nil=>exact .inl rfl
 | cons x b ih =>
  obtain⟨k,e⟩:=x
  simp only[entOf]
  by_cases h:k=u
  ·rw[if_pos h]; exact .inr ⟨(k,e),by simp,h,rfl⟩
  ·rw[if_neg h]
   rcases ih with ih | ⟨x,h1,h2,h3⟩
   ·exact .inl ih
   ·exact .inr ⟨x,by simp[h1],h2,h3⟩
theorem BkW.ent {b:Book}(w:BkW b)(u:ByteArray):SrtI (entOf b u).ss∧∀ s∈(entOf b u).ss,U64 s.un:=by
 rcases entOf_cases b u with h | ⟨x,h1,h2,h3⟩
 ·rw[h]; exact⟨List.Pairwise.nil,by simp[ent0]⟩
 ·rw[h3]; exact w.us x h1
theorem SrtI.beat {l:List Sess}(s:SrtI l)(id un:Int):SrtI (beatS l id un).1:=by
 unfold beatS
 split
 ·refine List.pairwise_map.2 (s.imp fun {a b} h=>?_)
  split<;>split<;>exact h
 ·exact s
theorem SrtI.set {l:List Sess}(s:SrtI l)(x:Sess)(most:Int):SrtI (setS l x most).1:=by
 unfold setS
 split
 ·exact s
 ·exact s.put
theorem SrtI.clear {l:List Sess}(s:SrtI l)(id:Int):SrtI (clearS l id).1:=by
 unfold clearS
 split
 ·exact s.del id
 ·exact s
theorem work_srt {ss:List Sess}(s:SrtI ss)(x:OpD)(now most:Int):SrtI (workS ss x now most).1:=by
 unfold workS
 split
 ·exact s.set _ _
 ·split
  ·exact s.beat _ _
  ·split
   ·exact s.clear _
   ·exact s
theorem work_un {ss:List Sess}(s:∀ y∈ss,U64 y.un)(x:OpD){now:Int}(most:Int)(hn:U64 now)(ht:U64 x.ttl):∀ y∈(workS ss x now most).1,U64 y.un:=by
 have ha:=addU_rng hn ht
 intro y hy
 unfold workS at hy
 split at hy
 ·unfold setS at hy
  split at hy
  ·exact s y hy
  ·rcases mem_putS hy with rfl | hy
   ·exact ha
   ·exact s y hy
 ·split at hy
  ·unfold beatS at hy
   split at hy
   ·obtain⟨z,hz,rfl⟩:=List.mem_map.1 hy
    have:=s z hz
    split
    ·unfold U64 at *; simp only; omega
    ·exact this
   ·exact s y hy
  ·split at hy
   ·unfold clearS at hy
    split at hy
    ·exact s y (List.mem_filter.1 hy).1
    ·exact s y hy
   ·exact s y hy
theorem work_len {ss:List Sess}(x:OpD)(now most:Int):(workS ss x now most).1.length≤ss.length+1:=by
 unfold workS
 split
 ·unfold setS; split
  ·exact Nat.le_succ _
  ·exact putS_len
 ·split
  ·unfold beatS; split<;>simp
  ·split
   ·unfold clearS; split
    ·have:=List.length_filter_le (fun s:Sess=>!decide (s.id=x.id)) ss; unfold delS; simp only; omega
    ·exact Nat.le_succ _
   ·exact Nat.le_succ _
theorem mem_putB {b:Book}{u:ByteArray}{e:Ent}{x:ByteArray × Ent}:x∈putB b u e→x=(u,e)∨x∈b:=by
 induction b with
 | nil=>intro h; simp[putB] at h; exact .inl h
 | cons y b ih =>
  obtain⟨k,f⟩:=y
  intro h
  simp only[putB] at h
  split at h
  ·rcases List.mem_cons.1 h with h | h
   ·exact .inr (by simp[h])
   ·rcases ih h with h | h
    ·exact .inl h
    ·exact .inr (by simp[h])
  ·split at h
   ·rcases List.mem_cons.1 h with h | h
    ·exact .inl h
    ·exact .inr (by simp[h])
   ·rcases List.mem_cons.1 h with h | h
    ·exact .inl h
    ·exact .inr h
theorem BkW.settle {b:Book}(w:BkW b)(u:ByteArray){ss:List Sess}(now:Int)(h1:SrtI ss)(h2:∀ s∈ss,U64 s.un):BkW (settleB b u ss now).1:=by
 unfold settleB
 dsimp only
 split
 ·exact⟨delB_srt w.so,fun x hx=>w.us x (List.mem_filter.1 hx).1⟩
 ·refine⟨putB_srt w.so,fun x hx=>?_⟩
  rcases mem_putB hx with rfl | hx
  ·exact⟨h1,h2⟩
  ·exact w.us x hx
theorem settle_len (b:Book)(u:ByteArray)(ss:List Sess)(now:Int):(settleB b u ss now).1.length≤b.length+1:=by
 unfold settleB
 dsimp only
 split
 ·exact Nat.le_succ_of_le delB_len
 ·exact putB_len
theorem BkW.purge {l:List Sess}(h1:SrtI l)(h2:∀ s∈l,U64 s.un)(now:Int):SrtI (purgeS l now)∧∀ s∈purgeS l now,U64 s.un:=⟨h1.purge now,fun s hs=>h2 s (List.mem_filter.1 hs).1⟩
theorem BkW.sweepTo {b:Book}(w:BkW b)(now:Int):∀ n,n≤b.length→BkW (sweepTo b now n).1
 | 0,_=>w
 | n+1,hn=>by
  have ih:=BkW.sweepTo w now n (by omega)
  have hm:b.getD n (⟨#[]⟩,ent0)∈b:=by rw[List.getD_eq_getElem?_getD,List.getElem?_eq_getElem (by omega)]; exact List.getElem_mem _
  obtain⟨h1,h2⟩:=w.us _ hm
  obtain⟨h3,h4⟩:=BkW.purge h1 h2 now
  exact ih.settle _ _ h3 h4
end Go.Den
namespace Go.Den
open Go
theorem fz_loc {T:Tags}{h:Heap}{b:Nat}{o:Obj}:Ext (fz (tset T b lc) h) (fz T (upd h b o)):=fun k z e=>by
 unfold fz at e ⊢
 by_cases hk:k=b
 ·subst hk; rw[tset_same] at e; simp at e
 ·rw[tset_ne hk] at e; rw[upd_ne hk]; exact e
theorem fz_in {T:Tags}{h h':Heap}{b:Nat}(n:h b=none)(e:Ext h h'):Ext (fz T h) (fz (tset T b lc) h'):=fun k z ek=>by
 unfold fz at ek ⊢
 split at ek
 ·rename_i ht
  have hk:k≠b:=fun hh=>by subst hh; rw[n] at ek; cases ek
  rw[tset_ne hk,if_pos ht]; exact e k z ek
 ·cases ek
theorem wf_loc {T:Tags}{h:Heap}{b:Nat}{o:Obj}{t:Tag}(w:Wf T h)(c:h b=some o):Wf (tset T b t) h:=fun k n=>by
 have hk:k≠b:=fun hh=>by subst hh; rw[n] at c; cases c
 rw[tset_ne hk]; exact w k n
end Go.Den
namespace Go.Den
open Go
variable {K:KTy}
theorem Rf.app2 {P:Program}{t ty e:TypeId}{sz bytes m:Nat}{v x:Value}{n:Nat}{xs news:List Value}{h0 h:Heap}
  (ht:P.underlying t=some (.slice e)) (hi:apC P e=some (sz,bytes,sz)) (hsz:0<sz) (hv:Rf sz e h0 h v n xs) (hx:SlC sz h x m news) (h1:∀ u∈news,u.oneCell'=true)
  (h63:n+m≤maxLen) (hby:(n+m)*bytes≤140737488355328) (hk:∀ v' h',Rf sz e h0 h' v' (n+m) (xs++news)→(∀ b o,h b=some o→rowOf v≠some b→h' b=some o)→(rowOf v'=rowOf v∨∃ b,rowOf v'=some b∧h b=none)→K v' h') :
  vvM P (Builtin.append_ #[t,t] ty #[v,x]) h K:=by
 rcases hx with ⟨rfl,rfl,a,c,rfl⟩ | ⟨b,o,cap,rfl,hc⟩
 ·refine app_none ht hi hv.row (hk v h ?_ (fun b o e _=>e) (.inl rfl))
  simpa using hv
 ·refine app_intro ht hi hsz hv.row hc h1 h63 hby fun v' h' hr hkp ha=>hk v' h' ⟨hv.ex.keep hkp fun b hb=>hv.new b hb,hr,fun b hb=>?_,fun u hu=>?_⟩ (fun b o e n=>hkp b o e fun hh=>n hh.symm) ha
  ·rcases ha with ha | ⟨k,ha,hn⟩
   ·exact hv.new b (by rw[← ha]; exact hb)
   ·rw[ha] at hb; simp only[Option.some.injEq] at hb; subst hb; exact fresh_of hv.ex hn
  ·rcases List.mem_append.1 hu with hu | hu
   ·exact hv.one u hu
   ·exact h1 u hu
theorem fz_keep {T:Tags}{h h':Heap}{l:Nat}(ht:T l≠[])(k:Keep (some l) h h'):Ext (fz T h) (fz T h'):=fun b o e=>by
 unfold fz at e ⊢
 split at e
 ·rename_i hb
  rw[if_pos hb]
  exact k b o e fun hh=>ht (by cases hh; exact hb)
 ·cases e
theorem fz_of {T T':Tags}{h h':Heap}(hk:∀ b,T b=[]→T' b=[]∧∀ o,h b=some o→h' b=some o):Ext (fz T h) (fz T' h'):=fun b o e=>by
 unfold fz at e ⊢
 split at e
 ·rename_i hb
  rw[if_pos (hk b hb).1]; exact (hk b hb).2 o e
 ·cases e
theorem Rf.keep {sz:Nat}{e:TypeId}{h0 h h':Heap}{v:Value}{n:Nat}{xs:List Value}{l:Nat}(r:Rf sz e h0 h v n xs)(k:Keep (some l) h h')(hl:h0 l=none)(hv:rowOf v≠some l):Rf sz e h0 h' v n xs :=
 ⟨fun b o e=>k b o (r.ex b o e) (fun hh=>by cases hh; rw[hl] at e; cases e),r.row.of_at fun g hg=>by
  obtain⟨o,ho⟩:=r.row.lt g hg
  rw[ho,k g o ho (fun hh=>hv (by rw[hg,hh]))],r.new,r.one⟩
def tls (T:Tags)(l:List Nat):Tags:=fun b=>if b∈l then lc else T b
theorem tls_in {T:Tags}{l:List Nat}{b:Nat}(h:b∈l):tls T l b=lc:=if_pos h
theorem tls_out {T:Tags}{l:List Nat}{b:Nat}(h:b ∉ l):tls T l b=T b:=if_neg h
theorem tls_nil {T:Tags}{l:List Nat}{b:Nat}(h:tls T l b=[]):b ∉ l∧T b=[]:=by
 by_cases hb:b∈l
 ·rw[tls_in hb] at h; simp at h
 ·rw[tls_out hb] at h; exact⟨hb,h⟩
theorem wf_tls {T:Tags}{h:Heap}{l:List Nat}(w:Wf T h)(hl:∀ b∈l,∃ o,h b=some o):Wf (tls T l) h:=fun b n=>by
 rw[tls_out (fun hb=>by obtain⟨o,ho⟩:=hl b hb; rw[n] at ho; cases ho)]; exact w b n
theorem fz_tls {T:Tags}{h h':Heap}{l:List Nat}(hl:∀ b∈l,h b=none)(e:Ext h h'):Ext (fz T h) (fz (tls T l) h'):=fun b o eb=>by
 unfold fz at eb ⊢
 split at eb
 ·rename_i ht
  rw[tls_out (fun hb=>by rw[hl b hb] at eb; cases eb),if_pos ht]; exact e b o eb
 ·cases eb
theorem fz_untls {T:Tags}{h h':Heap}{l:List Nat}(hk:∀ b o,b ∉ l→h b=some o→h' b=some o):Ext (fz (tls T l) h) (fz T h'):=fz_of fun b hb=>⟨(tls_nil hb).2,fun o ho=>hk b o (tls_nil hb).1 ho⟩
theorem ChgR.one {h:Heap}:∀ c y,ChgR h c y→∀ u∈c,u.oneCell'=true:=fun c y r u hu=>by
 have:c=chgC y:=r
 subst this; exact chgC_one y u hu
theorem chg_els {h:Heap}{v:Value}{l:List Chg}(x:Sl 7 ChgR h v l):SlC 7 h v l.length (l.flatMap chgC):=by
 obtain⟨L,h1,h2⟩:=x.els ChgR.one
 have:L=l.map chgC:=by
  apply List.ext_getElem (by simp[h2.len])
  intro i h3 h4
  simp only[List.getElem_map]
  exact h2.el i h3 (by simpa using h4)
 rw[this,← List.flatMap_def] at h1
 exact h1
theorem flatC_one (l:List Chg):∀ u∈l.flatMap chgC,u.oneCell'=true:=by
 intro u hu
 obtain⟨s,_,hs⟩:=List.mem_flatMap.1 hu
 exact chgC_one s u hs
theorem srt_sub {l m:List ByteArray}(hl:SrtK l)(hm:SrtK m)(h:∀ k∈l,k∈m):l.length≤m.length:=by
 induction m generalizing l with
 | nil=>cases l with
  | nil=>simp
  | cons a l=>have:=h a (by simp); simp at this
 | cons b m ih =>
  have hm':=(List.pairwise_cons.1 hm)
  cases l with
  | nil=>simp
  | cons a l =>
   have hl':=List.pairwise_cons.1 hl
   simp only[List.length_cons,Nat.add_le_add_iff_right]
   refine ih hl'.2 hm'.2 fun k hk=>?_
   rcases List.mem_cons.1 (h k (by simp[hk])) with hh | hh
   ·subst hh
    have h1:=hl'.1 k hk
    rcases List.mem_cons.1 (h a (by simp)) with ha | ha
    ·subst ha; rw[ltS_irrefl] at h1; cases h1
    ·have h2:=hm'.1 a ha
     rw[ltS_asymm h1] at h2; cases h2
   ·exact hh
theorem settle_keys {b:Book}{u:ByteArray}{ss:List Sess}{now:Int}{k:ByteArray}(h:k∈keysL (settleB b u ss now).1):k=u∨k∈keysL b:=by
 unfold settleB at h
 dsimp only at h
 split at h
 ·obtain⟨x,hx,rfl⟩:=List.mem_map.1 h
  exact .inr (List.mem_map_of_mem (List.mem_filter.1 hx).1)
 ·exact keys_putB h
theorem sweep_keys {b:Book}{now:Int}:∀ {n:Nat},n≤b.length→∀ k∈keysL (sweepTo b now n).1,k∈keysL b
 | 0,_,k,h=>h
 | n+1,hn,k,h=>by
  rcases settle_keys h with rfl | h
  ·rw[List.getD_eq_getElem?_getD,List.getElem?_eq_getElem (by omega)]
   exact List.mem_map_of_mem (List.getElem_mem _)
  ·exact sweep_keys (by omega) k h
theorem sweep_len {b:Book}(w:BkW b){now:Int}{n:Nat}(hn:n≤b.length):(sweepTo b now n).1.length≤b.length:=by
 have:=srt_sub (l:=keysL (sweepTo b now n).1) (m:=keysL b) (w.sweepTo now n hn).so w.so (sweep_keys hn)
 simpa [keysL] using this
theorem sweep_chg (b:Book)(now:Int):∀ n,(sweepTo b now n).2.length≤n
 | 0=>by simp[sweepTo]
 | n+1=>by
  have:=sweep_chg b now n
  simp only[sweepTo,List.length_append]
  have h2:∀ (b:Book) u ss,(settleB b u ss now).2.length≤1:=fun b u ss=>by unfold settleB; dsimp only; split<;>simp
  have:=h2 (sweepTo b now n).1 (b.getD n (⟨#[]⟩,ent0)).1 (purgeS (b.getD n (⟨#[]⟩,ent0)).2.ss now)
  omega
theorem fz_of2 {T T':Tags}{h h':Heap}(hk:∀ b o,T b=[]→h b=some o→T' b=[]∧h' b=some o):Ext (fz T h) (fz T' h'):=fun b o e=>by
 unfold fz at e ⊢
 split at e
 ·rename_i hb
  obtain⟨h1,h2⟩:=hk b o hb e
  rw[if_pos h1]; exact h2
 ·cases e
end Go.Den
namespace Go.Proofs.YtmbningljbcpkaaGreat
open Go Go.Den Go.MapKept
set_option linter.unusedSimpArgs false
set_option linter.unusedVariables false
set_option maxRecDepth 20000
theorem bsChg:bsI P qtZ=some (qJZ,7,#[.string ⟨#[]⟩,.int .i64 0,.int .i64 0,.int .i64 0,.int .i64 0,.int .i64 0,.int .i64 0]):=by kernel_rfl
theorem unSlChg:P.underlying qtZ=some (.slice qJZ):=by kernel_rfl
theorem apChg:apC P qJZ=some (7,64,7):=by kernel_rfl
theorem bdChg (u:ByteArray)(a b c d e f:Int):bdV (binf P qJZ) [(0,.string u),(1,.agg #[.int .i64 a,.int .i64 b,.int .i64 c]),(2,.agg #[.int .i64 d,.int .i64 e,.int .i64 f])] =
 some (.agg #[.string u,.int .i64 a,.int .i64 b,.int .i64 c,.int .i64 d,.int .i64 e,.int .i64 f]):=by kernel_rfl
theorem bdEnt (a:Option Addr)(n m:Nat)(d e f:Int):bdV (binf P qjZ) [(0,.slice a n m),(1,.agg #[.int .i64 d,.int .i64 e,.int .i64 f])]=some (.agg #[.slice a n m,.int .i64 d,.int .i64 e,.int .i64 f]):=by kernel_rfl
theorem bdSess (a b c d:Int):bdV (binf P qcZ) [(0,.int .i64 a),(1,.int .i64 b),(2,.int .i64 c),(3,.int .u64 d)]=some (.agg #[.int .i64 a,.int .i64 b,.int .i64 c,.int .u64 d]):=by kernel_rfl
theorem presNe (p q:Pres){x y:Operand}{K:Value→Prop}:pvM P (do eqGuard .neq qiZ x y (.agg #[.int .i64 p.st,.int .i64 p.pr,.int .i64 p.lv]) (.agg #[.int .i64 q.st,.int .i64 q.pr,.int .i64 q.lv]); binOp .neq qiZ (.agg #[.int .i64 p.st,.int .i64 p.pr,.int .i64 p.lv]) (.agg #[.int .i64 q.st,.int .i64 q.pr,.int .i64 q.lv])) K=K (.bool (!decide (p=q))):=by
 rw[pv_neq (d:=5) (b:=(p.st == q.st) && ((p.pr == q.pr) && ((p.lv == q.lv) && true))) (by kernel_rfl) (by omega) (by kernel_rfl)]
 have:((p.st == q.st) && ((p.pr == q.pr) && ((p.lv == q.lv) && true)))=decide (p=q):=by
  rw[Bool.eq_iff_iff]; cases p; cases q; simp
 rw[this]
theorem chg_sl {T:Tags}{h0 h:Heap}{b:Nat}{c:Chg}(hb:h b=some (.cells (chgC c).toArray qJZ (0,0)))(ht:T b=[]):Sl 7 ChgR (fz T h) (.slice (some ⟨b,0,none⟩) 1 1) [c]:=by
 have hb':=fz_at hb ht
 refine .inr ⟨b,0,1,rfl,by simp,by unfold maxLen; omega,fun i hi=>?_⟩
 have:i=0:=by simp at hi; exact hi
 subst this
 exact⟨chgC c,cels_of hb' (by simp[chgC,presC]) (by simp[chgC,presC]),rfl⟩
variable {K:KTy}
set_option maxHeartbeats 2000000 in
theorem settle_ok (b:Book)(bw:BkW b)(u:ByteArray)(hu:u.size≤maxLen)(ss:List Sess)(now:Int){T:Tags}{h:Heap}(w:Wf T h){kw vw sv:Value}(x:BookR (fz T h) kw vw b)(hs:Sl 4 SessR (fz T h) sv ss)(hn:Sn sv)(hl:b.length<1000000)(hl2:ss.length<1000000)
  (hk:∀ h' k v cv,Ext h h'→BookR (fz T h') k v (settleB b u ss now).1→Sl 7 ChgR (fz T h') cv (settleB b u ss now).2→K (.tuple #[.agg #[k,v],cv]) h'):callM P qjFZ #[.agg #[kw,vw],.string u,sv,.int .u64 now] h K:=by
 apply qupZ
 unfold qpuZ
 rw[zcMap]
 refine nw_agg fun v1 h1 n1 e1 c1=>?_
 refine nw_intro fun v3 h3 n3 e3 c3=>?_
 have c1:=e3 _ _ c1
 have n3:h v3=none:=fresh_of e1 n3
 have e0:=e1.trans e3
 have o1:=x.1.one
 have o2:=x.2.1.one
 simp -implicitDefEqProofs[ld_at c1,cel_of c1,stm_at c1,stm_upd,ld_same,cel_same,over]
 refine get_ok b bw.so u ((fz_ext T h).trans e0) x hl fun h4 wv e4 hwv hwn=>?_
 have c1:=e4 _ _ c1
 have c3:=e4 _ _ c3
 have e0:=e0.trans e4
 unfold qqDZ
 simp -implicitDefEqProofs only[exV_0,exV_1,ov_s,zcEnt]
 obtain⟨tw,htw⟩:∃ tw,(entOf b u).told=tw:=⟨_,rfl⟩
 simp -implicitDefEqProofs only[htw,presC]
 refine nw_st (by simp) (by simp) (by simp[hwv.one.1]) fun v10 h5 n5 e5 c5=>?_
 have c1:=e5 _ _ c1
 have c3:=e5 _ _ c3
 have e0:=e0.trans e5
 refine aggOf_ok ss now (hs.ext (R:=SessR) (@SessR.ext) ((fz_ext T h).trans e0)) hl2 fun h6 e6=>?_
 have c1:=e6 _ _ c1
 have c3:=e6 _ _ c3
 have c5:=e6 _ _ c5
 have e0:=e0.trans e6
 unfold qqCZ
 rw[zcPres]
 refine nw_st rfl rfl (by simp[presC]) fun v15 h7 n7 e7 c7=>?_
 have c1:=e7 _ _ c1
 have c3:=e7 _ _ c3
 have c5:=e7 _ _ c5
 have e0:=e0.trans e7
 simp -implicitDefEqProofs only[presC,cells_agg] at c5 c7
 rw[seqM_eq]
 unfold qqyZ
 obtain⟨sa,sn,sc,hsv⟩:=sl_sl hs
 have w7:=w.ext e0
 have x7:BookR (fz (tset T v3 lc) h7) kw vw b:=x.ext (fz_in n3 e0)
 have hs7:Sl 4 SessR (fz (tset T v3 lc) h7) sv ss:=hs.ext (R:=SessR) (@SessR.ext) (fz_in n3 e0)
 have wt:Wf (tset T v3 lc) h7:=wf_loc w7 c3
 -- the end
 have fin:∀ (h8:Heap) (s:Env) (cv:Value),Ext h7 h8→Sl 7 ChgR (fz (tset T v3 lc) h8) cv (settleB b u ss now).2→s 1 = .string u→s 2=sv→s 3 = .int .u64 now→s 4=ptr v1→s 8=ptr v3→s 12=ptr v15→s 13=cv→qneZ s h8 K []:=by
  intro h8 s cv e8 hcv s1 s2 s3 s4 s8 s12 s13
  have c1:=e8 _ _ c1
  have c3:=e8 _ _ c3
  have c7:=e8 _ _ c7
  have e0:=e0.trans e8
  have w8:=wt.ext e8
  have x8:=x7.ext (fz_of_ext e8)
  have hs8:=hs7.ext (R:=SessR) (@SessR.ext) (fz_of_ext e8)
  have hsl:=hs.len
  have last:∀ h9 k v,Ext h8 h9→BookR (fz (tset T v3 lc) h9) k v (settleB b u ss now).1→K (.tuple #[.agg #[k,v],cv]) (upd h9 v3 (.cells #[k,v] qaZ (0,0))):=fun h9 k v e9 hb =>
   hk _ k v cv (ext_upd n3 (e0.trans e9)) (hb.ext fz_loc) ((hcv.ext (R:=ChgR) (@ChgR.ext) (fz_of_ext e9)).ext (R:=ChgR) (@ChgR.ext) fz_loc)
  unfold qneZ
  simp -implicitDefEqProofs only[s2,hsl,ov_s,bin_eql,cd_b]
  refine⟨fun hc=>?_,fun hc=>?_⟩
  ·have hss:ss=[]:=by
    have:((ss.length:Int)=0):=by simpa using hc
    exact List.eq_nil_of_length_eq_zero (by omega)
   have e:(settleB b u ss now).1=delB b u:=by simp[settleB,hss]
   rw[e] at last
   unfold qqAZ
   simp -implicitDefEqProofs[s1,s4,ld_at c1,cel_of c1,stm_at c1,stm_upd,ld_same,cel_same,over]
   refine without_ok b bw.so u w8 x8 hl fun h9 k v e9 hb=>?_
   have c3:=e9 _ _ c3
   have p1:=hb.1.one
   have p2:=hb.2.1.one
   unfold qqzZ
   simp -implicitDefEqProofs[s8,s13,ld_at c3,cel_of c3,stm_at c3,stm_upd,ld_same,cel_same,over,p1.1,p2.1,tgMap]
   exact last h9 k v e9 hb
  ·have hss:¬ ss=[]:=fun hh=>by rw[hh] at hc; simp at hc
   have e:(settleB b u ss now).1=putB b u ⟨ss,presOf ss now⟩:=by simp[settleB,hss]
   rw[e] at last
   unfold qqBZ
   subst hsv
   simp -implicitDefEqProofs[s1,s2,s4,s12,ld_at c1,cel_of c1,stm_at c1,ld_at c7,cel_of c7,stm_at c7,stm_upd,ld_same,cel_same,over,bdEnt]
   refine with_ok b bw.so u hu ⟨ss,presOf ss now⟩ w8 x8 hs8 hn hl fun h9 k v e9 hb=>?_
   have c3:=e9 _ _ c3
   have p1:=hb.1.one
   have p2:=hb.2.1.one
   unfold qqcZ
   simp -implicitDefEqProofs[s8,s13,ld_at c3,cel_of c3,stm_at c3,stm_upd,ld_same,cel_same,over,p1.1,p2.1,tgMap]
   exact last h9 k v e9 hb
 simp -implicitDefEqProofs[ld_at c7,cel_of c7,stm_at c7,ld_at c5,cel_of c5,stm_at c5,stm_upd,ld_same,cel_same,over]
 rw[← htw]
 obtain⟨pr,hpr⟩:∃ pr,presOf ss now=pr:=⟨_,rfl⟩
 simp -implicitDefEqProofs only[hpr,htw] at fin ⊢
 rw[presNe]
 by_cases hne:pr=tw
 ·simp -implicitDefEqProofs[hne]
  unfold qqxZ
  try simp only[thenM_n]
  have e2:(settleB b u ss now).2=[]:=by simp[settleB,hpr,htw,hne]
  refine fin h7 _ (.slice none 0 0) (Ext.refl _) (by rw[e2]; exact .inl ⟨rfl,_,_,rfl⟩) ?_ ?_ ?_ ?_ ?_ ?_ ?_<;>simp
 ·simp -implicitDefEqProofs[hne]
  unfold qqwZ
  have e2:(settleB b u ss now).2=[⟨u,tw,pr⟩]:=by simp[settleB,hpr,htw,hne]
  simp -implicitDefEqProofs[ld_at c7,cel_of c7,stm_at c7,ld_at c5,cel_of c5,stm_at c5,stm_upd,ld_same,cel_same,over,bdChg]
  refine bs_one bsChg (by simp) (by omega) fun cb h8 n8 e8 c8=>?_
  try simp only[thenM_n]
  have ne3:cb≠v3:=fun hh=>by rw[hh,c3] at n8; cases n8
  have hT:tset T v3 lc cb=[]:=by rw[tset_ne ne3]; exact w cb (fresh_of e0 n8)
  refine fin h8 _ (.slice (some ⟨cb,0,none⟩) 1 1) e8 (by rw[e2]; rw[hpr] at c8; exact chg_sl (c:=⟨u,tw,pr⟩) (h0:=h) c8 hT) ?_ ?_ ?_ ?_ ?_ ?_ ?_<;>simp
end Go.Proofs.YtmbningljbcpkaaGreat
namespace Go.Proofs.YtmbningljbcpkaaGreat
open Go Go.Den Go.MapKept
set_option linter.unusedSimpArgs false
set_option linter.unusedVariables false
set_option maxRecDepth 20000
theorem rf_sl {T:Tags}{h0 h:Heap}{v:Value}{l:List Sess}(r:Rf 4 qcZ h0 h v l.length (l.flatMap sessC))(w:Wf T h0):Sl 4 SessR (fz T h) v l:=by
 rw[← map_flat] at r
 exact r.sl w (by simp) (El.enc (by simp[sessC]) (fun y u hu=>SessR.one (h:=h) _ y rfl u hu) (fun _ _=>rfl))
variable {K:KTy}
set_option maxHeartbeats 2000000 in
theorem bwrite_ok (b:Book)(bw:BkW b)(x:OpD)(xw:OpW x){uv:Value}(ou:One uv){now:Int}(hnow:U64 now)(most:Int){T:Tags}{h:Heap}(w:Wf T h){kw vw:Value}(xb:BookR (fz T h) kw vw b)(hl:b.length<1000000)(hl2:(entOf b x.user).ss.length<900000)
  (hk:∀ h' k v cv,Ext h h'→BookR (fz T h') k v (writeB b x now most).1→Sl 7 ChgR (fz T h') cv (writeB b x now most).2.1→K (.tuple #[.agg #[k,v],cv,.int .i64 (writeB b x now most).2.2]) h') :
  callM P qlqZ #[.agg #[kw,vw],.agg (opC x uv).toArray,.int .u64 now,.int .i64 most] h K:=by
 apply quuZ
 unfold qpVZ
 rw[zcMap]
 refine nw_agg fun v1 h1 n1 e1 c1=>?_
 refine nw_agg fun v3 h3 n3 e3 c3=>?_
 refine nw_intro fun v5 h5 n5 e5 c5=>?_
 have c1:=e5 _ _ (e3 _ _ c1)
 have c3:=e5 _ _ c3
 have n5:h v5=none:=fresh_of (e1.trans e3) n5
 have e0:=(e1.trans e3).trans e5
 simp -implicitDefEqProofs only[opC] at c3
 have o1:=xb.1.one
 have o2:=xb.2.1.one
 have wt:Wf (tset T v5 lc) h5:=wf_loc (w.ext e0) c5
 have x5:BookR (fz (tset T v5 lc) h5) kw vw b:=xb.ext (fz_in n5 e0)
 obtain⟨ss,hss⟩:∃ ss,(entOf b x.user).ss=ss:=⟨_,rfl⟩
 have hent:=bw.ent x.user
 rw[hss] at hl2 hent
 have hwr:writeB b x now most=((settleB b x.user (workS (purgeS ss now) x now most).1 now).1,(settleB b x.user (workS (purgeS ss now) x now most).1 now).2,(workS (purgeS ss now) x now most).2):=by simp[writeB,hss]
 rw[hwr] at hk
 have hpl:(purgeS ss now).length≤ss.length:=List.length_filter_le _ _
 have hsr:=hent.1.purge now
 have hwl:=work_len (ss:=purgeS ss now) x now most
 simp -implicitDefEqProofs[ld_at c1,cel_of c1,stm_at c1,ld_at c3,cel_of c3,stm_at c3,stm_upd,ld_same,cel_same,over]
 refine get_ok b bw.so x.user (fz_ext _ _) x5 hl fun h6 wv e6 hwv hwn=>?_
 rw[hss] at hwv
 have c1:=e6 _ _ c1
 have c3:=e6 _ _ c3
 unfold qrrZ
 obtain⟨tw,htw⟩:∃ tw,(entOf b x.user).told=tw:=⟨_,rfl⟩
 simp -implicitDefEqProofs only[exV_0,exV_1,ov_s,zcEnt,htw,presC]
 refine nw_st (by simp) (by simp) (by simp[hwv.one.1]) fun v14 h7 n7 e7 c7=>?_
 simp -implicitDefEqProofs only[cells_agg] at c7
 have c1:=e7 _ _ c1
 have c3:=e7 _ _ c3
 have e57:=e6.trans e7
 simp -implicitDefEqProofs[ld_at c7,cel_of c7,stm_at c7,stm_upd,ld_same,cel_same,over]
 refine purge_ok ss now (hwv.ext (R:=SessR) (@SessR.ext) ((fz_ext _ _).trans e57)) hwn (by omega) fun h8 v8 r8=>?_
 have c1:=r8.ex _ _ c1
 have c3:=r8.ex _ _ c3
 have r8:=r8.back e57
 unfold qrqZ
 simp -implicitDefEqProofs[ld_at c3,cel_of c3,stm_at c3,stm_upd,ld_same,cel_same,over]
 refine tickAdd_ok hnow xw.u1 ?_
 unfold qrpZ
 rw[seqM_eq]
 unfold qroZ
 have fin:∀ (h9:Heap) (s:Env) (v':Value),Rf 4 qcZ h5 h9 v' (workS (purgeS ss now) x now most).1.length ((workS (purgeS ss now) x now most).1.flatMap sessC)→Ext h8 h9→s 2 = .int .u64 now→s 4=ptr v1→s 5=ptr v3→s 8=ptr v5→s 13=v'→s 14 = .int .i64 (workS (purgeS ss now) x now most).2→qndZ s h9 K []:=by
  intro h9 s v' r9 e9 s2 s4 s5 s8 s13 s14
  have c1:=e9 _ _ c1
  have c3:=e9 _ _ c3
  have c5:=r9.ex _ _ c5
  unfold qndZ
  simp -implicitDefEqProofs[s2,s4,s5,s13,ld_at c1,cel_of c1,stm_at c1,ld_at c3,cel_of c3,stm_at c3,stm_upd,ld_same,cel_same,over]
  refine settle_ok b bw x.user xw.s1 _ now (wt.ext r9.ex) (x5.ext (fz_of_ext r9.ex)) (rf_sl r9 wt) r9.row.sn hl (by omega) fun ha k v cv ea hb hc=>?_
  have c5:=ea _ _ c5
  have p1:=hb.1.one
  have p2:=hb.2.1.one
  unfold qqtZ
  simp -implicitDefEqProofs only[exV_0,exV_1,ov_s,zcMap]
  refine nw_st (by simp) (by simp) (by simp[p1.1,p2.1]) fun v63 hb' nb eb cb=>?_
  simp -implicitDefEqProofs only[cells_agg] at cb
  have c5:=eb _ _ c5
  have ne:v63≠v5:=Ne.symm (ne_fresh (ea _ _ ‹_›) nb)
  simp -implicitDefEqProofs[s8,s14,ld_at cb,cel_of cb,stm_at cb,ld_at c5,cel_of c5,stm_at c5,stm_upd,ld_same,cel_same,over,p1.1,p2.1,tgMap]
  have ef:=((r9.ex.trans ea).trans eb)
  exact hk _ k v cv (ext_upd n5 (e0.trans ef)) ((hb.ext (fz_of_ext eb)).ext fz_loc) ((hc.ext (R:=ChgR) (@ChgR.ext) (fz_of_ext eb)).ext (R:=ChgR) (@ChgR.ext) fz_loc)
 simp -implicitDefEqProofs[ld_at c3,cel_of c3,stm_at c3,stm_upd,ld_same,cel_same,over]
 refine⟨fun hk1=>?_,fun hk1=>?_⟩
 ·have e:workS (purgeS ss now) x now most=setS (purgeS ss now) ⟨x.id,x.status,x.prio,addU now x.ttl⟩ most:=by simp[workS,hk1]
  unfold qrkZ
  simp -implicitDefEqProofs[ld_at c3,cel_of c3,stm_at c3,stm_upd,ld_same,cel_same,over,bdSess]
  refine sset_ok (purgeS ss now) hsr ⟨x.id,x.status,x.prio,addU now x.ttl⟩ most (rf_sess r8) r8.row.sn (by omega) fun h9 v9 r9=>?_
  unfold qrjZ
  simp -implicitDefEqProofs only[exV_0,exV_1,ov_s]
  rw[← e] at r9
  try simp only[thenM_n]
  refine fin h9 _ v9 (r9.back r8.ex) r9.ex ?_ ?_ ?_ ?_ ?_ ?_<;>simp[e]
 ·unfold qrnZ
  simp -implicitDefEqProofs
  refine⟨fun hk2=>?_,fun hk2=>?_⟩
  ·have e:workS (purgeS ss now) x now most=beatS (purgeS ss now) x.id (addU now x.ttl):=by simp[workS,hk2]
   unfold qrmZ
   simp -implicitDefEqProofs[ld_at c3,cel_of c3,stm_at c3,stm_upd,ld_same,cel_same,over]
   refine sbeat_ok (purgeS ss now) hsr x.id (addU now x.ttl) (rf_sess r8) r8.row.sn (by omega) fun h9 v9 r9=>?_
   unfold qrlZ
   simp -implicitDefEqProofs only[exV_0,exV_1,ov_s]
   rw[← e] at r9
   try simp only[thenM_n]
   refine fin h9 _ v9 (r9.back r8.ex) r9.ex ?_ ?_ ?_ ?_ ?_ ?_<;>simp[e]
  ·unfold qqsZ
   simp -implicitDefEqProofs
   refine⟨fun hk3=>?_,fun hk3=>?_⟩
   ·have e:workS (purgeS ss now) x now most=clearS (purgeS ss now) x.id:=by simp[workS,hk3]
    unfold qqqZ
    simp -implicitDefEqProofs[ld_at c3,cel_of c3,stm_at c3,stm_upd,ld_same,cel_same,over]
    refine sclear_ok (purgeS ss now) hsr x.id (rf_sess r8) r8.row.sn (by omega) fun h9 v9 r9=>?_
    unfold qqpZ
    simp -implicitDefEqProofs only[exV_0,exV_1,ov_s]
    rw[← e] at r9
    try simp only[thenM_n]
    refine fin h9 _ v9 (r9.back r8.ex) r9.ex ?_ ?_ ?_ ?_ ?_ ?_<;>simp[e]
   ·have e:workS (purgeS ss now) x now most=(purgeS ss now,0):=by simp[workS,hk1,hk2,hk3]
    unfold qqrZ
    try simp only[thenM_n]
    refine fin h8 _ v8 (by rw[e]; exact r8) (Ext.refl _) ?_ ?_ ?_ ?_ ?_ ?_<;>simp[e]
end Go.Proofs.YtmbningljbcpkaaGreat
namespace Go.Proofs.YtmbningljbcpkaaGreat
open Go Go.Den Go.MapKept
set_option linter.unusedSimpArgs false
set_option linter.unusedVariables false
set_option maxRecDepth 20000
theorem row_ty {sz:Nat}{e e':TypeId}{h:Heap}{v:Value}{n:Nat}{xs:List Value}(r:Row sz e h v n xs){b:Nat}{c:Array Value}(hb:h b=some (.cells c e' (0,0)))(he:e≠e'):rowOf v≠some b:=fun hh=>by
 rcases r.2 with ⟨rfl,_⟩ | ⟨g,cap,cur,rfl,h1,_⟩
 ·simp -implicitDefEqProofs[rowOf] at hh
 ·simp -implicitDefEqProofs only[rowOf,Option.some.injEq] at hh
  subst hh
  rw[hb] at h1
  cases h1; exact he rfl
def swL (v5 v7 v10 l b:Nat)(av:Value):List Nat:=v5::v7::v10::l::b::(rowOf av).toList
structure SwJ (T:Tags)(h hB:Heap)(b0:Book)(now:Int)(v5 v7 v10 l b i:Nat)(h':Heap)(k v av:Value):Prop where
 kb:∀ q o,hB q=some o→q≠v7→q≠v10→h' q=some o
 c10:h' v10=some (.cells #[k,v] qaZ (0,0))
 bk:BookR (fz (tls T (swL v5 v7 v10 l b av)) h') k v (sweepTo b0 now i).1
 c7:h' v7=some (.cells #[av] qtZ (0,0))
 rw:Rf 7 qJZ h h' av (sweepTo b0 now i).2.length ((sweepTo b0 now i).2.flatMap chgC)
 nl:rowOf av≠some l
 nb:rowOf av≠some b
 nB:∀ q,rowOf av=some q→hB q=none
def SwI (T:Tags)(h hB:Heap)(b0:Book)(now:Int)(v5 v7 v10 l b i:Nat)(h':Heap):Prop:=∃ k v av,SwJ T h hB b0 now v5 v7 v10 l b i h' k v av
theorem SwJ.keep {T:Tags}{h hB:Heap}{b0:Book}{now:Int}{v5 v7 v10 l b i:Nat}{h' h'':Heap}{k v av:Value}(x:SwJ T h hB b0 now v5 v7 v10 l b i h' k v av)(hl:hB l=none)(e:Ext h hB)(b7:∃ o,hB v7=some o)(b10:∃ o,hB v10=some o)(kp:Keep (some l) h' h'') :
  SwJ T h hB b0 now v5 v7 v10 l b i h'' k v av:=by
 have ne:∀ q,(∃ o,hB q=some o)→some q≠some l:=fun q ⟨o,ho⟩ hh=>by cases hh; rw[hl] at ho; cases ho
 exact⟨fun q o ho n7 n10=>kp q o (x.kb q o ho n7 n10) (ne q ⟨o,ho⟩),kp _ _ x.c10 (ne _ b10),x.bk.ext (fz_keep (by rw[tls_in (by simp[swL])]; simp) kp),kp _ _ x.c7 (ne _ b7),
  x.rw.keep kp (fresh_of e hl) x.nl,x.nl,x.nb,x.nB⟩
structure SwC (T:Tags)(h hB:Heap)(b0:Book)(Lv:List (List Value))(now:Int)(v1 v3 v5 v7 v10 l b i:Nat)(s2:Env)(h':Heap)(xb:Nat):Prop where
 j:SwI T h hB b0 now v5 v7 v10 l b i h'
 s3:s2 3=ptr v3
 s6:s2 6=ptr v7
 s7:s2 7=ptr v10
 s8:s2 8 = .string (b0.getD i (⟨#[]⟩,ent0)).1
 s9:s2 9=ptr xb
 cx:h' xb=some (.cells (Lv.getD i []).toArray qjZ (0,0))
 nl:xb≠l
def SwE (T:Tags)(h hB:Heap)(b0:Book)(Lv:List (List Value))(now:Int)(v1 v3 v5 v7 v10 l b i:Nat)(s2:Env)(h':Heap):Prop:=∃ xb,SwC T h hB b0 Lv now v1 v3 v5 v7 v10 l b i s2 h' xb
end Go.Proofs.YtmbningljbcpkaaGreat
namespace Go.Proofs.YtmbningljbcpkaaGreat
open Go Go.Den Go.MapKept
set_option linter.unusedSimpArgs false
set_option linter.unusedVariables false
set_option maxRecDepth 20000
set_option maxHeartbeats 2000000 in
theorem sweepBody {T:Tags}{h hB:Heap}(w:Wf T h){b0:Book}(bw:BkW b0)(hl:b0.length<100000)(hsz:∀ x∈b0,x.1.size≤maxLen)(hss:∀ x∈b0,x.2.ss.length<900000){Lv:List (List Value)}{now:Int}{v1 v3 v5 v7 v10:Nat}{F:Heap}(eF:∀ q o,F q=some o→hB q=some o∧q≠v7∧q≠v10)(el:El 4 EntR F Lv (b0.map (·.2)))
  (eB:Ext h hB) (c3:hB v3=some (.cells #[.int .u64 now] qaoZ (0,0))) (n37:v3≠v7) (n310:v3≠v10) (b5:∃ o,hB v5=some o) (n57:v5≠v7) (n510:v5≠v10) (hv7:h v7=none) (hv10:h v10=none) (n710:v7≠v10)
  {i:Nat} (hi:i<b0.length) {l b:Nat} (hlB:hB l=none) (hbB:hB b=none) (b7:∃ o,hB v7=some o) (b10:∃ o,hB v10=some o) {s2:Env} {h3:Heap} (hl3:∃ o,h3 l=some o) (hb3:∃ o,h3 b=some o) {xb:Nat} (C:SwC T h hB b0 Lv now v1 v3 v5 v7 v10 l b i s2 h3 xb) :
  den P gd (rfB P qboZ 0) [] s2 h3 (fun e _ _ h4=>h4 l=h3 l∧h4 b=h3 b∧match e with
   | .normal=>SwI T h hB b0 now v5 v7 v10 l b (i+1) h4
   | .ret=>(fun _ _ _ _=>False:Nat→Nat→Exit→Heap→Prop) l b .ret h4
   | .exit id=>(fun _ _ _ _=>False:Nat→Nat→Exit→Heap→Prop) l b (.exit id) h4
   | _=>False):=by
 rw[qudZ]
 unfold qqvZ
 obtain⟨⟨k,v,av,J⟩,s3,s6,s7,s8,s9,cx,nxl⟩:=C
 have ne:∀ q,(∃ o,hB q=some o)→∀ r,hB r=none→q≠r:=fun q ⟨o,ho⟩ r hr hh=>by subst hh; rw[hr] at ho; cases ho
 obtain⟨x,hx⟩:∃ x,b0.getD i (⟨#[]⟩,ent0)=x:=⟨_,rfl⟩
 have hxi:b0[i]=x:=by rw[← hx,List.getD_eq_getElem?_getD,List.getElem?_eq_getElem hi]; rfl
 have hxm:x∈b0:=hxi▸List.getElem_mem hi
 have hLi:i<Lv.length:=by rw[el.len]; simpa using hi
 have hLv:Lv.getD i []=Lv[i]:=by rw[List.getD_eq_getElem?_getD,List.getElem?_eq_getElem hLi]; rfl
 obtain⟨sv,hc,hsv,hsn⟩:=el.el i hLi (by simpa using hi)
 simp -implicitDefEqProofs only[List.getElem_map,hxi] at hc hsv
 rw[hLv,hc] at cx
 rw[hx] at s8
 have eF3:Ext F h3:=fun q o e=>by obtain⟨q1,q2,q3⟩:=eF q o e; exact J.kb q o q1 q2 q3
 have c33:h3 v3=_:=J.kb _ _ c3 n37 n310
 have cx':=cx
 simp -implicitDefEqProofs only[presC] at cx'
 have c10:=J.c10
 simp -implicitDefEqProofs[s7,s9,s3,ld_at c10,cel_of c10,stm_at c10,ld_at cx',cel_of cx',stm_at cx',ld_at c33,cel_of c33,stm_at c33,stm_upd,ld_same,cel_same,over]
 refine purge_ok x.2.ss now (hsv.ext (R:=SessR) (@SessR.ext) eF3) hsn (by have:=hss x hxm; omega) fun h4 pv r4=>?_
 have c10:=r4.ex _ _ c10
 have c33:=r4.ex _ _ c33
 simp -implicitDefEqProofs[s8,ld_at c10,cel_of c10,stm_at c10,ld_at c33,cel_of c33,stm_at c33,stm_upd,ld_same,cel_same,over]
 have hin:∀ q∈swL v5 v7 v10 l b av,∃ o,h3 q=some o:=fun q hq=>by
  simp -implicitDefEqProofs only[swL,List.mem_cons,Option.mem_toList] at hq
  rcases hq with rfl | rfl | rfl | rfl | rfl | hq
  ·obtain⟨o,ho⟩:=b5; exact⟨o,J.kb _ _ ho n57 n510⟩
  ·exact⟨_,J.c7⟩
  ·exact⟨_,J.c10⟩
  ·exact hl3
  ·exact hb3
  ·exact J.rw.row.lt q hq
 have w3:Wf (tls T (swL v5 v7 v10 l b av)) h3:=wf_tls (w.ext J.rw.ex) hin
 obtain⟨bu1,bu2⟩:=bw.us x hxm
 have hpl:(purgeS x.2.ss now).length≤x.2.ss.length:=List.length_filter_le _ _
 have hsl:=sweep_len bw (now:=now) (n:=i) (by omega)
 have hcl:=sweep_chg b0 now i
 have hsc:=sweep_chg b0 now (i+1)
 have hst:sweepTo b0 now (i+1)=((settleB (sweepTo b0 now i).1 x.1 (purgeS x.2.ss now) now).1,(sweepTo b0 now i).2++(settleB (sweepTo b0 now i).1 x.1 (purgeS x.2.ss now) now).2):=by simp only[sweepTo,hx]
 refine settle_ok (sweepTo b0 now i).1 (bw.sweepTo now i (by omega)) x.1 (hsz x hxm) (purgeS x.2.ss now) now (w3.ext r4.ex) (J.bk.ext (fz_of_ext r4.ex)) (rf_sl r4 w3) r4.row.sn (by omega) (by have:=hss x hxm; omega) fun h5 k' v' cv e5 hb5 hc5=>?_
 have c7:=e5 _ _ (r4.ex _ _ J.c7)
 have c10:=e5 _ _ c10
 have p1:=hb5.1.one
 have p2:=hb5.2.1.one
 have ra:=((J.rw.ext r4.ex).ext e5)
 have oav:=ra.row.one
 simp -implicitDefEqProofs[s7,s6,ld_at c10,cel_of c10,stm_at c10,ld_at c7,cel_of c7,stm_at c7,stm_skip n710,stm_skip (Ne.symm n710),ld_skip n710,ld_skip (Ne.symm n710),cel_skip n710,cel_skip (Ne.symm n710),stm_upd,ld_same,cel_same,over,p1.1,p2.1]
 -- the book lies in its variable
 have eu:∀ q o,h5 q=some o→q≠v10→upd h5 v10 (.cells #[k',v'] qaZ (0,0)) q=some o:=fun q o ho hq=>by rw[upd_ne hq]; exact ho
 have c7u:=eu _ _ c7 n710
 have c10u:=upd_same' h5 v10 (.cells #[k',v'] qaZ (0,0))
 have nr10:rowOf av≠some v10:=row_ty ra.row c10 (by decide)
 have nr7:rowOf av≠some v7:=row_ty ra.row c7 (by decide)
 have ru:=ra.skip (o:=.cells #[k',v'] qaZ (0,0)) hv10 nr10
 have hbu:BookR (fz (tls T (swL v5 v7 v10 l b av)) (upd h5 v10 (.cells #[k',v'] qaZ (0,0)))) k' v' _:=hb5.ext (fz_of fun q hq=>⟨hq,fun o ho=>eu q o ho fun hh=>(tls_nil hq).1 (by simp[swL,hh])⟩)
 have hcu:Sl 7 ChgR (upd h5 v10 (.cells #[k',v'] qaZ (0,0))) cv _:=(hc5.ext (R:=ChgR) (@ChgR.ext) (h':=fz (tls T (swL v5 v7 v10 l b av)) (upd h5 v10 (.cells #[k',v'] qaZ (0,0)))) (fz_of fun q hq=>⟨hq,fun o ho=>eu q o ho fun hh=>(tls_nil hq).1 (by simp[swL,hh])⟩)).ext (R:=ChgR) (@ChgR.ext) (fz_ext _ _)
 have old:∀ q o,h3 q=some o→q≠v10→upd h5 v10 (.cells #[k',v'] qaZ (0,0)) q=some o:=fun q o ho hq=>eu q o (e5 _ _ (r4.ex _ _ ho)) hq
 generalize upd h5 v10 _=h6 at *
 have hlen2:(sweepTo b0 now i).2.length+(settleB (sweepTo b0 now i).1 x.1 (purgeS x.2.ss now) now).2.length≤i+1:=by
  have:=hsc; rw[hst] at this; simpa using this
 refine Rf.app2 unSlChg apChg (by omega) ru (chg_els hcu) (flatC_one _) (by unfold maxLen; omega) (by omega) fun av' h7 r7 kp7 ha=>?_
 have c7':=kp7 _ _ c7u nr7
 have c10':=kp7 _ _ c10u nr10
 have oav':=r7.row.one
 have exi:∀ q,(∃ o,h3 q=some o)→q≠v10→rowOf av≠some q→rowOf av'≠some q:=fun q ⟨o,ho⟩ hq hn hh=>by
  rcases ha with ha | ⟨r,ha,hr⟩
  ·exact hn (by rw[← ha]; exact hh)
  ·rw[ha] at hh; cases hh; rw[old q o ho hq] at hr; cases hr
 have nl':=exi l hl3 (fun hh=>ne v10 b10 l hlB hh.symm) J.nl
 have nb':=exi b hb3 (fun hh=>ne v10 b10 b hbB hh.symm) J.nb
 have n7':rowOf av'≠some v7:=row_ty r7.row c7' (by decide)
 simp -implicitDefEqProofs[s6,ld_at c7',cel_of c7',stm_at c7',stm_upd,ld_same,cel_same,over,oav'.1,oav'.2]
 obtain⟨ol,hol⟩:=hl3
 obtain⟨ob,hob⟩:=hb3
 have l7:l≠v7:=fun hh=>ne v7 b7 l hlB hh.symm
 have l10:l≠v10:=fun hh=>ne v10 b10 l hlB hh.symm
 have bb7:b≠v7:=fun hh=>ne v7 b7 b hbB hh.symm
 have bb10:b≠v10:=fun hh=>ne v10 b10 b hbB hh.symm
 have keep:∀ q o,h3 q=some o→q≠v10→q≠v7→rowOf av≠some q→upd h7 v7 (.cells #[av'] qtZ (0,0)) q=some o:=fun q o ho h10 h7' hn=>by
  rw[upd_ne h7']; exact kp7 q o (old q o ho h10) hn
 refine⟨by rw[hol]; exact keep l ol hol l10 l7 J.nl,by rw[hob]; exact keep b ob hob bb10 bb7 J.nb,k',v',av',⟨fun q o ho q7 q10=>?_,by rw[upd_ne (Ne.symm n710)]; exact c10',?_,upd_same' _ _ _,?_,nl',nb',fun q hq=>?_⟩⟩
 ·exact keep q o (J.kb q o ho q7 q10) q10 q7 (fun hh=>by rw[J.nB q hh] at ho; cases ho)
 ·rw[hst]
  refine hbu.ext (fz_of2 fun q o hq ho=>?_)
  obtain⟨q1,q2⟩:=tls_nil hq
  simp -implicitDefEqProofs only[swL,List.mem_cons,Option.mem_toList,not_or] at q1
  obtain⟨n1,n2,n3,n4,n5,n6⟩:=q1
  have hn:rowOf av≠some q:=n6
  refine⟨?_,by rw[upd_ne n2]; exact kp7 q o ho hn⟩
  rw[tls_out,q2]
  simp -implicitDefEqProofs only[swL,List.mem_cons,Option.mem_toList,not_or]
  refine⟨n1,n2,n3,n4,n5,fun hh=>?_⟩
  rcases ha with ha | ⟨r,ha,hr⟩
  ·exact hn (by rw[← ha]; exact hh)
  ·rw[ha] at hh; cases hh; rw[hr] at ho; cases ho
 ·rw[hst]
  have:=r7.skip (o:=.cells #[av'] qtZ (0,0)) hv7 n7'
  rw[List.length_append,List.flatMap_append]
  exact this
 ·cases hq0:hB q with
  | none=>rfl
  | some o =>
   exfalso
   rcases ha with ha | ⟨r,ha,hr⟩
   ·rw[J.nB q (by rw[← ha]; exact hq)] at hq0; cases hq0
   ·rw[ha] at hq; cases hq
    by_cases h1:q=v7
    ·subst h1; rw[hr] at c7u; cases c7u
    ·by_cases h2:q=v10
     ·subst h2; rw[hr] at c10u; cases c10u
     ·rw[old q o (J.kb q o hq0 h1 h2) h2] at hr; cases hr
end Go.Proofs.YtmbningljbcpkaaGreat
namespace Go.Proofs.YtmbningljbcpkaaGreat
open Go Go.Den Go.MapKept
set_option linter.unusedSimpArgs false
set_option linter.unusedVariables false
set_option maxRecDepth 20000
theorem zcSlChg:zc P qtZ=some #[.slice none 0 0]:=by kernel_rfl
theorem tgSlChg:tagg P qtZ=some none:=by kernel_rfl
variable {K:KTy}
set_option maxHeartbeats 2000000 in
theorem bsweep_ok (b0:Book)(bw:BkW b0)(hl:b0.length<100000)(hsz:∀ x∈b0,x.1.size≤maxLen)(hss:∀ x∈b0,x.2.ss.length<900000)(now:Int){T:Tags}{h:Heap}(w:Wf T h){kw vw:Value}(x:BookR (fz T h) kw vw b0)
  (hk:∀ h' k v cv,Ext h h'→BookR (fz T h') k v (sweepB b0 now).1→Sl 7 ChgR (fz T h') cv (sweepB b0 now).2→K (.tuple #[.agg #[k,v],cv]) h'):callM P qboZ #[.agg #[kw,vw],.int .u64 now] h K:=by
 apply quvZ
 unfold qpXZ
 rw[zcMap,zcSlChg]
 refine nw_agg fun v1 h1 n1 e1 c1=>?_
 simp -implicitDefEqProofs only[nwM_s,cells_i]
 intro v3 n3
 have e3:Ext h1 (upd h1 v3 _):=Ext.upd n3 (.cells #[.int .u64 now] qaoZ (0,0))
 have c3:=upd_same' h1 v3 (.cells #[.int .u64 now] qaoZ (0,0))
 generalize upd h1 v3 _=h3 at *
 intro v5 n5
 have e5:Ext h3 (upd h3 v5 _):=Ext.upd n5 (.cells #[.slice none 0 0,.slice none 0 0] qaZ (0,0))
 have c5:=upd_same' h3 v5 (.cells #[.slice none 0 0,.slice none 0 0] qaZ (0,0))
 generalize upd h3 v5 _=h5 at *
 intro v7 n7
 have e7:Ext h5 (upd h5 v7 _):=Ext.upd n7 (.cells #[.slice none 0 0] qtZ (0,0))
 have c7:=upd_same' h5 v7 (.cells #[.slice none 0 0] qtZ (0,0))
 generalize upd h5 v7 _=h7 at *
 have c1:=e7 _ _ (e5 _ _ (e3 _ _ c1))
 have c3:=e7 _ _ (e5 _ _ c3)
 have n37:v3≠v7:=ne_fresh (e5 _ _ ‹_›) n7
 have n57:v5≠v7:=ne_fresh c5 n7
 have c5:=e7 _ _ c5
 have e0:=((e1.trans e3).trans e5).trans e7
 have hv7:h v7=none:=fresh_of ((e1.trans e3).trans e5) n7
 have hv5:h v5=none:=fresh_of (e1.trans e3) n5
 have o1:=x.1.one
 have o2:=x.2.1.one
 have hag:ldV (some (some 2)) (ptr v1) h7=some (.agg #[kw,vw]):=by simp[ld_at c1]
 simp -implicitDefEqProofs only[hag,ov_s]
 intro v10 n10
 simp -implicitDefEqProofs[stm_upd,ld_same,cel_same,over,o1.1,o2.1]
 have e10:Ext h7 (upd h7 v10 _):=Ext.upd n10 (.cells #[kw,vw] qaZ (0,0))
 have c10:=upd_same' h7 v10 (.cells #[kw,vw] qaZ (0,0))
 generalize upd h7 v10 _=h10 at *
 have n710:v7≠v10:=ne_fresh c7 n10
 have n310:v3≠v10:=ne_fresh c3 n10
 have n510:v5≠v10:=ne_fresh c5 n10
 have c1:=e10 _ _ c1
 have c3:=e10 _ _ c3
 have c5:=e10 _ _ c5
 have c7:=e10 _ _ c7
 have hv10:h v10=none:=fresh_of e0 n10
 have e0:=e0.trans e10
 rw[seqM_eq]
 unfold qrtZ
 have hag:ldV (some (some 2)) (ptr v1) h10=some (.agg #[kw,vw]):=by simp[ld_at c1]
 simp -implicitDefEqProofs only[hag,ov_s]
 refine all_ok b0 ((fz_ext T h).trans e0) x fun pA hB nA eA cA=>?_
 have nA7:v7≠pA:=ne_fresh c7 nA
 have nA10:v10≠pA:=ne_fresh c10 nA
 have nA5:v5≠pA:=ne_fresh c5 nA
 have c3:=eA _ _ c3
 have c5:=eA _ _ c5
 have c7:=eA _ _ c7
 have c10:=eA _ _ c10
 have e0:=e0.trans eA
 -- what nobody changes
 obtain⟨Lv,l1,l2⟩:=x.2.1.els EntR.one
 simp -implicitDefEqProofs only[List.length_map] at l1
 have wB:=w.ext e0
 have hall:∀ q∈[v5,v7,v10],h q=none:=fun q hq=>by
  simp -implicitDefEqProofs only[List.mem_cons,List.not_mem_nil,or_false] at hq
  rcases hq with rfl | rfl | rfl
  ·exact hv5
  ·exact hv7
  ·exact hv10
 have tA:T pA=[]:=w pA (fresh_of ‹Ext h h10› nA)
 have F1:Ext (fz T h) (fz (tls T [v5,v7,v10]) hB):=fz_tls hall e0
 have FA:fz (tls T [v5,v7,v10]) hB pA=some (.cells #[kw,vw] qaZ (0,0)):=by
  refine fz_at cA ?_
  rw[tls_out (by simp; exact⟨Ne.symm nA5,Ne.symm nA7,Ne.symm nA10⟩)]
  exact tA
 unfold qrsZ
 refine rf_go good mixed rfl (by kernel_rfl) (all_it b0 (hA:=fz (tls T [v5,v7,v10]) hB) (p:=pA) (kw:=kw) (vw:=vw) (Lv:=Lv) FA (x.ext F1) (l1.ext F1) l2.size (by simpa using l2.len))
  (fun l b i h'=>SwI T h hB b0 now v5 v7 v10 l b i h') (fun _ _ _ _=>False) (fun l b i s2 h'=>SwE T h hB b0 Lv now v1 v3 v5 v7 v10 l b i s2 h') ?_ ?_ ?_ (fun _ _ _ _ _ _ _ h _=>h) ?_ ?_ ?_ ?_ ?_ (fun _ _ _ _ _ _ _ h=>h.elim) (fun _ _ _ _ _ _ _ _ h=>h.elim)
 ·intro l b hl hb
  refine⟨kw,vw,.slice none 0 0,fun q o ho _ _=>ho,c10,?_,c7,Rf.nil e0,by simp[rowOf],by simp[rowOf],fun q hq=>by simp[rowOf] at hq⟩
  refine x.ext (fz_tls (fun q hq=>?_) e0)
  simp -implicitDefEqProofs only[swL,rowOf,Option.toList,List.mem_cons,List.not_mem_nil,or_false] at hq
  rcases hq with rfl | rfl | rfl | rfl | rfl
  ·exact hv5
  ·exact hv7
  ·exact hv10
  ·exact fresh_of e0 hl
  ·exact fresh_of e0 hb
 ·rintro l b i h' ⟨k,v,av,J⟩ q o hq
  have hq':hB q=some o:=fz_ext _ _ _ _ hq
  have hn:q ∉ [v5,v7,v10]:=fun hm=>by
   unfold fz at hq; rw[tls_in hm] at hq; simp at hq
  simp -implicitDefEqProofs only[List.mem_cons,List.not_mem_nil,or_false,not_or] at hn
  exact J.kb q o hq' hn.2.1 hn.2.2
 ·rintro l b hl hb i h' h'' ⟨k,v,av,J⟩ kp
  exact⟨k,v,av,J.keep hl e0 ⟨_,c7⟩ ⟨_,c10⟩ kp⟩
 ·rintro l b i s2 ha hb' hl hb ⟨xb,C⟩ kp
  obtain⟨⟨k,v,av,J⟩,q3,q6,q7,q8,q9,qx,qn⟩:=C
  exact⟨xb,⟨k,v,av,J.keep hl e0 ⟨_,c7⟩ ⟨_,c10⟩ kp⟩,q3,q6,q7,q8,q9,kp _ _ qx (by simpa using qn),qn⟩
 ·intro i hi; simp[allX]
 ·rintro i hi l b h2 hl hb ⟨ol,hol⟩ ⟨ob,hob⟩ ⟨k,v,av,J⟩
  rw[qucZ]
  unfold qquZ
  rw[zcEnt]
  have hi':i<b0.length:=by simpa [allX] using hi
  have hLi:i<Lv.length:=by rw[l2.len]; simpa using hi'
  have hxi:(allX b0 Lv)[i]=#[.string (b0.getD i (⟨#[]⟩,ent0)).1,.agg (Lv.getD i []).toArray]:=by simp[allX]
  have hLv:Lv.getD i []=Lv[i]:=by rw[List.getD_eq_getElem?_getD,List.getElem?_eq_getElem hLi]; rfl
  have hsz4:(Lv.getD i []).length=4:=by rw[hLv]; exact l2.size _ (List.getElem_mem _)
  have hone:∀ u∈Lv.getD i [],u.oneCell'=true:=by rw[hLv]; exact l2.one _ (List.getElem_mem hLi)
  rw[hxi]
  obtain⟨c0,hc0⟩:∃ c,Lv.getD i []=c:=⟨_,rfl⟩
  obtain⟨k0,hk0⟩:∃ k,(b0.getD i (⟨#[]⟩,ent0)).1=k:=⟨_,rfl⟩
  rw[hc0,hk0]
  rw[hc0] at hsz4 hone
  simp -implicitDefEqProofs
  refine nw_st rfl (by simpa using hsz4) (by simpa using hone) fun xb h4 n4 e4 c4=>?_
  have nx:xb≠l:=fun hh=>by subst hh; rw[hol] at n4; cases n4
  refine⟨⟨xb,⟨k,v,av,?_⟩,?_,?_,?_,?_,?_,?_,nx⟩,by rw[hol,e4 _ _ hol],by rw[hob,e4 _ _ hob]⟩
  ·exact⟨fun q o ho n7 n10=>e4 _ _ (J.kb q o ho n7 n10),e4 _ _ J.c10,J.bk.ext (fz_of_ext e4),e4 _ _ J.c7,J.rw.ext e4,J.nl,J.nb,J.nB⟩
  ·simp -implicitDefEqProofs
  ·simp -implicitDefEqProofs
  ·simp -implicitDefEqProofs
  ·rw[hk0]; simp
  ·simp -implicitDefEqProofs
  ·rw[c4,hc0,cells_agg]
 ·rintro i hi l b s2 h3 hl9 hb hl3 hb3 ⟨xb,C⟩
  have hi':i<b0.length:=by simpa [allX] using hi
  refine sweepBody w bw hl hsz hss (F:=fz (tls T [v5,v7,v10]) hB) ?_ (l2.ext (@EntR.ext) F1) e0 c3 n37 n310 ⟨_,c5⟩ n57 n510 hv7 hv10 n710 hi' hl9 hb ⟨_,c7⟩ ⟨_,c10⟩ hl3 hb3 C
  intro q o hq
  have hn:q ∉ [v5,v7,v10]:=fun hm=>by
   unfold fz at hq; rw[tls_in hm] at hq; simp at hq
  simp -implicitDefEqProofs only[List.mem_cons,List.not_mem_nil,or_false,not_or] at hn
  exact⟨fz_ext _ _ _ _ hq,hn.2.1,hn.2.2⟩
 ·intro l b h' hl9 hlb hb hd hJ
  obtain⟨k,v,av,J⟩:=hJ
  have hlen:(allX b0 Lv).length=b0.length:=by simp[allX]
  rw[hlen] at J
  have c5':=J.kb _ _ c5 n57 n510
  have c7':=J.c7
  have c10':=J.c10
  have p1:=J.bk.1.one
  have p2:=J.bk.2.1.one
  have oav:=J.rw.row.one
  have nb5:v5≠b:=fun hh=>by subst hh; rw[c5] at hb; cases hb
  have nr5:rowOf av≠some v5:=row_ty J.rw.row c5' (by decide)
  have hbh:h b=none:=fresh_of e0 hb
  simp -implicitDefEqProofs only[blkM_n,thenM_n]
  unfold qruZ
  simp -implicitDefEqProofs[ld_at c10',cel_of c10',stm_at c10',ld_at c7',cel_of c7',stm_at c7',ld_at c5',cel_of c5',stm_at c5',stm_skip n57,stm_skip (Ne.symm n57),ld_skip n57,ld_skip (Ne.symm n57),cel_skip n57,cel_skip (Ne.symm n57),stm_skip n510,stm_skip (Ne.symm n510),ld_skip n510,ld_skip (Ne.symm n510),cel_skip n510,cel_skip (Ne.symm n510),stm_upd,ld_same,cel_same,over,p1.1,p2.1,hd,tgMap,tgSlChg,upd_ne (Ne.symm nb5),ld_skip nb5]
  refine hk _ k v av (ext_upd hbh (ext_upd hv5 J.rw.ex)) (J.bk.ext ?_) ?_
  ·refine fz_untls fun q o hq ho=>?_
   simp -implicitDefEqProofs only[swL,List.mem_cons,Option.mem_toList,not_or] at hq
   rw[upd_ne hq.2.2.2.2.1,upd_ne hq.1]; exact ho
  ·have r:=(J.rw.skip (o:=.cells #[k,v] qaZ (0,0)) hv5 nr5).skip (o:=.deferred none) hbh J.nb
   have e7:(sweepB b0 now).2.flatMap chgC=((sweepB b0 now).2.map chgC).flatten:=List.flatMap_def
   have r:Rf 7 qJZ h _ av (sweepB b0 now).2.length ((sweepB b0 now).2.flatMap chgC):=r
   rw[e7] at r
   exact r.sl w (by simp) (El.enc (by simp[chgC,presC]) (fun y=>chgC_one y) (fun _ _=>rfl))
end Go.Proofs.YtmbningljbcpkaaGreat
namespace Go.Den
open Go
set_option linter.unusedVariables false
def endV (v:Int):Int:=if wrt v then v+1 else v
def Ring.put (r:Ring)(x:Evt):Ring:=if r.room≤r.l.length then { r with lost:=true } else { r with l:=r.l++[x] }
def qset (q:Nat→Ring)(i:Nat)(r:Ring):Nat→Ring:=fun k=>if k=i then r else q k
def clientB (who:Int):Bool:=decide (0≤who∧who<8)
def mbit (m who:Int):Bool:=m / 2 ^ who.toNat % 2 == 1
def Feed.watching (f:Feed)(who:Int)(u:ByteArray):Bool:=clientB who && mbit (valL 0 f.ws u) who
def Feed.tell1 (f:Feed)(c:Chg)(seq:Int):Nat→Feed
 | 0=>f
 | n+1=>let g:=f.tell1 c seq n; if f.watching n c.user then { g with qs:=qset g.qs n ((g.qs n).put ⟨c.user,c.old,c.new,seq⟩) } else g
def Feed.tell (f:Feed)(l:List Chg)(seq:Int):Feed:=l.foldl (fun f c=>f.tell1 c seq 8) f
theorem tell1_ws (f:Feed)(c:Chg)(seq:Int):∀ n,(f.tell1 c seq n).ws=f.ws
 | 0=>rfl
 | n+1=>by
  have ih:=tell1_ws f c seq n
  simp only[Feed.tell1]
  split<;>exact ih
def RiG (r:Ring):Prop:=0≤r.room∧r.room≤16∧r.l.length≤16
structure FdG (f:Feed):Prop where
 so:SrtK (keysL f.ws)
 len:f.ws.length<1000000
 ms:∀ x∈f.ws,0≤x.2∧x.2<4294967296
 qs:∀ j,j<8→RiG (f.qs j)
theorem RiG.put {r:Ring}(g:RiG r)(x:Evt):RiG (r.put x):=by
 obtain⟨h1,h2,h3⟩:=g
 unfold Ring.put
 split
 ·exact⟨h1,h2,h3⟩
 ·refine⟨h1,h2,?_⟩
  simp only[List.length_append,List.length_cons,List.length_nil]; omega
theorem FdG.tell1 {f:Feed}(g:FdG f)(c:Chg)(seq:Int):∀ n,FdG (f.tell1 c seq n)
 | 0=>g
 | n+1=>by
  have ih:=FdG.tell1 g c seq n
  simp only[Feed.tell1]
  split
  ·refine⟨ih.so,ih.len,ih.ms,fun j hj=>?_⟩
   simp only[qset]
   split
   ·rename_i h; subst h; exact (ih.qs _ hj).put _
   ·exact ih.qs j hj
  ·exact ih
theorem FdG.tell {f:Feed}(g:FdG f)(seq:Int):∀ l:List Chg,FdG (f.tell l seq):=by
 intro l
 unfold Feed.tell
 induction l generalizing f with
 | nil=>exact g
 | cons c l ih=>exact ih (g.tell1 c seq 8)
end Go.Den
namespace Go.Den
open Go
theorem bin_shr32 (t:Nat)(c:Bool){m n:Int}(h0:0≤n)(h1:n<8)(hm:0≤m):binV .shr t c (.int .u32 m) (.int .i64 n)=some (.int .u32 (m / 2 ^ n.toNat)):=by
 have:m.fdiv (2 ^ n.toNat)=m / 2 ^ n.toNat:=Int.fdiv_eq_ediv_of_nonneg _ (Int.pow_nonneg (by omega))
 simp[binV,intV,IntKind.bits,this]
 exact⟨h0,by rw[Nat.min_eq_left (by omega),this]⟩
theorem wrapU32_id {n:Int}(h0:0≤n)(h1:n<4294967296):IntKind.u32.wrap n=n:=by
 simp only[IntKind.wrap,IntKind.bits,IntKind.signed]
 simp
 omega
theorem bin_and32 (t:Nat)(c:Bool){b:Int}(hb:0≤b)(h2:b<4294967296):binV .and t c (.int .u32 b) (.int .u32 1)=some (.int .u32 (b % 2)):=by
 have h:binV .and t c (.int .u32 b) (.int .u32 1)=some (.int .u32 (IntKind.u32.wrap (BitVec.ofInt 32 b &&& BitVec.ofInt 32 1).toNat)):=rfl
 obtain⟨n,rfl⟩:∃ n:Nat,b=n:=⟨b.toNat,by omega⟩
 have e:(BitVec.ofInt 32 (n:Int) &&& BitVec.ofInt 32 1).toNat=n % 2:=by
  rw[BitVec.toNat_and]
  have:(BitVec.ofInt 32 (n:Int)).toNat=n:=by simp; omega
  rw[this]
  have:(BitVec.ofInt 32 1).toNat=1:=by rfl
  rw[this,Nat.and_one_is_mod]
 rw[h,e,wrapU32_id (by omega) (by omega)]
 congr 2
theorem valL_rng {b:List (ByteArray × Int)}{u:ByteArray}(h:∀ x∈b,0≤x.2∧x.2<4294967296):0≤valL 0 b u∧valL 0 b u<4294967296:=by
 induction b with
 | nil=>simp[valL]
 | cons x b ih =>
  obtain⟨k,e⟩:=x
  simp only[valL]
  split
  ·exact h (k,e) (by simp)
  ·exact ih fun x hx=>h x (by simp[hx])
end Go.Den
namespace Go.Proofs.YtmbningljbcpkaaGreat
open Go Go.Den Go.MapKept
set_option linter.unusedSimpArgs false
set_option linter.unusedVariables false
set_option maxRecDepth 20000
variable {K:KTy}
theorem end_ok (v b:Int)(hv:U64 v)(hw:wrt v=true→v<18446744073709551615){h:Heap}(hk:∀ h',Ext h h'→K (.agg (cellC (endV v) b).toArray) h'):callM P qltZ #[.agg (cellC v b).toArray] h K:=by
 apply qubZ
 unfold qncZ
 refine nw_agg fun v1 h1 n1 e1 c1=>?_
 rw[zcCell]
 refine nw_intro fun v3 h2 n3 e3 c3=>?_
 have hne:=ne_fresh c1 n3
 have c1:=e3 _ _ c1
 rw[seqM_eq]
 unfold qpCZ
 simp -implicitDefEqProofs only[ld_box c1 (n:=2) rfl,ov_s]
 refine writing_ok v b hv fun h3 e4=>?_
 have c1:=e4 _ _ c1
 have c3:=e4 _ _ c3
 have e0:=(e1.trans e3).trans e4
 have n3:=fresh_of e1 n3
 unfold qpBZ
 simp -implicitDefEqProofs only[cellC] at c1
 cases hb:wrt v with
 | true =>
  have hw:=hw hb
  have:IntKind.u64.wrap (v+1)=v+1:=wrapU_id (by have:=hv.1; omega) (by omega)
  unfold qpAZ
  simp -implicitDefEqProofs[ld_at c1,cel_of c1,stm_at c1,ld_at c3,cel_of c3,stm_at c3,stm_skip hne,stm_skip (Ne.symm hne),ld_skip hne,ld_skip (Ne.symm hne),cel_skip hne,cel_skip (Ne.symm hne),stm_upd,ld_same,cel_same,over,this,tgCell]
  exact kv (hk _ (ext_upd n1 (ext_upd n3 e0))) (by simp[cellC,endV,hb])
 | false =>
  simp -implicitDefEqProofs[ld_at c1,cel_of c1,stm_at c1,ld_at c3,cel_of c3,stm_at c3,stm_upd,ld_same,cel_same,over,tgCell]
  exact kv (hk _ (ext_upd n3 e0)) (by simp[cellC,endV,hb])
theorem bsEv:bsI P qfZ=some (qyZ,8,#[.string ⟨#[]⟩,.int .i64 0,.int .i64 0,.int .i64 0,.int .i64 0,.int .i64 0,.int .i64 0,.int .u64 0]):=by kernel_rfl
theorem unSlEv:P.underlying qfZ=some (.slice qyZ):=by kernel_rfl
theorem apEv:apC P qyZ=some (8,72,8):=by kernel_rfl
theorem evC_one (e:Evt):∀ u∈evC e,u.oneCell'=true:=fun u hu=>EvR.one (h:=fun _=>none) _ e rfl u hu
theorem put_ok (x:Evt){T:Tags}{h:Heap}{g:Tag}{p:Nat}{r:Ring}(w:Wf T h)(gg:Gd g)(xr:RingR T h g p r)(rg:RiG r)
  (hk:∀ T' h' b,Only (pre g) T h T' h'→RingR T' h' g p (r.put x)→K (.bool b) h'):callM P qdHZ #[ptr p,.agg (evC x).toArray] h K:=by
 apply qpGZ
 unfold qecZ
 refine nw_agg fun v1 h1 n1 e1 c1=>?_
 have o1:Only non T h T h1:=Only.of_ext w e1
 obtain⟨lv,cp,tp,rl⟩:=xr.kp o1.k (Off.non _)
 have cp0:=cp
 simp -implicitDefEqProofs only[ringC] at cp
 have hlen:=rl.len
 have hone:=rl.one
 simp -implicitDefEqProofs[ld_at cp,cel_of cp,stm_at cp,stm_upd,ld_same,cel_same,over,hlen]
 have od:∀ o',Only (pre g) T h T (upd h1 p o'):=fun o'=>(o1.mono non_up).st cp0 (tp▸pre_app _ _)
 refine⟨fun hc=>?_,fun hc=>?_⟩
 ·have e:r.put x={ r with lost:=true }:=by simp[Ring.put,hc]
  rw[e] at hk
  refine hk T _ false (od _) ⟨lv,by rw[upd_same']; rfl,tp,rl.kp (Only.upd (U:=fun t=>t=g++[0]) o1.wf cp0 tp).k (ne_tag (by simp))⟩
 ·have hc':¬ r.room≤(r.l.length:Int):=by omega
  have e:r.put x={ r with l:=r.l++[x] }:=by simp[Ring.put,hc']
  rw[e] at hk
  unfold qgQZ
  have hld:ldV (some (some 8)) (ptr v1) h1=some (.agg (evC x).toArray):=by simp[ld_at c1,evC,presC]
  simp -implicitDefEqProofs[ld_at cp,cel_of cp,stm_at cp,stm_upd,ld_same,cel_same,over,hld]
  refine bs_one bsEv (by simp[evC,presC]) (by omega) fun b h2 n2 e2 c2=>?_
  have o2:Only non T h1 T h2:=Only.of_ext o1.wf e2
  have cp2:=e2 _ _ cp
  refine⟨by simp[ld_at cp2,cel_of cp2,stm_at cp2,stm_upd,ld_same,cel_same,over],?_⟩
  refine Rw.app1 (m:=1) (news:=_) unSlEv apEv (by omega) o2.wf (rl.kp o2.k (not_non _)) (cels_one c2 (by simp[evC,presC])) (by simpa using evC_one x) (by unfold maxLen; have:=rg.2.2; omega) (by have:=rg.2.2; omega) fun lv' T3 h3 o3 r3=>?_
  have b3:=o3.k.at (e2 _ _ cp0) tp (ne_tag (by simp))
  have c3:=b3.1
  simp -implicitDefEqProofs only[ringC] at c3
  have ho:=r3.one
  simp -implicitDefEqProofs[ld_at c3,cel_of c3,stm_at c3,stm_upd,ld_same,cel_same,over,ho.1,ho.2]
  have oe:∀ o',Only (pre g) T h T3 (upd h3 p o'):=fun o'=>(((o1.mono non_up).up o2 non_up).up o3 fun t=>eq_pre).st b3.1 (b3.2▸pre_app _ _)
  refine hk T3 _ true (oe _) ⟨lv',by rw[upd_same']; simp[ringC],b3.2,?_⟩
  have:=r3.kp (Only.upd (U:=fun t=>t=g++[0]) (o':=.cells #[.int .i64 r.room,lv',.bool r.lost] qNZ (0,0)) o3.wf b3.1 b3.2).k (ne_tag (by simp))
  simpa using this
theorem client_ok (who:Int){h:Heap}(hk:K (.bool (clientB who)) h):callM P qoBZ #[.int .i64 who] h K:=by
 apply quqZ
 unfold qpvZ
 simp +contextual -implicitDefEqProofs
 exact kb hk (by unfold clientB; rw[Bool.decide_and])
theorem watching_ok (who:Int)(u:ByteArray){T:Tags}{h:Heap}{g:Tag}{p:Nat}{f:Feed}(x:FeedR T h g p f)(fg:FdG f)
  (hk:∀ h',Ext h h'→K (.bool (f.watching who u)) h'):callM P qfrZ #[ptr p,.int .i64 who,.string u] h K:=by
 apply qrQZ
 unfold qhuZ
 obtain⟨kw,vw,q,cp,tp,x1,x2,xq,s1,s2⟩:=x
 have hag:ldV (some (some 2)) (ptr p) h=some (.agg #[kw,vw]):=by simp[ld_at cp,feedC,feedG,List.range_succ]
 simp -implicitDefEqProofs[hag]
 refine mget_ok f.ws fg.so u (fz_ext T h) ⟨x1,x2,s1,s2⟩ fg.len fun h1 e1=>?_
 unfold qlbZ
 simp -implicitDefEqProofs only[exV_0,exV_1,ov_s]
 refine client_ok who ?_
 unfold qlaZ
 obtain⟨m0,m1⟩:=valL_rng (u:=u) fg.ms
 cases hc:clientB who with
 | false =>
  simp -implicitDefEqProofs
  exact kb (hk _ e1) (by simp[Feed.watching,hc])
 | true =>
  have hc':0≤who∧who<8:=by simpa [clientB] using hc
  have m2:0≤valL 0 f.ws u / 2 ^ who.toNat:=Int.ediv_nonneg m0 (Int.pow_nonneg (by omega))
  have m3:valL 0 f.ws u / 2 ^ who.toNat<4294967296:=Int.lt_of_le_of_lt (Int.ediv_le_self _ m0) m1
  simp -implicitDefEqProofs[bin_shr32 _ _ hc'.1 hc'.2 m0,bin_and32 _ _ m2 m3]
  exact kb (hk _ e1) (by simp[Feed.watching,hc,mbit])
end Go.Proofs.YtmbningljbcpkaaGreat
namespace Go.Proofs.YtmbningljbcpkaaGreat
open Go Go.Den Go.MapKept
set_option linter.unusedSimpArgs false
set_option linter.unusedVariables false
set_option maxRecDepth 20000
structure FeedX (T:Tags)(h:Heap)(g:Tag)(p:Nat)(f:Feed)(kw vw:Value)(q:Nat→Nat):Prop where
 hp:h p=some (.cells (feedC kw vw fun j=>ptr (q j)).toArray qeiZ (0,0))
 tp:T p=g++[0]
 x1:Sl 1 StrR (fz T h) kw (f.ws.map (·.1))
 x2:Sl 1 MaskR (fz T h) vw (f.ws.map (·.2))
 xq:∀ j,j<8→RingR T h (g++[1,j]) (q j) (f.qs j)
 s1:Sn kw
 s2:Sn vw
theorem FeedX.r {T:Tags}{h:Heap}{g:Tag}{p:Nat}{f:Feed}{kw vw:Value}{q:Nat→Nat}(x:FeedX T h g p f kw vw q):FeedR T h g p f:=⟨kw,vw,q,x.hp,x.tp,x.x1,x.x2,x.xq,x.s1,x.s2⟩
theorem FeedX.kp {U:Tag→Prop}{T T':Tags}{h h':Heap}{g:Tag}{p:Nat}{f:Feed}{kw vw:Value}{q:Nat→Nat}(x:FeedX T h g p f kw vw q)(k:Kp U T h T' h')(o:Off U g)(n:¬ U []):FeedX T' h' g p f kw vw q :=
 ⟨(k.at x.hp x.tp (o.at _)).1,(k.at x.hp x.tp (o.at _)).2,x.x1.ext (@StrR.ext) (k.ext n),x.x2.ext (@MaskR.ext) (k.ext n),fun j hj=>(x.xq j hj).kp k (o.app _),x.s1,x.s2⟩
theorem chg_ld {F:Heap}{v:Value}{l:List Chg}(x:Sl 7 ChgR F v l){i:Nat}(hi:i<l.length){k:IntKind}:∃ b p,iaV (some (none,7)) v (.int k i)=some (.pointer (some ⟨b,p,none⟩))∧∀ h',Ext F h'→cels h' b p 7=some (chgC l[i]):=by
 obtain⟨b,p,c,h1,h2,h3⟩:=x.at (k:=k) (i:=i) (by omega) (by omega)
 refine⟨b,p,h1,fun h' e=>?_⟩
 have hc:c=chgC l[i]:=h3
 subst hc
 exact cels_ext e h2
theorem zcChg:zc P qJZ=some #[.string ⟨#[]⟩,.int .i64 0,.int .i64 0,.int .i64 0,.int .i64 0,.int .i64 0,.int .i64 0]:=by kernel_rfl
theorem bdEv (u:ByteArray)(a b c d e f s:Int):bdV (binf P qyZ) [(0,.string u),(1,.agg #[.int .i64 a,.int .i64 b,.int .i64 c]),(2,.agg #[.int .i64 d,.int .i64 e,.int .i64 f]),(3,.int .u64 s)] =
 some (.agg #[.string u,.int .i64 a,.int .i64 b,.int .i64 c,.int .i64 d,.int .i64 e,.int .i64 f,.int .u64 s]):=by kernel_rfl
theorem xa_q {q:Nat→Value}{n:Nat}(hn:n<8){k:IntKind}:xaV (some (none,8,1)) (.agg ((List.range 8).map q).toArray) (.int k n)=some (q n):=by
 have:(0:Int)≤n∧(n:Int)<8:=by omega
 simp -implicitDefEqProofs[xaV,this,fdV,hn]
def TellO (T:Tags)(h:Heap)(g:Tag)(p:Nat)(f:Feed)(l:List Chg)(seq:Int)(v:Value)(h':Heap):Prop :=
 ∃ (T':Tags) (i:Nat),Only (pre g) T h T' h'∧FeedR T' h' g p (f.tell (l.take i) seq)∧i≤l.length∧v = .int .i64 i
def TellI (T:Tags)(h:Heap)(g:Tag)(p:Nat)(f:Feed)(c:Chg)(seq:Int)(kw vw:Value)(q:Nat→Nat)(cb:Nat)(v:Value)(h':Heap):Prop :=
 ∃ (T':Tags) (n:Nat),Only (pre g) T h T' h'∧FeedX T' h' g p (f.tell1 c seq n) kw vw q∧T' cb=[]∧h' cb=some (.cells (chgC c).toArray qJZ (0,0))∧n≤8∧v = .int .i64 n
theorem tell_succ (f:Feed)(l:List Chg)(seq:Int){i:Nat}(hi:i<l.length):f.tell (l.take (i+1)) seq=(f.tell (l.take i) seq).tell1 l[i] seq 8:=by
 rw[List.take_succ_eq_append_getElem hi]
 simp -implicitDefEqProofs only[Feed.tell,List.foldl_append,List.foldl_cons,List.foldl_nil]
variable {K:KTy}
set_option maxHeartbeats 2000000 in
theorem tell_ok (l : List Chg) (seq : Int) {T : Tags} {h : Heap} {g : Tag} {p : Nat} {f : Feed} (w : Wf T h) (gg : Gd g) (x : FeedR T h g p f) (fg : FdG f) {cv : Value} (cx : Sl 7 ChgR (fz T h) cv l) (hl : l.length < 1000000)
    (hk : ∀ T' h', Only (pre g) T h T' h' → FeedR T' h' g p (f.tell l seq) → K (.tuple #[]) h') : callM P qdMZ #[ptr p, cv, .int .u64 seq] h K := by
  apply qtWZ
  unfold qlBZ
  have hlen := cx.len
  simp -implicitDefEqProofs only [hlen, ov_s]
  refine loop_on [0, 2, 10, 11] (fun s h' => TellO T h g p f l seq (s 12) h') (fun s _ => (l.length - num (s 12)).toNat) ⟨T, 0, Only.refl w, by simpa [Feed.tell] using x, by omega, rfl⟩ ?_
  rintro s h1 hf ⟨T1, i, o1, x1, hi, s12⟩
  have s0 : s 0 = ptr p := by simpa using hf 0 (by simp)
  have s2 : s 2 = .int .u64 seq := by simpa using hf 2 (by simp)
  have s10 : s 10 = cv := by simpa using hf 10 (by simp)
  have s11 : s 11 = .int .i64 l.length := by simpa using hf 11 (by simp)
  unfold qpkZ
  simp -implicitDefEqProofs only [s12, s11, bin_lss, ov_s, cd_b]
  refine ⟨fun hc => ?_, fun hc => ?_⟩
  rotate_left
  · have : i = l.length := by have : ¬ ((i : Int) < l.length) := by simpa using hc
                              omega
    subst this
    rw [List.take_length] at x1
    simp -implicitDefEqProofs
    exact hk T1 h1 o1 x1
  have hlt : i < l.length := by have : ((i : Int) < l.length) := by simpa using hc
                                omega
  have hw : IntKind.i64.wrap ((i : Int) + 1) = (i + 1 : Nat) := by rw [wrap64_id (by omega) (by omega)]; omega
  unfold qpjZ
  rw [seqM_eq]
  unfold qpiZ
  obtain ⟨b, o, i1, i2⟩ := chg_ld cx (k := .i64) hlt
  simp -implicitDefEqProofs only [s10, s12, i1, ov_s, ldV_n (i2 _ ((o1.ext gg.nil).trans (fz_ext _ _))), zcChg]
  obtain ⟨c, hcc⟩ : ∃ c, l[i] = c := ⟨_, rfl⟩
  have hs1 := tell_succ f l seq hlt
  obtain ⟨f1, hf1⟩ : ∃ f1, f.tell (l.take i) seq = f1 := ⟨_, rfl⟩
  have fg1 : FdG f1 := hf1 ▸ fg.tell seq _
  rw [hf1] at x1 hs1
  rw [hcc] at hs1 ⊢
  simp -implicitDefEqProofs only [chgC, presC, List.cons_append, List.nil_append]
  refine nw_st (by simp) (by simp) (by simp) fun cb h2 n2 e2 c2 => ?_
  simp -implicitDefEqProofs only [cells_agg] at c2
  have o2 : Only non T1 h1 T1 h2 := Only.of_ext o1.wf e2
  have tcb : T1 cb = [] := o1.wf cb n2
  obtain ⟨kw, vw, q, y1, y2, y3, y4, y5, y6, y7⟩ := x1.kp o2.k (Off.non _) (not_non _)
  have X : FeedX T1 h2 g p f1 kw vw q := ⟨y1, y2, y3, y4, y5, y6, y7⟩
  have hag : ldV (some (some 8)) (.pointer (some ⟨p, 2, none⟩)) h2 = some (.agg ((List.range 8).map fun j => ptr (q j)).toArray) := by simp [ld_at y1, feedC, feedG, List.range_succ]
  simp -implicitDefEqProofs only [s0, ncV_p, faV_p, ov_s, Nat.zero_add, hag]
  refine loop_on [0, 2, 7, 10, 11, 12, 19] (fun s' h' => TellI T h g p f1 c seq kw vw q cb (s' 20) h') (fun s' _ => (8 - num (s' 20)).toNat) ⟨T1, 0, o1.up o2 non_up, X, tcb, c2, by omega, rfl⟩ ?_
  rintro s' h3 hf' ⟨T3, n, o3, X3, tc3, c3, hn, s20⟩
  have t0 : s' 0 = ptr p := by simpa [s0] using hf' 0 (by simp)
  have t2 : s' 2 = .int .u64 seq := by simpa [s2] using hf' 2 (by simp)
  have t7 : s' 7 = ptr cb := by simpa using hf' 7 (by simp)
  have t10 : s' 10 = cv := by simpa [s10] using hf' 10 (by simp)
  have t11 : s' 11 = .int .i64 l.length := by simpa [s11] using hf' 11 (by simp)
  have t12 : s' 12 = .int .i64 i := by simpa [s12] using hf' 12 (by simp)
  have t19 : s' 19 = .agg ((List.range 8).map fun j => ptr (q j)).toArray := by simpa using hf' 19 (by simp)
  unfold qphZ
  simp -implicitDefEqProofs only [s20, bin_lss, ov_s, cd_b]
  refine ⟨fun hc8 => ?_, fun hc8 => ?_⟩
  rotate_left
  · have : n = 8 := by have : ¬ ((n : Int) < 8) := by simpa using hc8
                       omega
    subst this
    simp -implicitDefEqProofs [t12, hw, t0, t2, t10, t11, s0, s2, s10, s11, s12, -Int.natCast_add]
    exact ⟨⟨T3, i + 1, o3, by rw [hs1]; exact X3.r, by omega, rfl⟩, by omega⟩
  have hn8 : n < 8 := by have : ((n : Int) < 8) := by simpa using hc8
                         omega
  have hw8 : IntKind.i64.wrap ((n : Int) + 1) = (n + 1 : Nat) := by rw [wrap64_id (by omega) (by omega)]; omega
  have fg3 : FdG (f1.tell1 c seq n) := fg1.tell1 c seq n
  have c3' := c3
  simp -implicitDefEqProofs only [chgC, presC, List.cons_append, List.nil_append] at c3
  unfold qpgZ
  rw [seqM_eq]
  unfold qpfZ
  simp -implicitDefEqProofs [t0, t7, t19, s20, xa_q hn8, ld_at c3, cel_of c3, stm_at c3, stm_upd, ld_same, cel_same, over]
  refine watching_ok n c.user X3.r fg3 fun h4 e4 => ?_
  have o4 : Only non T3 h3 T3 h4 := Only.of_ext o3.wf e4
  have X4 := X3.kp o4.k (Off.non _) (not_non _)
  have c4 := e4 _ _ c3
  have hwt : (f1.tell1 c seq n).watching n c.user = f1.watching n c.user := by unfold Feed.watching; rw [tell1_ws]
  rw [hwt]
  unfold qpeZ
  cases hwa : f1.watching n c.user with
  | false =>
    have e : f1.tell1 c seq (n + 1) = f1.tell1 c seq n := by simp [Feed.tell1, hwa]
    simp -implicitDefEqProofs [hw8, t0, t2, t7, t10, t11, t12, t19, s20, s0, s2, s10, s11, s12, -Int.natCast_add]
    exact ⟨⟨T3, n + 1, o3.up o4 non_up, by rw [e]; exact X4, tc3, e4 _ _ c3', by omega, rfl⟩, by omega⟩
  | true =>
    have e : f1.tell1 c seq (n + 1) = { f1.tell1 c seq n with qs := qset (f1.tell1 c seq n).qs n (((f1.tell1 c seq n).qs n).put ⟨c.user, c.old, c.new, seq⟩) } := by simp [Feed.tell1, hwa]
    simp -implicitDefEqProofs only [cd_b, true_implies]
    refine ⟨?_, fun h => (by cases h)⟩
    unfold qpdZ
    simp -implicitDefEqProofs [t7, t2, ld_at c4, cel_of c4, stm_at c4, stm_upd, ld_same, cel_same, over, bdEv]
    refine put_ok ⟨c.user, c.old, c.new, seq⟩ o4.wf (gg.app [1, n]) (X4.xq n hn8) (fg3.qs n hn8) fun T5 h5 b5 o5 r5 => ?_
    unfold qpcZ
    simp -implicitDefEqProofs [hw8, t0, t2, t7, t10, t11, t12, t19, s20, s0, s2, s10, s11, s12, -Int.natCast_add]
    have gn : ¬ pre (g ++ [1, n]) [] := (gg.app _).nil
    have bc := o5.k.at (e4 _ _ c3') tc3 gn
    refine ⟨⟨T5, n + 1, (o3.up o4 non_up).up o5 fun t => pre_trans, ?_, bc.2, bc.1, by omega, rfl⟩, by omega⟩
    rw [e]
    have bp := o5.k.at X4.hp X4.tp (not_pre (by simp))
    refine ⟨bp.1, bp.2, X4.x1.ext (@StrR.ext) (o5.ext gn), X4.x2.ext (@MaskR.ext) (o5.ext gn), fun j hj => ?_, X4.s1, X4.s2⟩
    simp -implicitDefEqProofs only [qset]
    by_cases hjn : j = n
    · subst hjn; rw [if_pos rfl]; exact r5
    · rw [if_neg hjn]; exact (X4.xq j hj).kp o5.k (off_pre (by simp; omega) (by simp; omega))
end Go.Proofs.YtmbningljbcpkaaGreat
namespace Go.Den
open Go
set_option linter.unusedVariables false
def Hall.end_ (H:Hall)(who:Int)(s:Nat):Hall:=(H.did who 4 (4*s+2)).put s { H.ss s with v:=endV (H.ss s).v }
def Hall.pub (H:Hall)(who:Int)(s:Nat):Hall:=((H.did who 1 (4*s+4)).did who 4 (4*s+3)).put s { H.ss s with snap:=(H.ss s).book }
def Hall.take (H:Hall)(who:Int):Hall:={ H.did who 4 0 with t:={ H.t with seq:=addU H.t.seq 1 } }
def Hall.pass (H:Hall)(who by_:Int):Hall:={ H.did who 4 0 with t:={ H.t with now:=addU H.t.now by_ } }
def Hall.shut (H:Hall)(who:Int):Hall:={ H.did who 4 0 with t:={ H.t with closed:=true } }
def Hall.wr (H:Hall)(who:Int)(s:Nat):Hall:=H.did who 2 (4*s+4)
def Hall.sweep (H:Hall)(who:Int)(s:Nat)(t:Tm):Hall :=
 (H.wr who s).put s { H.ss s with book:=(sweepB (H.ss s).book t.now).1,feed:=(H.ss s).feed.tell (sweepB (H.ss s).book t.now).2 t.seq }
def Hall.write (H:Hall)(who:Int)(s:Nat)(x:OpD)(t:Tm):Hall × Int :=
 if t.closed then (H.wr who s,5) else
  ((H.wr who s).put s { H.ss s with book:=(writeB (H.ss s).book x t.now H.c.sessions).1,feed:=(H.ss s).feed.tell (writeB (H.ss s).book x t.now H.c.sessions).2.1 t.seq },(writeB (H.ss s).book x t.now H.c.sessions).2.2)
end Go.Den
namespace Go.Proofs.YtmbningljbcpkaaGreat
open Go Go.Den Go.MapKept
set_option linter.unusedSimpArgs false
set_option linter.unusedVariables false
set_option maxRecDepth 20000
variable {K:KTy}
theorem hend_ok (who:Int){s:Nat}{T:Tags}{h:Heap}{g:Tag}{p:Nat}{H:Hall}(w:Wf T h)(gg:Gd g)(x:HallR T h g p H)(hs:s<H.n)(h8:H.n≤8)(hl:H.acts.length<1000000)(hv:U64 (H.ss s).v)(hw:wrt (H.ss s).v=true→(H.ss s).v<18446744073709551615)
  (hk:∀ T' h',Only (pre g) T h T' h'→HallR T' h' g p (H.end_ who s)→K (.tuple #[]) h'):callM P qlsZ #[ptr p,.int .i64 who,.int .i64 s] h K:=by
 apply qtYZ
 unfold qmKZ
 refine place_ok s 2 (by omega) ?_
 unfold qpzZ
 obtain⟨sv,av,Y,x⟩:=x
 refine did_ok who 4 _ w gg x hl fun T2 h2 av2 o2 x2=>?_
 have bp:h2 p=_∧T2 p=_:=⟨x2.hp,x2.tp⟩
 simp -implicitDefEqProofs only[hallC] at bp
 have cp:=bp.1
 obtain⟨b,ob,rb,hb1,tb,ia,l1,l2,l3,l4,l5,l6⟩:=x2.lds (s:=s) (k:=.i64) hs
 unfold qpyZ
 simp -implicitDefEqProofs[ld_at cp,cel_of cp,stm_at cp,stm_upd,ld_same,cel_same,over,ia,l2]
 refine end_ok _ _ hv hw fun h3 e3=>?_
 have o3:Only non T2 h2 T2 h3:=Only.of_ext o2.wf e3
 have bp:=o3.see bp (not_non _)
 have cp:=bp.1
 have x3:HallX T2 h3 g p (H.did who 4 (4*s+2)) sv av2 Y:=⟨e3 _ _ x2.hp,x2.tp,x2.st.kp o3.k (not_non _),x2.ac.kp o3.k (not_non _),fun i hi=>(x2.sr i hi).kp o3.k (Off.non _) (not_non _)⟩
 unfold qpxZ
 simp -implicitDefEqProofs[ld_at cp,cel_of cp,stm_at cp,stm_upd,ld_same,cel_same,over,ia]
 refine x3.stw o3.wf (off:=1) (X':={ H.ss s with v:=endV (H.ss s).v }) (y':=Y s) hs rb rfl (by rfl) (by omega) (by simp[cellC,Hall.did]) (by simp[spl,strC,cellC,Hall.did]) (x3.sr s hs) fun h4 o4 x4=>?_
 exact hk T2 h4 (((o2.mono fun _=>U02.pre).up o3 non_up).up o4 fun t=>eq_pre) ⟨sv,av2,_,x4⟩
theorem hpub_ok (who:Int){s:Nat}{T:Tags}{h:Heap}{g:Tag}{p:Nat}{H:Hall}(w:Wf T h)(gg:Gd g)(x:HallR T h g p H)(hs:s<H.n)(h8:H.n≤8)(hl:H.acts.length<999999)
  (hk:∀ T' h',Only (pre g) T h T' h'→HallR T' h' g p (H.pub who s)→K (.tuple #[]) h'):callM P qhcZ #[ptr p,.int .i64 who,.int .i64 s] h K:=by
 apply qsuZ
 unfold qivZ
 refine place_ok s 4 (by omega) ?_
 unfold qlJZ
 obtain⟨sv,av,Y,x⟩:=x
 refine did_ok who 1 _ w gg x (by omega) fun T1 h1 av1 o1 x1=>?_
 unfold qlIZ
 refine place_ok s 3 (by omega) ?_
 unfold qlHZ
 refine did_ok who 4 _ o1.wf gg x1 (by simp[Hall.did]; omega) fun T2 h2 av2 o2 x2=>?_
 have cp:=x2.hp
 simp -implicitDefEqProofs only[hallC] at cp
 obtain⟨b,ob,rb,hb1,tb,ia,l1,l2,l3,l4,l5,l6⟩:=x2.lds (s:=s) (k:=.i64) hs
 have hsr:=x2.sr s hs
 have u1:=hsr.2.1.1.one
 have u2:=hsr.2.1.2.1.one
 unfold qlGZ
 simp -implicitDefEqProofs[ld_at cp,cel_of cp,stm_at cp,stm_upd,ld_same,cel_same,over,ia,l4]
 refine x2.stw o2.wf (off:=3) (X':={ H.ss s with snap:=(H.ss s).book }) (y':={ Y s with sk:=(Y s).bk,sv:=(Y s).bv }) hs rb rfl (by rfl) (by omega) (by simp[u1.1,u2.1]) (by simp[spl,strC,Hall.did]) ⟨hsr.2.1,hsr.2.1,hsr.2.2⟩ fun h4 o4 x4=>?_
 exact hk T2 h4 (((o1.mono fun _=>U02.pre).up o2 fun _=>U02.pre).up o4 fun t=>eq_pre) ⟨sv,av2,_,x4⟩
theorem HallX.tst {T:Tags}{h:Heap}{g:Tag}{p:Nat}{H:Hall}{sv av:Value}{Y:Nat→SV}(x:HallX T h g p H sv av Y)(w:Wf T h)(t:Tm) :
  Only (fun u=>u=g++[0]) T h T (upd h p (.cells (hallC { H with t:=t } sv av).toArray qaDZ (0,0)))∧HallX T (upd h p (.cells (hallC { H with t:=t } sv av).toArray qaDZ (0,0))) g p { H with t:=t } sv av Y:=by
 have o:Only (fun u=>u=g++[0]) T h T (upd h p (.cells (hallC { H with t:=t } sv av).toArray qaDZ (0,0))):=Only.upd w x.hp x.tp
 exact⟨o,upd_same' _ _ _,x.tp,x.st.kp o.k (ne_tag (by simp)),x.ac.kp o.k (ne_tag (by simp)),fun i hi=>(x.sr i hi).kp o.k (off_eq (by simp)) (by simp)⟩
theorem hpass_ok (who by_:Int)(hb:U64 by_){T:Tags}{h:Heap}{g:Tag}{p:Nat}{H:Hall}(w:Wf T h)(gg:Gd g)(x:HallR T h g p H)(ht:U64 H.t.now)(hl:H.acts.length<1000000)
  (hk:∀ T' h',Only (pre g) T h T' h'→HallR T' h' g p (H.pass who by_)→K (.tuple #[]) h'):callM P qkcZ #[ptr p,.int .i64 who,.int .u64 by_] h K:=by
 apply qtRZ
 unfold qlxZ
 obtain⟨sv,av,Y,x⟩:=x
 refine did_ok who 4 0 w gg x hl fun T2 h2 av2 o2 x2=>?_
 have cp:=x2.hp
 simp -implicitDefEqProofs only[hallC] at cp
 unfold qoRZ
 have hld:ldV (some (some 3)) (.pointer (some ⟨p,7,none⟩)) h2=some (.agg (tmC H.t).toArray):=by simp[ld_at cp,tmC,Hall.did]
 simp -implicitDefEqProofs only[ncV_p,faV_p,ov_s,Nat.zero_add,hld]
 refine tickPass_ok H.t ht hb fun h3 e3=>?_
 have o3:Only non T2 h2 T2 h3:=Only.of_ext o2.wf e3
 have x3:HallX T2 h3 g p (H.did who 4 0) sv av2 Y:=⟨e3 _ _ x2.hp,x2.tp,x2.st.kp o3.k (not_non _),x2.ac.kp o3.k (not_non _),fun i hi=>(x2.sr i hi).kp o3.k (Off.non _) (not_non _)⟩
 have cp:=x3.hp
 simp -implicitDefEqProofs only[hallC] at cp
 obtain⟨o4,x4⟩:=x3.tst o3.wf { H.t with now:=addU H.t.now by_ }
 simp -implicitDefEqProofs[ld_at cp,cel_of cp,stm_at cp,stm_upd,ld_same,cel_same,over,tmC]
 exact hk T2 _ (((o2.mono fun _=>U02.pre).up o3 non_up).up o4 fun t=>eq_pre) ⟨sv,av2,Y,x4⟩
theorem htake_ok (who:Int){T:Tags}{h:Heap}{g:Tag}{p:Nat}{H:Hall}(w:Wf T h)(gg:Gd g)(x:HallR T h g p H)(ht:U64 H.t.seq)(hl:H.acts.length<1000000)
  (hk:∀ T' h',Only (pre g) T h T' h'→HallR T' h' g p (H.take who)→K (.agg (tmC { H.t with seq:=addU H.t.seq 1 }).toArray) h'):callM P qkdZ #[ptr p,.int .i64 who] h K:=by
 apply qtSZ
 unfold qlyZ
 rw[zcTime]
 refine nw_tag w lc fun v1 T1 h1 n1 o1 t1 c1=>?_
 obtain⟨sv,av,Y,x1⟩:=x.up o1 (Off.non _) (not_non _)
 have b1:h1 v1=_∧T1 v1=lc:=⟨c1,t1⟩
 refine did_ok who 4 0 o1.wf gg x1 hl fun T2 h2 av2 o2 x2=>?_
 have b1:=o2.see b1 (lc_U02 gg)
 have cp:=x2.hp
 simp -implicitDefEqProofs only[hallC] at cp
 unfold qoTZ
 have hld:ldV (some (some 3)) (.pointer (some ⟨p,7,none⟩)) h2=some (.agg (tmC H.t).toArray):=by simp[ld_at cp,tmC,Hall.did]
 simp -implicitDefEqProofs only[ncV_p,faV_p,ov_s,Nat.zero_add,hld]
 refine tickTake_ok H.t ht fun h3 e3=>?_
 have o3:Only non T2 h2 T2 h3:=Only.of_ext o2.wf e3
 have b1:=o3.see b1 (not_non _)
 have x3:HallX T2 h3 g p (H.did who 4 0) sv av2 Y:=⟨e3 _ _ x2.hp,x2.tp,x2.st.kp o3.k (not_non _),x2.ac.kp o3.k (not_non _),fun i hi=>(x2.sr i hi).kp o3.k (Off.non _) (not_non _)⟩
 have cp:=x3.hp
 simp -implicitDefEqProofs only[hallC] at cp
 obtain⟨o4,x4⟩:=x3.tst o3.wf { H.t with seq:=addU H.t.seq 1 }
 have b1:=o4.see b1 (lc_ne g gg _)
 have c1:=b1.1
 have cp4:=x4.hp
 have oo:Only (pre g) T h T2 _:=(((o1.mono fun _=>non_up _).up o2 fun _=>U02.pre).up o3 non_up).up o4 fun t=>eq_pre
 unfold qoSZ
 simp -implicitDefEqProofs[ld_at cp,cel_of cp,stm_at cp,stm_upd,ld_same,cel_same,over,tmC,Hall.did]
 simp -implicitDefEqProofs only[hallC,Hall.did] at c1 cp4 x4 oo b1
 generalize upd h3 p _=h4 at *
 simp -implicitDefEqProofs[ld_at cp4,cel_of cp4,stm_at cp4,ld_at c1,cel_of c1,stm_at c1,stm_upd,ld_same,cel_same,over]
 exact hk T2 _ (oo.own n1 c1) (HallR.lst ⟨sv,av2,Y,x4⟩ gg oo.wf b1)
end Go.Proofs.YtmbningljbcpkaaGreat
namespace Go.Proofs.YtmbningljbcpkaaGreat
open Go Go.Den Go.MapKept
set_option linter.unusedSimpArgs false
set_option linter.unusedVariables false
set_option maxRecDepth 20000
variable {K:KTy}
theorem hwr_ok (who:Int){s:Nat}{T:Tags}{h:Heap}{g:Tag}{p:Nat}{H:Hall}(w:Wf T h)(gg:Gd g){sv av:Value}{Y:Nat→SV}(x:HallX T h g p H sv av Y)(hs:s<H.n)(h8:H.n≤8)(hl:H.acts.length<1000000)
  (hk:∀ T' h' av' b,Only (U02 g) T h T' h'→HallX T' h' g p (H.wr who s) sv av' Y→rowOf sv=some b→K (.pointer (some ⟨b,s*8,none⟩)) h'):callM P qeQZ #[ptr p,.int .i64 who,.int .i64 s] h K:=by
 apply qtCZ
 unfold qkmZ
 refine place_ok s 4 (by omega) ?_
 unfold qohZ
 refine did_ok who 2 _ w gg x hl fun T2 h2 av2 o2 x2=>?_
 have cp:=x2.hp
 simp -implicitDefEqProofs only[hallC] at cp
 obtain⟨b,ob,rb,hb1,tb,ia,l1,l2,l3,l4,l5,l6⟩:=x2.lds (s:=s) (k:=.i64) hs
 simp -implicitDefEqProofs[ld_at cp,cel_of cp,stm_at cp,stm_upd,ld_same,cel_same,over,ia]
 exact hk T2 h2 av2 b o2 x2 rb
theorem HallX.fed {T T':Tags}{h h':Heap}{g:Tag}{p:Nat}{H:Hall}{sv av:Value}{Y:Nat→SV}(x:HallX T h g p H sv av Y){s:Nat}(hs:s<H.n){f:Feed}(o:Only (pre (g++[3,s])) T h T' h')(gg:Gd g)(r:FeedR T' h' (g++[3,s]) (Y s).fp f) :
  HallX T' h' g p (H.put s { H.ss s with feed:=f }) sv av Y:=by
 have b:=o.k.at x.hp x.tp (not_pre (by simp))
 have n:¬ pre (g++[3,s]) []:=(gg.app _).nil
 refine⟨b.1,b.2,?_,x.ac.kp o.k (not_pre (by simp)),fun i hi=>?_⟩
 ·have:=x.st.kp o.k (not_pre (by simp))
  have e:seqF H.n (fun i=>strC (H.ss i) (Y i))=seqF H.n fun i=>strC ((H.put s { H.ss s with feed:=f }).ss i) (Y i):=seqF_congr fun i hi=>by
   simp -implicitDefEqProofs only[Hall.put,sput]
   by_cases his:i=s
   ·subst his; rw[if_pos rfl]; rfl
   ·rw[if_neg his]
  rw[e] at this
  exact this
 ·simp -implicitDefEqProofs only[Hall.put,sput]
  by_cases his:i=s
  ·subst his
   rw[if_pos rfl]
   have y:=x.sr i hi
   exact⟨y.1.ext (o.ext n),y.2.1.ext (o.ext n),r⟩
  ·rw[if_neg his]; exact (x.sr i hi).kp o.k (off_pre (by simp; omega) (by simp; omega)) n
end Go.Proofs.YtmbningljbcpkaaGreat
namespace Go.Den
open Go
set_option linter.unusedVariables false
def mor (m who:Int):Int:=((BitVec.ofInt 32 m ||| BitVec.ofInt 32 (2 ^ who.toNat)).toNat:Int)
def mclr (m who:Int):Int:=((BitVec.ofInt 32 m &&& ~~~ BitVec.ofInt 32 (2 ^ who.toNat)).toNat:Int)
theorem mbit_zero (j:Int):mbit 0 j=false:=by simp[mbit]
theorem mem_putB' {α:Type}{u:ByteArray}{e:α}{x:ByteArray × α}:∀ {b:List (ByteArray × α)},x∈putB b u e→x=(u,e)∨x∈b
 | [],h=>by simp[putB] at h; exact .inl h
 | (k,y)::r,h=>by
  simp only[putB] at h
  split at h
  ·rcases List.mem_cons.1 h with h | h
   ·exact .inr (by simp[h])
   ·rcases mem_putB' h with h | h
    ·exact .inl h
    ·exact .inr (by simp[h])
  ·split at h
   ·rcases List.mem_cons.1 h with h | h
    ·exact .inl h
    ·exact .inr (by simp[h])
   ·rcases List.mem_cons.1 h with h | h
    ·exact .inl h
    ·exact .inr h
def Feed.watch (f:Feed)(who:Int)(u:ByteArray):Feed:=if clientB who then { f with ws:=putB f.ws u (mor (valL 0 f.ws u) who) } else f
def Feed.unwatch (f:Feed)(who:Int)(u:ByteArray):Feed :=
 if clientB who=true∧valL 0 f.ws u≠0 then (if mclr (valL 0 f.ws u) who=0 then { f with ws:=delB f.ws u } else { f with ws:=putB f.ws u (mclr (valL 0 f.ws u) who) }) else f
def Feed.drain (f:Feed)(who:Int):Feed:=if clientB who then { f with qs:=qset f.qs who.toNat ⟨(f.qs who.toNat).room,[],false⟩ } else f
def Feed.told (f:Feed)(who:Int):List Evt:=if clientB who then (f.qs who.toNat).l else []
def Feed.lost (f:Feed)(who:Int):Bool:=clientB who && (f.qs who.toNat).lost
end Go.Den
