/- Words, plain data and contracts of the Go functions that this claim reaches. No condition beyond the hypotheses that each theorem states. -/
import Derived.Test.YtcnphhhcknhhaaaGreatRt6
set_option linter.unusedSimpArgs false
set_option linter.unusedVariables false
namespace Go.Proofs.YtcnphhhcknhhaaaGreat
open Go Go.Den Go.MapKept
set_option linter.unusedSimpArgs false
set_option linter.unusedVariables false
set_option maxRecDepth 20000
def EvsR (h:Heap)(c:List Value)(l:List Evt):Prop:=∃ v,c=[v]∧Sl 8 EvR h v l
theorem rng_set (k:Nat)(f:Nat→Value)(b:Nat)(v:Value):(((List.range k).map f).toArray.setIfInBounds b v)=((List.range k).map fun i=>if i=b then v else f i).toArray:=by
 apply Array.ext
 ·simp -implicitDefEqProofs
 ·intro i h1 h2
  rw[Array.getElem_setIfInBounds (by simpa using h2)]
  by_cases h:b=i
  ·subst h; simp
  ·rw[if_neg h]; simp[Ne.symm h]
def rngC (k:Nat)(f:Nat→Nat):Array Value:=((List.range k).map fun i=>Value.int .i64 (f i)).toArray
def restE (ls:List (List Evt))(p:Nat→Nat):List (List Evt):=(List.range ls.length).map fun i=>(nth ls i).drop (p i)
theorem nth_rest {ls:List (List Evt)}{p:Nat→Nat}{i:Nat}(hi:i<ls.length):nth (restE ls p) i=(nth ls i).drop (p i):=by
 unfold restE
 show ((List.range ls.length).map _).getD i []=_
 rw[List.getD_eq_getElem?_getD]
 simp -implicitDefEqProofs[hi]
theorem rest_len (ls:List (List Evt))(p:Nat→Nat):(restE ls p).length=ls.length:=by simp[restE]
theorem rest_zero (ls:List (List Evt)):restE ls (fun _=>0)=ls:=by
 apply List.ext_getElem (by simp[restE])
 intro i h1 h2
 simp -implicitDefEqProofs[restE,nth,h2]
theorem rest_set {ls:List (List Evt)}{p:Nat→Nat}{b:Nat}(hb:b<ls.length):(restE ls p).set b (nth (restE ls p) b).tail=restE ls (fun i=>if i=b then p b+1 else p i):=by
 apply List.ext_getElem (by simp[restE])
 intro i h1 h2
 have hi:i<ls.length:=by simpa [restE] using h2
 rw[List.getElem_set]
 by_cases h:b=i
 ·subst h
  rw[if_pos rfl,nth_rest hb]
  simp -implicitDefEqProofs[restE]
 ·rw[if_neg h]
  simp -implicitDefEqProofs[restE,Ne.symm h]
def bestV (o:Option Nat):Int:=match o with
 | some b=>b
 | none=>-1
def slen:Value→Nat
 | .slice _ n _=>n
 | _=>0
theorem row_slen {sz:Nat}{e:TypeId}{h:Heap}{v:Value}{n:Nat}{xs:List Value}(r:Row sz e h v n xs):slen v=n:=by
 rcases r.2 with ⟨rfl,h2⟩ | ⟨g,cap,cur,rfl,_⟩
 ·simp -implicitDefEqProofs only[slen]; exact h2.symm
 ·rfl
structure MgI (h:Heap)(ls:List (List Evt))(ab:Nat)(p:Nat→Nat)(out:List Evt)(ov:Value)(h':Heap):Prop where
 e:Ext h h'
 ca:h' ab=some (.cells (rngC ls.length p) qpZ (0,0))
 o:Rf 8 quZ h h' ov out.length (out.flatMap evC)
 na:rowOf ov≠some ab
 m:mergeE ls=out++mergeE (restE ls p)
 t:out.length+totE (restE ls p)=totE ls
 le:∀ i,i<ls.length→p i≤(nth ls i).length
theorem rngC_cel {h:Heap}{ab k:Nat}{p:Nat→Nat}(c:h ab=some (.cells (rngC k p) qpZ (0,0))){i:Nat}(hi:i<k):cel h ab i=some (.int .i64 (p i)):=by
 rw[cel_of c]; simp[rngC,hi]
theorem ia_sl {ab k i:Nat}(hi:i<k):iaV (some (none,1)) (.slice (some ⟨ab,0,none⟩) k k) (.int .i64 i)=some (.pointer (some ⟨ab,i,none⟩)):=by
 have:(0:Int)≤i∧(i:Int)<k:=by omega
 simp -implicitDefEqProofs[iaV,this]
theorem evs_at {F:Heap}{v:Value}{ls:List (List Evt)}(x:Sl 1 EvsR F v ls){i:Nat}(hi:i<ls.length):∃ b q u,iaV (some (none,1)) v (.int .i64 i)=some (.pointer (some ⟨b,q,none⟩))∧(∀ h',Ext F h'→cel h' b q=some u)∧Sl 8 EvR F u (nth ls i):=by
 obtain⟨b,o,c,i1,i2,i3⟩:=x.at (k:=.i64) (i:=i) (by omega) (by omega)
 simp -implicitDefEqProofs only[Int.toNat_natCast] at i3
 obtain⟨u,rfl,hu⟩:=i3
 have e:nth ls i=ls[i]:=by simp[nth,hi]
 refine⟨b,o,u,i1,fun h' e=>?_,by rw[e]; exact hu⟩
 have:=(cels_get (cels_ext e i2)).2 0 (by simp)
 simpa using this
theorem ev_seq {F:Heap}{v:Value}{l:List Evt}(x:Sl 8 EvR F v l){i:Nat}(hi:i<l.length):∃ b q,iaV (some (none,8)) v (.int .i64 i)=some (.pointer (some ⟨b,q,none⟩))∧(∀ h',Ext F h'→cels h' b q 8=some (evC l[i]))∧∀ h',Ext F h'→cel h' b (q+7)=some (.int .u64 (l[i].seq)):=by
 obtain⟨b,q,h1,h2⟩:=ev_ld x hi (k:=.i64)
 refine⟨b,q,h1,h2,fun h' e=>?_⟩
 have:=(cels_get (h2 h' e)).2 7 (by simp[evC,presC])
 simpa [evC,presC] using this
theorem hd_rest {ls:List (List Evt)}{p:Nat→Nat}{i:Nat}(hi:i<ls.length)(h:p i<(nth ls i).length):hdE (nth (restE ls p) i)=(nth ls i)[p i]:=by
 rw[nth_rest hi]
 unfold hdE
 rw[List.drop_eq_getElem_cons h]; rfl
theorem rest_ne {ls:List (List Evt)}{p:Nat→Nat}{i:Nat}(hi:i<ls.length):nth (restE ls p) i≠[]↔p i<(nth ls i).length:=by
 rw[nth_rest hi,ne_eq,List.drop_eq_nil_iff]; omega
theorem best_lt {r:List (List Evt)}{k b:Nat}(h:bestE r k=some b):b<k∧nth r b≠[]:=⟨(best_some h).h,(best_some h).ne⟩
variable {K:KTy}
theorem merge_ok (ls : List (List Evt)) {T : Tags} {h : Heap} (w : Wf T h) {v : Value} (x : Sl 1 EvsR h v ls) (hl : ls.length ≤ 1000) (ht : totE ls < 1000000) (hn : ∀ i, (nth ls i).length < 1000000) (hk : ∀ v' h', Ext h h' → Sl 8 EvR (fz T h') v' (mergeE ls) → K v' h') : callM P qpjZ #[v] h K := by
  apply quVZ
  unfold qpNZ
  have hlen := x.len
  simp -implicitDefEqProofs only [hlen, ov_s]
  refine makeSlice_vv unSlInt apInt zcInt (n := ls.length) (by omega) (by omega) (by unfold maxLen; omega) fun ab h1 n1 e1 c1 => ?_
  unfold qrrZ
  have I0 : MgI h ls ab (fun _ => 0) [] (.slice none 0 0) h1 := ⟨e1, by rw [c1, made_one]; rfl, by simpa using Rf.nil e1, by simp [rowOf], by simp [rest_zero], by simp [rest_zero], fun i _ => by omega⟩
  refine loop_on [0, 4] (fun s h' => ∃ p out ov, MgI h ls ab p out ov h' ∧ s 3 = ov) (fun s _ => totE ls + 1 - slen (s 3)) ⟨_, _, _, I0, rfl⟩ ?_
  rintro s h2 hf ⟨p, out, ov, I, s3⟩
  have s0 : s 0 = v := by simpa using hf 0 (by simp)
  have s4 : s 4 = .slice (some ⟨ab, 0, none⟩) ls.length ls.length := by simpa using hf 4 (by simp)
  unfold qrqZ
  rw [seqM_eq]
  unfold qroZ
  simp -implicitDefEqProofs only [s0, hlen, ov_s]
  refine loop_on [0, 3, 4, 11] (fun s' h' => ∃ i : Nat, h' = h2 ∧ s' 12 = .int .i64 i ∧ i ≤ ls.length ∧ s' 5 = .int .i64 (bestV (bestE (restE ls p) i))) (fun s' _ => (ls.length - num (s' 12)).toNat) ⟨0, rfl, rfl, by omega, rfl⟩ ?_
  rintro r h3 hf3 ⟨i, rfl, r12, hi, r5⟩
  have r0 : r 0 = v := by simpa [s0] using hf3 0 (by simp)
  have r3 : r 3 = ov := by simpa [s3] using hf3 3 (by simp)
  have r4 : r 4 = .slice (some ⟨ab, 0, none⟩) ls.length ls.length := by simpa [s4] using hf3 4 (by simp)
  have r11 : r 11 = .int .i64 ls.length := by simpa using hf3 11 (by simp)
  unfold qrnZ
  simp -implicitDefEqProofs only [r11, r12, bin_lss, ov_s, cd_b]
  refine ⟨fun hc => ?_, fun hc => ?_⟩
  · have hlt : i < ls.length := by have : ((i : Int) < ls.length) := by simpa using hc
                                   omega
    have hw : IntKind.i64.wrap ((i : Int) + 1) = (i + 1 : Nat) := by rw [wrap64_id (by omega) (by omega)]; omega
    obtain ⟨b1, q1, u1, i1, i2, i3⟩ := evs_at x hlt
    have i2 := i2 _ I.e
    have a1 := rngC_cel I.ca hlt
    have j1 := ia_sl (ab := ab) hlt
    have l1 := i3.len
    unfold qrmZ
    rw [seqM_eq]
    unfold qrlZ
    have hrl : ∀ b, b < ls.length → (nth (restE ls p) b ≠ [] ↔ p b < (nth ls b).length) := fun b hb => rest_ne hb
    have hbs : bestE (restE ls p) (i + 1) = match bestE (restE ls p) i with
      | none => if nth (restE ls p) i = [] then none else some i
      | some b => if nth (restE ls p) i ≠ [] ∧ (hdE (nth (restE ls p) i)).seq < (hdE (nth (restE ls p) b)).seq then some i else some b := rfl
    by_cases hp : p i < (nth ls i).length
    rotate_left
    · have hp' : ¬ ((p i : Int) < (nth ls i).length) := by omega
      have hnil : nth (restE ls p) i = [] := by
        rw [nth_rest hlt, List.drop_eq_nil_iff]; omega
      have hbs' : bestE (restE ls p) (i + 1) = bestE (restE ls p) i := by
        rw [hbs]; cases bestE (restE ls p) i <;> simp [hnil]
      simp -implicitDefEqProofs [r12, r4, r0, r5, j1, a1, i1, i2, l1, hp']
      unfold qohZ
      simp -implicitDefEqProofs [r0, r3, r4, r11, r12, s0, s3, s4, hw, -Int.natCast_add]
      exact ⟨⟨i + 1, rfl, by omega, by rw [hbs']; exact r5⟩, by omega⟩
    have hp' : ((p i : Int) < (nth ls i).length) := by omega
    have hne : nth (restE ls p) i ≠ [] := (hrl i hlt).2 hp
    obtain ⟨f1, g1, t1, _, t2⟩ := ev_seq i3 hp
    have t2 := t2 _ I.e
    cases hb : bestE (restE ls p) i with
    | none =>
      rw [hb] at r5 hbs
      have hbs' : bestE (restE ls p) (i + 1) = some i := by rw [hbs]; simp [hne]
      have r5 : r 5 = .int .i64 (-1) := r5
      simp -implicitDefEqProofs [r12, r4, r0, r5, j1, a1, i1, i2, l1, hp']
      unfold qogZ
      simp -implicitDefEqProofs [r0, r3, r4, r11, r12, s0, s3, s4, hw, -Int.natCast_add]
      exact ⟨⟨i + 1, rfl, by omega, by rw [hbs']; rfl⟩, by omega⟩
    | some b =>
      rw [hb] at r5 hbs
      obtain ⟨hbi, hbn⟩ := best_lt hb
      have hbl : b < ls.length := by omega
      have hpb : p b < (nth ls b).length := (hrl b hbl).1 hbn
      obtain ⟨b2, q2, u2, k1, k2, k3⟩ := evs_at x hbl
      have k2 := k2 _ I.e
      have a2 := rngC_cel I.ca hbl
      have j2 := ia_sl (ab := ab) hbl
      obtain ⟨f2, g2, t3, _, t4⟩ := ev_seq k3 hpb
      have t4 := t4 _ I.e
      have r5 : r 5 = .int .i64 b := r5
      have hb0 : ¬ ((b : Int) < 0) := by omega
      have hseq : ((hdE (nth (restE ls p) i)).seq < (hdE (nth (restE ls p) b)).seq) ↔ (nth ls i)[p i].seq < (nth ls b)[p b].seq := by
        rw [hd_rest hlt hp, hd_rest hbl hpb]
      by_cases hs : (nth ls i)[p i].seq < (nth ls b)[p b].seq
      · have hbs' : bestE (restE ls p) (i + 1) = some i := by rw [hbs]; simp [hne, hseq.2 hs]
        simp -implicitDefEqProofs [r12, r4, r0, r5, j1, a1, i1, i2, l1, hp', hb0, j2, a2, k1, k2, t1, t2, t3, t4, hs]
        unfold qogZ
        simp -implicitDefEqProofs [r0, r3, r4, r11, r12, s0, s3, s4, hw, -Int.natCast_add]
        exact ⟨⟨i + 1, rfl, by omega, by rw [hbs']; rfl⟩, by omega⟩
      · have hbs' : bestE (restE ls p) (i + 1) = some b := by rw [hbs]; simp [hne, hseq, hs]
        simp -implicitDefEqProofs [r12, r4, r0, r5, j1, a1, i1, i2, l1, hp', hb0, j2, a2, k1, k2, t1, t2, t3, t4, hs]
        unfold qohZ
        simp -implicitDefEqProofs [r0, r3, r4, r11, r12, s0, s3, s4, hw, -Int.natCast_add]
        exact ⟨⟨i + 1, rfl, by omega, by rw [hbs']; exact r5⟩, by omega⟩
  · have hie : i = ls.length := by have : ¬ ((i : Int) < ls.length) := by simpa using hc
                                   omega
    subst hie
    have hrr : bestE (restE ls p) ls.length = bestE (restE ls p) (restE ls p).length := by rw [rest_len]
    unfold qrpZ
    cases hb : bestE (restE ls p) ls.length with
    | none =>
      rw [hb] at r5 hrr
      have r5 : r 5 = .int .i64 (-1) := r5
      have hm : mergeE ls = out := by rw [I.m, merge_none hrr.symm, List.append_nil]
      simp -implicitDefEqProofs [r3, r5]
      refine hk _ _ I.e ?_
      rw [hm]
      exact Row.slE (enc := evC) (R := EvR) (fun e => by simp [evC, presC]) (fun _ => rfl) (I.o.row.fz w I.o.new)
    | some b =>
      rw [hb] at r5 hrr
      obtain ⟨hbi, hbn⟩ := best_lt hb
      have hpb : p b < (nth ls b).length := (rest_ne hbi).1 hbn
      obtain ⟨b2, q2, u2, k1, k2, k3⟩ := evs_at x hbi
      have k2 := k2 _ I.e
      have a2 := rngC_cel I.ca hbi
      have j2 := ia_sl (ab := ab) hbi
      obtain ⟨f2, g2, t3, t5, t4⟩ := ev_seq k3 hpb
      have t5 := t5 _ I.e
      have r5 : r 5 = .int .i64 b := r5
      have hb0 : ¬ ((b : Int) < 0) := by omega
      have ld5 : ldV (some (some 8)) (.pointer (some ⟨f2, g2, none⟩)) h3 = some (.agg (evC (nth ls b)[p b]).toArray) := by
        simp -implicitDefEqProofs [ldV, t5]
      simp -implicitDefEqProofs [r3, r5, hb0]
      unfold qqnZ
      simp -implicitDefEqProofs [r0, r5, r4, k1, k2, j2, a2, t3, ld5]
      have htot : totE ls < 1000000 := ht
      have hout : out.length < 1000000 := by have := I.t; omega
      try rw [r3]
      refine app_one (x := .agg (evC (nth ls b)[p b]).toArray) bsEv unSlEv apEv (by omega) (by simp [evC, presC]) (by simp [evC, presC]) I.o.row (by unfold maxLen; omega) (by omega) (by omega) fun a ov' h4 r4' k4 ha => ?_
      have ca4 : h4 ab = some (.cells (rngC ls.length p) qpZ (0, 0)) := k4 _ _ I.ca (Ne.symm I.na)
      have a4 := rngC_cel ca4 hbi
      have hw : IntKind.i64.wrap ((p b : Int) + 1) = (p b + 1 : Nat) := by have := hn b; rw [wrap64_id (by omega) (by omega)]; omega
      have e4 : Ext h h4 := fun k o hk => k4 _ _ (I.e _ _ hk) fun hh => by rw [I.o.new k hh.symm] at hk; cases hk
      have na4 : rowOf ov' ≠ some ab := by
        rcases ha with ha | ⟨j, ha, hj⟩
        · rw [ha]; exact I.na
        · rw [ha]; intro hh; cases hh; rw [I.ca] at hj; cases hj
      have new4 : ∀ g, rowOf ov' = some g → h g = none := fun g hg => by
        rcases ha with ha | ⟨j, ha, hj⟩
        · exact I.o.new g (by rw [← ha]; exact hg)
        · rw [ha] at hg; cases hg; exact fresh_of I.e hj
      unfold qqmZ
      simp -implicitDefEqProofs [r5, r4, j2, a4, hw, -Int.natCast_add]
      rw [stm_at (n := 1) (v := .int .i64 (p b + 1 : Nat)) ca4 rfl (by simp [rngC]; omega) (by simp)]
      have hov : over (rngC ls.length p) b (Value.int .i64 (p b + 1 : Nat)).cells.toList = rngC ls.length (fun i => if i = b then p b + 1 else p i) := by
        simp -implicitDefEqProofs only [cells_i, over]
        unfold rngC
        rw [rng_set]
        congr 2
        funext i
        by_cases hib : i = b
        · simp -implicitDefEqProofs [hib]
        · simp -implicitDefEqProofs [hib]
      rw [hov]
      have hap : h ab = none := fresh_of (Ext.refl h) (by
        cases hh : h ab with
        | none => rfl
        | some o => rw [e1 _ _ hh] at c1; rw [n1] at hh; cases hh)
      simp -implicitDefEqProofs [s0, s4, r0, r4, -Int.natCast_add]
      refine ⟨⟨fun i => if i = b then p b + 1 else p i, out ++ [(nth ls b)[p b]], ⟨ext_upd hap e4, upd_same' _ _ _, ?_, na4, ?_, ?_, fun i hi => ?_⟩⟩, ?_⟩
      · refine ⟨ext_upd hap e4, ?_, new4, ?_⟩
        · have : Row 8 quZ h4 ov' (out ++ [(nth ls b)[p b]]).length ((out ++ [(nth ls b)[p b]]).flatMap evC) := by simpa using r4'
          exact this.of_at fun g hg => upd_ne fun hh => na4 (by rw [hg, hh])
        · intro u hu
          obtain ⟨e, _, hu⟩ := List.mem_flatMap.1 hu
          simp -implicitDefEqProofs [evC, presC] at hu
          rcases hu with rfl | rfl | rfl | rfl | rfl | rfl | rfl | rfl <;> rfl
      · rw [I.m, merge_some hrr.symm, rest_set hbi, hd_rest hbi hpb, List.append_assoc]; rfl
      · have h1 := I.t
        have h2 := tot_set (r := restE ls p) (b := b) (by rw [rest_len]; exact hbi) hbn
        rw [rest_set hbi] at h2
        simp; omega
      · show (if i = b then p b + 1 else p i) ≤ _
        split
        · rename_i hib; subst hib; omega
        · exact I.le i hi
      · have h1 := row_slen r4'
        have h2 := row_slen I.o.row
        have h3 := I.t
        have h4 : 0 < totE (restE ls p) := by
          rcases Nat.eq_zero_or_pos (totE (restE ls p)) with h | h
          · exact absurd (tot_zero.1 h b) hbn
          · exact h
        rw [s3, h1, h2]; omega
end Go.Proofs.YtcnphhhcknhhaaaGreat
namespace Go.Proofs.YtcnphhhcknhhaaaGreat
open Go Go.Den Go.MapKept
set_option linter.unusedSimpArgs false
set_option linter.unusedVariables false
set_option maxRecDepth 20000
theorem mallX_at {b:List (ByteArray × Int)}{Lv:List (List Value)}{F:Heap}(l2:El 1 MaskR F Lv (b.map (·.2))){i:Nat}(hi:i<(mallX b Lv).length):∃ (hb:i<b.length),(mallX b Lv)[i]=#[.string b[i].1,.int .u32 b[i].2]:=by
 have hb:i<b.length:=by simpa [mallX] using hi
 have hL:i<Lv.length:=by rw[l2.len]; simpa using hb
 have he:Lv[i]=[.int .u32 b[i].2]:=by have:=l2.el i hL (by simpa using hb); simpa [MaskR] using this
 refine⟨hb,?_⟩
 simp -implicitDefEqProofs only[mallX,List.getElem_map,List.getElem_range]
 have e1:b.getD i (⟨#[]⟩,0)=b[i]:=by rw[List.getD_eq_getElem?_getD,List.getElem?_eq_getElem hb]; rfl
 have e2:Lv.getD i []=Lv[i]:=by rw[List.getD_eq_getElem?_getD,List.getElem?_eq_getElem hL]; rfl
 rw[e1,e2,he]; rfl
def cntTo (ws:List (ByteArray × Int))(who:Int)(i:Nat):Nat:=((ws.take i).filter fun x=>clientB who && mbit x.2 who).length
theorem cntTo_s {ws:List (ByteArray × Int)}{who:Int}{i:Nat}(hi:i<ws.length):cntTo ws who (i+1)=cntTo ws who i+if (clientB who && mbit ws[i].2 who)=true then 1 else 0:=by
 unfold cntTo
 rw[List.take_succ_eq_append_getElem hi,List.filter_append,List.length_append]
 by_cases h:(clientB who && mbit ws[i].2 who)=true<;>simp[List.filter_cons,h]
theorem cntTo_le (ws:List (ByteArray × Int))(who:Int)(i:Nat):cntTo ws who i≤ws.length:=Nat.le_trans (List.length_filter_le _ _) (by simp; omega)
def CnJ (hB:Heap)(v3:Nat)(ws:List (ByteArray × Int))(who:Int)(i:Nat)(h':Heap):Prop:=Ext (wo hB [v3]) h'∧h' v3=some (.cells #[.int .i64 (cntTo ws who i)] qpZ (0,0))
def CnC (hB:Heap)(v1 v3:Nat)(ws:List (ByteArray × Int))(who:Int)(i:Nat)(s2:Env)(h':Heap):Prop:=CnJ hB v3 ws who i h'∧s2 3=ptr v1∧s2 5=ptr v3∧∃ (hi:i<ws.length),s2 7 = .int .u32 ws[i].2
variable {K:KTy}
theorem fcount_ok (who:Int){T:Tags}{h:Heap}{g:Tag}{p:Nat}{f:Feed}(x:FeedR T h g p f)(fg:FdG f)(hk:∀ h',Ext h h'→K (.int .i64 (f.count who)) h'):callM P qaDZ #[ptr p,.int .i64 who] h K:=by
 apply qtUZ
 unfold qjfZ
 refine nw_intro fun v1 h1 n1 e1 c1=>?_
 rw[zcInt]
 refine nw_st rfl rfl (by simp) fun v3 h3 n3 e3 c3=>?_
 have c1:=e3 _ _ c1
 have e0:=e1.trans e3
 have n3':h v3=none:=fresh_of e1 n3
 have ne13:v1≠v3:=ne_fresh ‹h1 v1=_› n3
 obtain⟨kw,vw,q,cp,tp,x1,x2,xq,s1,s2⟩:=x
 have cp:=e0 _ _ cp
 have hag:ldV (some (some 2)) (ptr p) h3=some (.agg #[kw,vw]):=by simp[ld_at cp,feedC,feedG,List.range_succ]
 rw[seqM_eq]
 unfold qnGZ
 simp -implicitDefEqProofs[hag]
 have xW:WsR (fz T h) kw vw f.ws:=⟨x1,x2,s1,s2⟩
 have eF:=(fz_ext T h).trans e0
 refine mall_ok f.ws eF xW fun pA hB nA eA cA=>?_
 have nA3:v3≠pA:=ne_fresh c3 nA
 have c3:=eA _ _ c3
 have c1:=eA _ _ c1
 have e0B:=e0.trans eA
 obtain⟨Lv,l1,l2⟩:=x2.els MaskR.one
 simp -implicitDefEqProofs only[List.length_map] at l1
 have hF3:(fz T h) v3=none:=by
  cases hh:(fz T h) v3 with
  | none=>rfl
  | some o=>rw[fz_ext T h _ _ hh] at n3'; cases n3'
 have F1:Ext (fz T h) (wo hB [v3]):=wo_ext ((fz_ext T h).trans e0B) (by simpa using hF3)
 have hlen:=fg.len
 unfold qnFZ
 refine rf_go good mixed rfl (by kernel_rfl) (mall_it f.ws (hA:=wo hB [v3]) (p:=pA) (kw:=kw) (vw:=vw) (Lv:=Lv) (by rw[wo_out (by simpa using Ne.symm nA3)]; exact cA) (xW.ext F1) (l1.ext F1) l2.size (by simpa using l2.len))
  (fun l b' i h'=>CnJ hB v3 f.ws who i h') (fun _ _ _ _=>False) (fun l b' i s2 h'=>CnC hB v1 v3 f.ws who i s2 h') ?_ ?_ ?_ (fun _ _ _ _ _ _ _ h _=>h) ?_ ?_ ?_ ?_ ?_ (fun _ _ _ _ _ _ _ h=>h.elim) (fun _ _ _ _ _ _ _ _ h=>h.elim)
 ·intro l b' hl' hb'
  exact⟨fun q o hq=>(wo_get hq).2,by simpa [cntTo] using c3⟩
 ·intro l b' i h' J; exact J.1
 ·intro l b' hl' hb' i h' h'' J k
  exact⟨wo_keep J.1 hl' k,k _ _ J.2 (fun hh=>by cases hh; rw[hl'] at c3; cases c3)⟩
 ·rintro l b' i s2 ha hb hl' hb' ⟨J,s3,s5,hi,s7⟩ k
  exact⟨⟨wo_keep J.1 hl' k,k _ _ J.2 (fun hh=>by cases hh; rw[hl'] at c3; cases c3)⟩,s3,s5,hi,s7⟩
 ·intro i hi; simp[mallX]
 ·rintro i hi l b' h2 hl' hb' ⟨ol,hol⟩ ⟨ob,hob⟩ J
  rw[qrUZ]
  unfold qlyZ
  obtain⟨hib,hx⟩:=mallX_at l2 hi
  rw[hx]
  simp -implicitDefEqProofs
  exact⟨J,by simp,by simp,hib,by simp⟩
 ·rintro i hi l b' s2 h3 hl' hb' ⟨ol,hol⟩ ⟨ob,hob⟩ ⟨J,s3,s5,hib,s7⟩
  rw[qrVZ]
  unfold qlzZ
  have cv:=J.2
  have cw:h3 v1=some (.cells #[.int .i64 who] qpZ (0,0)):=J.1 _ _ (by rw[wo_out (by simpa using ne13)]; exact c1)
  obtain⟨m0,m1⟩:=fg.ms _ (List.getElem_mem hib)
  have hle:=cntTo_le f.ws who i
  have hw:IntKind.i64.wrap ((cntTo f.ws who i:Int)+1)=(cntTo f.ws who i+1:Nat):=by rw[wrap64_id (by omega) (by omega)]; omega
  have hl3:l≠v3:=fun hh=>by subst hh; rw[hl'] at c3; cases c3
  have hb3:b'≠v3:=fun hh=>by subst hh; rw[hb'] at c3; cases c3
  have hs:=cntTo_s (who:=who) hib
  simp -implicitDefEqProofs[s3,ld_at cw,cel_of cw,stm_at cw,stm_upd,ld_same,cel_same,over]
  refine client_ok who ?_
  cases hc:clientB who with
  | false =>
   rw[hc] at hs
   simp -implicitDefEqProofs only[Bool.false_and,Bool.false_eq_true,if_false,Nat.add_zero] at hs
   simp -implicitDefEqProofs
   exact⟨J.1,by rw[hs]; exact cv⟩
  | true =>
   rw[hc] at hs
   have hc':0≤who∧who<8:=by simpa [clientB] using hc
   have m2:0≤f.ws[i].2 / 2 ^ who.toNat:=Int.ediv_nonneg m0 (Int.pow_nonneg (by omega))
   have m3:f.ws[i].2 / 2 ^ who.toNat<4294967296:=Int.lt_of_le_of_lt (Int.ediv_le_self _ m0) m1
   by_cases hm:f.ws[i].2 / 2 ^ who.toNat % 2=1
   ·have hmb:mbit f.ws[i].2 who=true:=by simp[mbit,hm]
    rw[hmb] at hs
    simp -implicitDefEqProofs only[Bool.and_self,if_true] at hs
    simp -implicitDefEqProofs[s3,s5,s7,ld_at cw,cel_of cw,stm_at cw,ld_at cv,cel_of cv,stm_at cv,stm_upd,ld_same,cel_same,over,bin_shr32 _ _ hc'.1 hc'.2 m0,bin_and32 _ _ m2 m3,hm,hw,-Int.natCast_add]
    exact⟨by rw[upd_ne hl3,hol],by rw[upd_ne hb3,hob],wo_upd J.1 (by simp),by rw[upd_same',hs]⟩
   ·have hmb:mbit f.ws[i].2 who=false:=by simp[mbit,hm]
    rw[hmb] at hs
    simp -implicitDefEqProofs only[Bool.and_false,Bool.false_eq_true,if_false,Nat.add_zero] at hs
    simp -implicitDefEqProofs[s3,s5,s7,ld_at cw,cel_of cw,stm_at cw,ld_at cv,cel_of cv,stm_at cv,stm_upd,ld_same,cel_same,over,bin_shr32 _ _ hc'.1 hc'.2 m0,bin_and32 _ _ m2 m3,hm]
    exact⟨J.1,by rw[hs]; exact cv⟩
 ·intro l b' h' hl' hlb hb' hd J
  have hlx:(mallX f.ws Lv).length=f.ws.length:=by simp[mallX]
  rw[hlx] at J
  have cv:=J.2
  have nb3:v3≠b':=fun hh=>by subst hh; rw[hb'] at c3; cases c3
  simp -implicitDefEqProofs only[blkM_n,thenM_n]
  simp -implicitDefEqProofs[ld_at cv,cel_of cv,stm_at cv,stm_upd,ld_same,cel_same,over,hd,ld_skip nb3,cel_skip nb3]
  have hct:cntTo f.ws who f.ws.length=f.count who:=by simp[cntTo,Feed.count]
  rw[hct]
  refine hk _ ?_
  exact ext_upd (o:=.deferred none) (fresh_of e0B hb') (ext_wo e0B (by simpa using n3') J.1)
end Go.Proofs.YtcnphhhcknhhaaaGreat
namespace Go.Proofs.YtcnphhhcknhhaaaGreat
open Go Go.Den Go.MapKept
set_option linter.unusedSimpArgs false
set_option linter.unusedVariables false
set_option maxRecDepth 20000
def OpsR (h:Heap)(c:List Value)(l:List OpD):Prop:=∃ v,c=[v]∧Sl 7 OpR h v l
end Go.Proofs.YtcnphhhcknhhaaaGreat
namespace Go.Proofs.YtcnphhhcknhhaaaGreat
open Go Go.Den Go.MapKept
set_option linter.unusedSimpArgs false
set_option linter.unusedVariables false
set_option maxRecDepth 20000
section
variable {T:Tags}{h:Heap}{g:Tag}{p m:Nat}{M:Tbl}{K:KTy}
theorem ts_n8 (x:TS m M):1≤M.n∧M.n≤8:=by
 have h1:=x.rt
 have h2:=x.nn
 simp -implicitDefEqProofs only[rightB,decide_eq_true_eq] at h1; omega
theorem mpres_ok (u:ByteArray)(hu:u.size≤maxLen)(w:Wf T h)(x:MdR T h g p M)(hs:TS m M)(hm:m<100000)(hk:∀ h',Ext h h'→K (.agg (presC (M.pres u)).toArray) h'):callM P qflZ #[ptr p,.string u] h K:=by
 apply qqPZ
 unfold qfLZ
 rw[zcPres]
 refine nw_intro fun v1 h1 n1 e1 c1=>?_
 have o1:Only non T h T h1:=Only.of_ext w e1
 have x1:=x.kp o1.k (Off.non _) (not_non _)
 have n8:=ts_n8 hs
 have nn:=hs.nn
 obtain⟨bv,fv,Kk,V,F,y⟩:=x1
 have cp:=y.hp
 simp -implicitDefEqProofs only[mdC] at cp
 have hst:=stripeOf_lt (u:=u) (n:=M.c.stripes) (by omega)
 obtain⟨s,hs'⟩:∃ s:Nat,stripeOf u M.c.stripes=s:=⟨(stripeOf u M.c.stripes).toNat,by omega⟩
 have hsn:s<M.n:=by omega
 simp -implicitDefEqProofs[ld_at cp,cel_of cp,stm_at cp,stm_upd,ld_same,cel_same,over]
 refine mstripe_ok u hu ⟨bv,fv,Kk,V,F,y⟩ (by omega) ?_
 rw[hs']
 obtain⟨b,rb,ia,ld⟩:=y.ldb hsn
 have bk:=hs.bk s hsn
 have hpr:M.pres u=presB (M.bk s) u M.t.now:=by unfold Tbl.pres Tbl.stripe; rw[hs']; simp
 unfold qiFZ
 simp -implicitDefEqProofs[ld_at cp,cel_of cp,stm_at cp,stm_upd,ld_same,cel_same,over,ia,ld]
 refine presence_ok (M.bk s) (bk.g hm).so u M.t.now (fz_ext T h1) (y.br s hsn) (bk.g hm).len ((bk.g hm).ss u) fun h2 e2=>?_
 have c1:=e2 _ _ c1
 rw[← hpr]
 simp -implicitDefEqProofs only[presC]
 simp -implicitDefEqProofs[ld_at c1,cel_of c1,stm_at c1,stm_upd,ld_same,cel_same,over]
 exact kv (hk _ (ext_upd n1 (e1.trans e2))) (by simp[presC])
theorem mcnt_s (M:Tbl)(who:Int)(s:Nat):((List.range (s+1)).map fun s=>(M.fd s).count who).sum=((List.range s).map fun s=>(M.fd s).count who).sum+(M.fd s).count who:=by simp[List.range_succ,List.map_append,List.sum_append]
def McI (h0:Heap)(M:Tbl)(who:Int)(i:Nat)(nv:Value)(h':Heap):Prop:=Ext h0 h'∧nv = .int .i64 (((List.range i).map fun s=>(M.fd s).count who).sum:Nat)
theorem mwatch_ok (who:Int)(u:ByteArray)(hu:u.size≤maxLen)(w:Wf T h)(gg:Gd g)(x:MdR T h g p M)(hs:TS m M)(hm:m<100000)(hk:∀ T' h',Only (pre g) T h T' h'→MdR T' h' g p (M.watch who u).1→K (.int .i64 (M.watch who u).2.err) h'):callM P qgnZ #[ptr p,.int .i64 who,.string u] h K:=by
 apply qsNZ
 unfold qhOZ
 have n8:=ts_n8 hs
 have nn:=hs.nn
 obtain⟨bv,fv,Kk,V,F,y⟩:=x
 have cp:=y.hp
 simp -implicitDefEqProofs only[mdC] at cp
 have hst:=stripeOf_lt (u:=u) (n:=M.c.stripes) (by omega)
 obtain⟨s,hs'⟩:∃ s:Nat,stripeOf u M.c.stripes=s:=⟨(stripeOf u M.c.stripes).toNat,by omega⟩
 have hsn:s<M.n:=by omega
 have hms:M.stripe u=s:=by unfold Tbl.stripe; rw[hs']; simp
 simp -implicitDefEqProofs[ld_at cp,cel_of cp,stm_at cp,stm_upd,ld_same,cel_same,over]
 refine mstripe_ok u hu ⟨bv,fv,Kk,V,F,y⟩ (by omega) ?_
 rw[hs']
 obtain⟨b,ia,ld⟩:=y.ldf hsn
 unfold qlgZ
 simp -implicitDefEqProofs[ld_at cp,cel_of cp,stm_at cp,stm_upd,ld_same,cel_same,over,ia,ld]
 rw[seqM_eq]
 unfold qlcZ
 have fl:=y.fd.len
 simp -implicitDefEqProofs[ld_at cp,cel_of cp,stm_at cp,stm_upd,ld_same,cel_same,over,fl]
 refine loop_on [0,1,2,7,23,24] (fun s' h'=>∃ i:Nat,McI h M who i (s' 8) h'∧s' 25 = .int .i64 i∧i≤M.n) (fun s' _=>(M.n-num (s' 25)).toNat) ⟨0,⟨Ext.refl _,by simp⟩,rfl,by omega⟩ ?_
 rintro r h2 hf ⟨i,⟨e2,r8⟩,r25,hi⟩
 have r0:r 0=ptr p:=by simpa using hf 0 (by simp)
 have r1:r 1 = .int .i64 who:=by simpa using hf 1 (by simp)
 have r2:r 2 = .string u:=by simpa using hf 2 (by simp)
 have r7:r 7=ptr (F s):=by simpa using hf 7 (by simp)
 have r23:r 23=fv:=by simpa using hf 23 (by simp)
 have r24:r 24 = .int .i64 M.n:=by simpa using hf 24 (by simp)
 have o2:Only non T h T h2:=Only.of_ext w e2
 have y2:=y.kp o2.k (Off.non _) (not_non _)
 have cle:∀ j,j≤M.n→((List.range j).map fun s=>(M.fd s).count who).sum≤100000*j:=by
  intro j
  induction j with
  | zero=>intro _; simp
  | succ j ih =>
   intro hj
   have h1:=ih (by omega)
   have h2:(M.fd j).count who≤m:=Nat.le_trans (List.length_filter_le _ _) (hs.fd j (by omega)).len
   rw[mcnt_s]; omega
 unfold qlbZ
 simp -implicitDefEqProofs[r24,r25]
 refine⟨fun hc=>?_,fun hc=>?_⟩
 ·have hlt:i<M.n:=by omega
  obtain⟨b',ia',ld'⟩:=y2.ldf hlt
  have hw1:IntKind.i64.wrap ((i:Int)+1)=(i+1:Nat):=by rw[wrap64_id (by omega) (by omega)]; omega
  have c1:=cle (i+1) (by omega)
  rw[mcnt_s] at c1
  have hw2:IntKind.i64.wrap (((((List.range i).map fun s=>(M.fd s).count who).sum:Nat):Int)+((M.fd i).count who:Nat))=(((List.range (i+1)).map fun s=>(M.fd s).count who).sum:Nat):=by
   rw[mcnt_s,wrap64_id (by omega) (by omega)]; omega
  unfold qlaZ
  simp -implicitDefEqProofs[r1,r23,r25,ia',ld']
  refine fcount_ok who (y2.fr i hlt) ((hs.fd i hlt).g hm) fun h3 e3=>?_
  unfold qkZZ
  simp -implicitDefEqProofs[r0,r1,r2,r7,r8,r23,r24,r25,hw1,hw2,-Int.natCast_add]
  exact⟨⟨i+1,⟨e2.trans e3,rfl⟩,rfl,by omega⟩,by omega⟩
 have hie:i=M.n:=by omega
 subst hie
 have fg:=(hs.fd s hsn).g hm
 unfold qlfZ
 simp -implicitDefEqProofs[r1,r2,r7]
 refine watching_ok who u (y2.fr s hsn) fg fun h3 e3=>?_
 have o3:Only non T h2 T h3:=Only.of_ext o2.wf e3
 have y3:=y2.kp o3.k (Off.non _) (not_non _)
 have cp:=y3.hp
 simp -implicitDefEqProofs only[mdC] at cp
 have o23:=o2.trans o3
 have set_:∀ r':Env,r' 7=ptr (F s)→r' 1 = .int .i64 who→r' 2 = .string u→M.watch who u=(M.fed (M.stripe u) ((M.fd (M.stripe u)).watch who u),rep0)→∀ v25 v27 v28 v31 v34 v38 v42 v46 v50 v54,qgbZ r' h3 K [] v25 v27 v28 v31 v34 v38 v42 v46 v50 v54:=by
  intro r' r7 r1 r2 hM v25 v27 v28 v31 v34 v38 v42 v46 v50 v54
  unfold qgbZ
  simp -implicitDefEqProofs only[r7,r1,r2]
  refine fwatch_ok who u hu o3.wf (gg.app _) (y3.fr s hsn) fg (by have:=(hs.fd s hsn).len; omega) fun T4 h4 o4 x4=>?_
  unfold qjTZ
  simp -implicitDefEqProofs
  rw[hM,hms] at hk
  exact hk T4 h4 ((o23.mono non_up).trans (o4.mono fun t=>pre_trans)) ⟨bv,fv,Kk,V,F,y3.fed o4 gg x4⟩
 unfold qleZ
 cases hwt:(M.fd s).watching who u with
 | true =>
  simp -implicitDefEqProofs
  exact set_ _ (by simp[r7]) (by simp[r1]) (by simp[r2]) (by unfold Tbl.watch; rw[hms,hwt]; simp) _ _ _ _ _ _ _ _ _ _
 | false =>
  simp -implicitDefEqProofs[r0,r8,ld_at cp,cel_of cp,stm_at cp,stm_upd,ld_same,cel_same,over]
  refine⟨fun hc=>?_,fun hc=>?_⟩
  ·unfold qldZ
   simp -implicitDefEqProofs
   have hM:M.watch who u=(M,repE 4):=by unfold Tbl.watch; rw[hms,hwt,if_pos ⟨rfl,hc⟩]
   rw[hM] at hk
   exact hk T h3 (o23.mono non_up) ⟨bv,fv,Kk,V,F,y3⟩
  ·have hM:M.watch who u=(M.fed (M.stripe u) ((M.fd (M.stripe u)).watch who u),rep0):=by
    unfold Tbl.watch
    rw[if_neg]
    rintro⟨_,h2⟩
    have:(M.count who:Int)=(((List.range M.n).map fun s=>(M.fd s).count who).sum:Nat):=rfl
    omega
   exact set_ _ (by simp[r7]) (by simp[r1]) (by simp[r2]) hM _ _ _ _ _ _ _ _ _ _
end
end Go.Proofs.YtcnphhhcknhhaaaGreat
namespace Go.Proofs.YtcnphhhcknhhaaaGreat
open Go Go.Den Go.MapKept
set_option linter.unusedSimpArgs false
set_option linter.unusedVariables false
set_option maxRecDepth 20000
theorem bsSlEv:bsI P qbzZ=some (qqZ,1,#[.slice none 0 0]):=by kernel_rfl
structure MpI (T0:Tags)(h0:Heap)(g:Tag)(p:Nat)(M:Tbl)(who:Int)(bv fv:Value)(Kk V:Nat→Value)(F:Nat→Nat)(v1 v3:Nat)(i:Nat)(av:Value)(T':Tags)(h':Heap):Prop where
 o:Only (pre g) T0 h0 T' h'
 x:MdX T' h' g p (M.drainTo who i) bv fv Kk V F
 a:∃ cv:Nat→Value,Rw T' h' lc 1 qqZ av i (seqF i fun j=>[cv j])∧∀ j,j<i→Sl 8 EvR (fz T' h') (cv j) ((M.fd j).told who)
 n:∀ b,rowOf av=some b→h0 b=none∧b≠v1∧b≠v3
 b1:h' v1=some (.cells #[.int .i64 0,.slice none 0 0,.slice none 0 0,.bool false] qcZ (0,0))∧T' v1=lc
 b3:h' v3=some (.cells #[.int .i64 0,.slice none 0 0,.slice none 0 0,.bool (M.lostTo who i)] qcZ (0,0))∧T' v3=lc
theorem drainTo_s (M:Tbl)(who:Int)(i:Nat):(M.drainTo who i).fed i ((M.fd i).drain who)=M.drainTo who (i+1):=by
 unfold Tbl.drainTo Tbl.fed bset
 congr 1
 funext k
 by_cases h:k=i
 ·subst h; simp
 ·by_cases h2:k<i
  ·have:k<i+1:=by omega
   simp -implicitDefEqProofs[h,h2,this]
  ·have:¬ k<i+1:=by omega
   simp -implicitDefEqProofs[h,h2,this]
theorem drainTo_fd (M:Tbl)(who:Int)(i:Nat):(M.drainTo who i).fd i=M.fd i:=by simp[Tbl.drainTo]
theorem lostTo_s (M:Tbl)(who:Int)(i:Nat):M.lostTo who (i+1)=(M.lostTo who i || (M.fd i).lost who):=by simp[Tbl.lostTo,List.range_succ,List.any_append]
def MpE (T0:Tags)(h0:Heap)(g:Tag)(p:Nat)(M:Tbl)(who:Int)(bv fv:Value)(Kk V:Nat→Value)(F:Nat→Nat)(v1 v3:Nat)(i:Nat)(av:Value)(h':Heap):Prop:=∃ T',MpI T0 h0 g p M who bv fv Kk V F v1 v3 i av T' h'
variable {K:KTy}
set_option maxHeartbeats 1000000 in
theorem mpoll_ok (who:Int){T:Tags}{h:Heap}{g:Tag}{p m:Nat}{M:Tbl}(w:Wf T h)(gg:Gd g)(x:MdR T h g p M)(hs:TS m M)(hm:m<100000)
  (hk:∀ T' h' vv ev,Only (pre g) T h T' h'→MdR T' h' g p (M.poll who).1→RpX (fz T' h') (M.poll who).2 vv ev→K (.agg (rplC (M.poll who).2 vv ev).toArray) h'):callM P qhtZ #[ptr p,.int .i64 who] h K:=by
 apply qtwZ
 unfold qiEZ
 have n8:=ts_n8 hs
 rw[zcRep]
 refine nw_tag w lc fun v1 T1 h1 n1 o1 t1 c1=>?_
 refine nw_tag o1.wf lc fun v3 T3 h3 n3 o3 t3 c3=>?_
 have o13:=o1.trans o3
 have n3':h v3=none:=by
  cases hh:h v3 with
  | none=>rfl
  | some o=>obtain⟨o',ho'⟩:=o1.al _ _ hh; rw[n3] at ho'; cases ho'
 have ne13:v1≠v3:=ne_fresh c1 n3
 have b1:=o3.see ⟨c1,t1⟩ (not_non _)
 have hlcg:¬ pre g lc:=fun hh=>gg.off lc hh rfl
 obtain⟨bv,fv,Kk,V,F,y⟩:=x.kp o13.k (Off.non _) (not_non _)
 have cp:=y.hp
 simp -implicitDefEqProofs only[mdC] at cp
 rw[seqM_eq]
 unfold qlLZ
 have fl:=y.fd.len
 simp -implicitDefEqProofs[ld_at cp,cel_of cp,stm_at cp,stm_upd,ld_same,cel_same,over,fl]
 have m0:M.drainTo who 0=M:=by simp[Tbl.drainTo]
 have I0:MpI T h g p M who bv fv Kk V F v1 v3 0 (.slice none 0 0) T3 h3:=⟨o13.mono non_up,by rw[m0]; exact y,⟨fun _=>.nilFunc,Rw.nil _ _ _ _ _,fun j hj=>by omega⟩,fun b hb=>by simp[rowOf] at hb,b1,⟨by simpa [Tbl.lostTo] using c3,t3⟩⟩
 refine loop_on [0,1,4,5,14,15] (fun s h'=>∃ i:Nat,MpE T h g p M who bv fv Kk V F v1 v3 i (s 6) h'∧s 16 = .int .i64 i∧i≤M.n) (fun s _=>(M.n-num (s 16)).toNat) ⟨0,⟨T3,I0⟩,rfl,by omega⟩ ?_
 rintro s h4 hf ⟨i,⟨T4,I⟩,s16,hi⟩
 have s0:s 0=ptr p:=by simpa using hf 0 (by simp)
 have s1:s 1 = .int .i64 who:=by simpa using hf 1 (by simp)
 have s4:s 4=ptr v1:=by simpa using hf 4 (by simp)
 have s5:s 5=ptr v3:=by simpa using hf 5 (by simp)
 have s14:s 14=fv:=by simpa using hf 14 (by simp)
 have s15:s 15 = .int .i64 M.n:=by simpa using hf 15 (by simp)
 obtain⟨av,hav⟩:∃ av,s 6=av:=⟨_,rfl⟩
 rw[hav] at I
 unfold qlKZ
 simp -implicitDefEqProofs[s15,s16]
 refine⟨fun hc=>?_,fun hc=>?_⟩
 ·have hlt:i<M.n:=by omega
  have hw1:IntKind.i64.wrap ((i:Int)+1)=(i+1:Nat):=by rw[wrap64_id (by omega) (by omega)]; omega
  obtain⟨fb,ia,ld⟩:=I.x.ldf (s:=i) hlt
  have fr:=I.x.fr i hlt
  rw[drainTo_fd] at fr
  unfold qlJZ
  simp -implicitDefEqProofs[s1,s14,s16,ia,ld]
  refine fdrain_ok who I.o.wf (gg.app _) fr (fun j hj=>by have:=((hs.fd i hlt).qs j hj).2.2; omega) fun T5 h5 v o5 f5 sl5=>?_
  have x5:=I.x.fed o5 gg f5
  rw[drainTo_s] at x5
  have hlc5:¬ pre (g++[3,i]) lc:=fun hh=>hlcg (pre_trans hh)
  have b15:=o5.see I.b1 hlc5
  have b35:=o5.see I.b3 hlc5
  obtain⟨cv,ar,asl⟩:=I.a
  have ar5:=ar.kp o5.k hlc5
  have vo:=sl5.one
  have oT5:Only (pre g) T h T5 h5:=I.o.trans (o5.mono fun t=>pre_trans)
  unfold qlIZ
  simp -implicitDefEqProofs only[exV_0,exV_1,ov_s]
  rw[hav]
  refine Rw.appk bsSlEv unSlSlEv apSlEv (by omega) (by simp[vo.2]) (by simp[vo.1,vo.2]) o5.wf ar5 (by unfold maxLen; omega) (by omega) (by omega) (by simp[lc]) fun a av' T6 h6 o6 r6 k6 ha=>?_
  have hrow:=I.n
  have oT6:Only (pre g) T h T6 h6:=Only.keepk oT5 o6 k6 fun b hb=>(hrow b hb).1
  have b16:h6 v1=_∧T6 v1=lc:=⟨k6 _ _ b15.1 fun hh=>(hrow v1 hh).2.1 rfl,by rw[o6.tg _ _ b15.1]; exact b15.2⟩
  have b36:h6 v3=_∧T6 v3=lc:=⟨k6 _ _ b35.1 fun hh=>(hrow v3 hh).2.2 rfl,by rw[o6.tg _ _ b35.1]; exact b35.2⟩
  have ull:¬ (fun t=>t=lc) ([]:Tag):=by simp[lc]
  have x6:=x5.kp o6.k gg.off ull
  have n6:∀ b,rowOf av'=some b→h b=none∧b≠v1∧b≠v3:=fun b hb=>by
   rcases ha with ha | ⟨j,ha,hj⟩
   ·exact hrow b (by rw[← ha]; exact hb)
   ·rw[ha] at hb; cases hb
    refine⟨?_,fun e=>?_,fun e=>?_⟩
    ·cases hh:h b with
     | none=>rfl
     | some o=>obtain⟨o',ho'⟩:=oT5.al _ _ hh; rw[hj] at ho'; cases ho'
    ·subst e; rw[b15.1] at hj; cases hj
    ·subst e; rw[b35.1] at hj; cases hj
  have a6:∃ cv':Nat→Value,Rw T6 h6 lc 1 qqZ av' (i+1) (seqF (i+1) fun j=>[cv' j])∧∀ j,j<i+1→Sl 8 EvR (fz T6 h6) (cv' j) ((M.fd j).told who):=by
   refine⟨fun j=>if j=i then v else cv j,?_,fun j hj=>?_⟩
   ·have e1:(seqF (i+1) fun j=>[if j=i then v else cv j])=(seqF i fun j=>[cv j])++v.cells.toList:=by
     rw[seqF_succ,vo.2]
     congr 1
     ·exact seqF_congr fun j hj=>by rw[if_neg (by omega)]
     ·simp -implicitDefEqProofs
    rw[e1]; exact r6
   ·by_cases hji:j=i
    ·subst hji; simp only[if_true]; exact sl5.ext (@EvR.ext) (o6.ext ull)
    ·simp -implicitDefEqProofs only[if_neg hji]; exact ((asl j (by omega)).ext (@EvR.ext) (o5.ext (gg.app _).nil)).ext (@EvR.ext) (o6.ext ull)
  unfold qlHZ
  have c3':=b36.1
  have fin:∀ l:Bool,l=M.lostTo who (i+1)→MpI T h g p M who bv fv Kk V F v1 v3 (i+1) av' T6 (upd h6 v3 (.cells #[.int .i64 0,.slice none 0 0,.slice none 0 0,.bool l] qcZ (0,0))):=by
   intro l hl
   have o7:Only (fun t=>t=lc) T6 h6 T6 (upd h6 v3 (.cells #[.int .i64 0,.slice none 0 0,.slice none 0 0,.bool l] qcZ (0,0))):=Only.lst o6.wf b36
   obtain⟨cv',q1,q2⟩:=a6
   refine⟨oT6.own n3' b36.1,x6.kp o7.k gg.off ull,⟨cv',⟨q1.1.of_at fun b hb=>upd_ne (n6 b hb).2.2,q1.2⟩,fun j hj=>(q2 j hj).ext (@EvR.ext) (o7.ext ull)⟩,n6,⟨by rw[upd_ne ne13]; exact b16.1,b16.2⟩,⟨by rw[upd_same',hl],b36.2⟩⟩
  cases hlo:M.lostTo who i with
  | true =>
   rw[hlo] at c3'
   have:=fin true (by rw[lostTo_s,hlo]; rfl)
   simp -implicitDefEqProofs[s0,s1,s4,s5,s14,s15,s16,ld_at c3',cel_of c3',stm_at c3',stm_upd,ld_same,cel_same,over,hw1,-Int.natCast_add]
   exact⟨⟨i+1,⟨T6,this⟩,rfl,by omega⟩,by omega⟩
  | false =>
   rw[hlo] at c3'
   have:=fin ((M.fd i).lost who) (by rw[lostTo_s,hlo]; rfl)
   simp -implicitDefEqProofs[s0,s1,s4,s5,s14,s15,s16,ld_at c3',cel_of c3',stm_at c3',stm_upd,ld_same,cel_same,over,hw1,-Int.natCast_add]
   exact⟨⟨i+1,⟨T6,this⟩,rfl,by omega⟩,by omega⟩
 have hie:i=M.n:=by omega
 subst hie
 obtain⟨cv,ar,asl⟩:=I.a
 have hlen:(M.toldTo who M.n).length=M.n:=by simp[Tbl.toldTo]
 have hget:∀ j (hj:j<(M.toldTo who M.n).length),(M.toldTo who M.n)[j]=(M.fd j).told who:=fun j hj=>by simp[Tbl.toldTo]
 have t16:∀ j,j<M.n→((M.fd j).told who).length≤16:=fun j hj=>by
  unfold Feed.told
  split
  ·rename_i hcl
   have hw:who.toNat<8:=by simp[clientB] at hcl; omega
   exact ((hs.fd j hj).qs _ hw).2.2
  ·simp -implicitDefEqProofs
 have hsl:Sl 1 EvsR h4 av (M.toldTo who M.n):=by
  refine Row.sl' (F:=fun j=>[cv j]) (e:=qqZ) (fun j _=>rfl) (fun j hj=>⟨cv j,rfl,?_⟩) ?_
  ·rw[hget j hj]; exact (asl j (by omega)).ext (@EvR.ext) (fz_ext _ _)
  ·rw[hlen]; exact ar.1
 have hn16:∀ j,(nth (M.toldTo who M.n) j).length≤16:=fun j=>by
  unfold nth
  rw[List.getD_eq_getElem?_getD]
  by_cases hj:j<M.n
  ·rw[List.getElem?_eq_getElem (by omega),hget j (by omega)]; exact t16 j hj
  ·rw[List.getElem?_eq_none (by omega)]; simp
 have htot:∀ l:List (List Evt),(∀ x∈l,x.length≤16)→totE l≤16*l.length:=by
  intro l
  induction l with
  | nil=>intro _; simp[totE]
  | cons a l ih =>
   intro hh
   have h1:=ih fun x hx=>hh x (by simp[hx])
   have h2:=hh a (by simp)
   simp -implicitDefEqProofs[totE] at h1 ⊢; omega
 have ht:=htot (M.toldTo who M.n) fun l hl=>by
  obtain⟨j,hj,rfl⟩:=List.getElem_of_mem hl
  rw[hget j hj]; exact t16 j (by omega)
 unfold qlNZ
 simp -implicitDefEqProofs[hav]
 refine merge_ok _ I.o.wf hsl (by omega) (by omega) (fun j=>by have:=hn16 j; omega) fun ev h5 e5 s5'=>?_
 have o5:Only non T4 h4 T4 h5:=Only.of_ext I.o.wf e5
 have b1:=o5.see I.b1 (not_non _)
 have b3:=o5.see I.b3 (not_non _)
 have x5:=I.x.kp o5.k (Off.non _) (not_non _)
 have eo:=s5'.one
 have c3:=b3.1
 have c1:=b1.1
 have ull:¬ (fun t=>t=lc) ([]:Tag):=by simp[lc]
 obtain⟨h6,hh6⟩:∃ h6,h6=upd h5 v3 (.cells #[.int .i64 0,.slice none 0 0,ev,.bool (M.lostTo who M.n)] qcZ (0,0)):=⟨_,rfl⟩
 have o6:Only (fun t=>t=lc) T4 h5 T4 h6:=by rw[hh6]; exact Only.lst o5.wf b3
 have c36:h6 v3=some (.cells #[.int .i64 0,.slice none 0 0,ev,.bool (M.lostTo who M.n)] qcZ (0,0)):=by rw[hh6,upd_same']
 have b16:h6 v1=some (.cells #[.int .i64 0,.slice none 0 0,.slice none 0 0,.bool false] qcZ (0,0))∧T4 v1=lc:=⟨by rw[hh6,upd_ne ne13]; exact b1.1,b1.2⟩
 have oT6:Only (pre g) T h T4 h6:=by rw[hh6]; exact (I.o.up o5 non_up).own n3' b3.1
 have o7:Only (fun t=>t=lc) T4 h6 T4 (upd h6 v1 (.cells #[.int .i64 0,.slice none 0 0,ev,.bool (M.lostTo who M.n)] qcZ (0,0))):=Only.lst o6.wf b16
 have n1':h v1=none:=n1
 unfold qlMZ
 simp -implicitDefEqProofs[s4,s5]
 rw[stm_at (n:=1) (v:=ev) c3 (by simp[eo.2]) (by simp) (by simp[eo.1,eo.2])]
 have hov:over #[.int .i64 0,.slice none 0 0,.slice none 0 0,.bool (M.lostTo who M.n)] 2 ev.cells.toList=#[.int .i64 0,.slice none 0 0,ev,.bool (M.lostTo who M.n)]:=by rw[eo.2]; simp[over]
 rw[hov,← hh6]
 have hld:ldV (some (some 4)) (ptr v3) h6=some (.agg #[.int .i64 0,.slice none 0 0,ev,.bool (M.lostTo who M.n)]):=by simp[ld_at c36]
 simp -implicitDefEqProofs[hld]
 rw[stm_at (n:=4) b16.1 (by simp) (by simp) (by simp[eo.1])]
 have hov2:over #[.int .i64 0,.slice none 0 0,.slice none 0 0,.bool false] 0 (Value.agg #[.int .i64 0,.slice none 0 0,ev,.bool (M.lostTo who M.n)]).cells.toList=#[.int .i64 0,.slice none 0 0,ev,.bool (M.lostTo who M.n)]:=by simp[over]
 rw[hov2]
 simp -implicitDefEqProofs[s4,tgRep86,ld_same]
 have hP:M.poll who=(M.drainTo who M.n,⟨0,[],mergeE (M.toldTo who M.n),M.lostTo who M.n⟩):=rfl
 rw[hP] at hk
 refine kv (hk T4 _ (.slice none 0 0) ev (oT6.own n1' b16.1) ⟨bv,fv,Kk,V,F,(x5.kp o6.k gg.off ull).kp o7.k gg.off ull⟩ ⟨.inl ⟨rfl,_,_,rfl⟩,(s5'.ext (@EvR.ext) (o6.ext ull)).ext (@EvR.ext) (o7.ext ull)⟩) ?_
 simp -implicitDefEqProofs[rplC]
end Go.Proofs.YtcnphhhcknhhaaaGreat
namespace Go.Proofs.YtcnphhhcknhhaaaGreat
open Go Go.Den Go.MapKept
set_option linter.unusedSimpArgs false
set_option linter.unusedVariables false
set_option maxRecDepth 20000
theorem wo_only {T:Tags}{h h':Heap}{b:Nat}{o:Obj}(w:Wf T h)(e:Ext (wo h [b]) h')(hb:h' b=some o)(ht:T b=lc):Only (fun t=>t=lc) T h T h':=by
 have kk:∀ k z,h k=some z→k≠b→h' k=some z:=fun k z hk hne=>e k z (by rw[wo_out (by simpa using hne)]; exact hk)
 refine⟨fun k hk=>?_,fun _ _ _=>rfl,fun k z hk=>?_,fun k z hk n=>kk k z hk fun hh=>n (by subst hh; exact ht)⟩
 ·cases hh:h k with
  | none=>exact w k hh
  | some z =>
   by_cases hkb:k=b
   ·subst hkb; rw[hb] at hk; cases hk
   ·rw[kk k z hh hkb] at hk; cases hk
 ·by_cases hkb:k=b
  ·subst hkb; exact⟨o,hb⟩
  ·exact⟨z,kk k z hk hkb⟩
def MqJ (h3:Heap)(M:Tbl)(us:List ByteArray)(vb:Nat)(i:Nat)(h':Heap):Prop :=
 ∃ vv,Ext (wo h3 [vb]) h'∧h' vb=some (.cells #[.int .i64 0,vv,.slice none 0 0,.bool false] qcZ (0,0))∧Row 3 qnZ h' vv i (((us.take i).map M.pres).flatMap presC)∧∀ b,rowOf vv=some b→h3 b=none∧b≠vb
variable {K:KTy}
set_option maxHeartbeats 2000000 in
theorem mdo_ok (who:Int)(o:OpD)(ow:OpW o)(hl:o.users.length<1000000){T:Tags}{h:Heap}{uv:Value}(hu:Sl 1 StrR (fz T h) uv o.users){g:Tag}{p m:Nat}{M:Tbl}(w:Wf T h)(gg:Gd g)(x:MdR T h g p M)(hs:TS m M)(hm:m<100000)
  (hk:∀ T' h' vv ev,Only (pre g) T h T' h'→MdR T' h' g p (M.do_ who o).1→RpX (fz T' h') (M.do_ who o).2 vv ev→K (.agg (rplC (M.do_ who o).2 vv ev).toArray) h'):callM P qdMZ #[ptr p,.int .i64 who,.agg (opC o uv).toArray] h K:=by
 apply qusZ
 unfold qkhZ
 have n8:=ts_n8 hs
 have nn:=hs.nn
 refine nw_agg fun v1 h0 n0 e0 c0=>?_
 have w0:=w.ext e0
 rw[zcRep]
 refine nw_tag w0 lc fun v3 T1 h1 n1 o1 t3 c3=>?_
 have o01:Only non T h T1 h1:=(Only.of_ext (U:=non) w e0).trans o1
 have b0:h0 v1=_∧T v1=[]:=⟨c0,w v1 n0⟩
 have b0:=o1.see b0 (not_non _)
 have b3:h1 v3=_∧T1 v3=lc:=⟨c3,t3⟩
 have x1:=x.up o01 (Off.non _) (not_non _)
 have n3:h v3=none:=by
  cases hh:h v3 with
  | none=>rfl
  | some ob=>rw[e0 _ _ hh] at n1; cases n1
 have oa:∀ h',h' v1=some (.cells (opC o uv).toArray qEZ (0,0))→ldV (some (some 7)) (ptr v1) h'=some (.agg (opC o uv).toArray):=fun h' hc=>by simp[ld_at hc,opC]
 have ok:∀ h',h' v1=some (.cells (opC o uv).toArray qEZ (0,0))→cel h' v1 0=some (.int .i64 o.kind):=fun h' hc=>by simp[cel_of hc,opC]
 have okU:∀ h',h' v1=some (.cells (opC o uv).toArray qEZ (0,0))→cel h' v1 1=some (.string o.user):=fun h' hc=>by simp[cel_of hc,opC]
 simp -implicitDefEqProofs only[oa _ b0.1,ov_s]
 refine modBad_ok o ow (hu.ext (@StrR.ext) ((o01.ext (not_non _)).trans (fz_ext _ _))) hl fun h2 e2=>?_
 have o2:Only non T1 h1 T1 h2:=Only.of_ext o1.wf e2
 have o02:Only non T h T1 h2:=o01.trans o2
 have b0:=o2.see b0 (not_non _)
 have b3:=o2.see b3 (not_non _)
 have x2:=x1.up o2 (Off.non _) (not_non _)
 have c3':=b3.1
 have ull:¬ (fun t=>t=lc) ([]:Tag):=by simp[lc]
 have err1:M.do_ who o=(M,repE 1)→K (.agg #[.int .i64 1,.slice none 0 0,.slice none 0 0,.bool false]) (upd h2 v3 (.cells #[.int .i64 1,.slice none 0 0,.slice none 0 0,.bool false] qcZ (0,0))):=fun e=>by
  rw[e] at hk
  exact hk T1 _ (.slice none 0 0) (.slice none 0 0) ((o02.mono non_up).own n3 b3.1) (x2.kp (Only.lst o2.wf b3).k gg.off ull) (RpX.no _ rfl rfl)
 unfold qoIZ
 cases hb:badB o with
 | true =>
  have e:M.do_ who o=(M,repE 1):=by simp[Tbl.do_,hb]
  simp -implicitDefEqProofs
  unfold qiyZ
  rw[bdRepE]
  simp -implicitDefEqProofs[ld_at c3',cel_of c3',stm_at c3',stm_upd,ld_same,cel_same,over]
  exact err1 e
 | false =>
 simp -implicitDefEqProofs
 refine within_ok _ _ _ ?_
 by_cases hw':(0:Int)≤who∧(who:Int)≤7
 rotate_left
 ·have e:M.do_ who o=(M,repE 1):=by
   have:clientB who=false:=by simp[clientB]; omega
   simp -implicitDefEqProofs[Tbl.do_,this]
  simp -implicitDefEqProofs[hw']
  unfold qiyZ
  rw[bdRepE]
  simp -implicitDefEqProofs[ld_at c3',cel_of c3',stm_at c3',stm_upd,ld_same,cel_same,over]
  exact err1 e
 have hcl:clientB who=true:=by simp[clientB]; omega
 simp -implicitDefEqProofs[hw']
 unfold qoHZ
 rw[seqM_eq]
 have fin:∀ (T':Tags) (h':Heap) (vv ev:Value) (s':Env),Only (pre g) T h T' h'→MdR T' h' g p (M.do_ who o).1→RpX (fz T' h') (M.do_ who o).2 vv ev→s' 6=ptr v3→h' v3=some (.cells (rplC (M.do_ who o).2 vv ev).toArray qcZ (0,0))→(retM P [.cell 6 86] K) .ret [] s' h':=by
  intro T' h' vv ev s' o' x' r' s6 c'
  simp -implicitDefEqProofs only[rplC] at c'
  simp -implicitDefEqProofs[s6,ld_at c',cel_of c',stm_at c',stm_upd,ld_same,cel_same,over,tgRep86]
  exact kv (hk T' h' vv ev o' x' r') (by simp[rplC])
 -- a reply is stored,and answered
 have rep:∀ (T':Tags) (h':Heap) (vv ev:Value) (C:Array Value),Only (pre g) T h T' h'→MdR T' h' g p (M.do_ who o).1→RpX (fz T' h') (M.do_ who o).2 vv ev→(∃ c,c.size=4∧h' v3=some (.cells c qcZ (0,0)))→T' v3=lc→C=(rplC (M.do_ who o).2 vv ev).toArray →
   stM (some 4) (ptr v3) (.agg C) h' fun h''=>ov (ldV (tagg P 86) (ptr v3) h'') fun v=>K v h'':=by
  intro T' h' vv ev C o' x' r' ⟨c,hc4,hc⟩ ht hC
  subst hC
  have vo:=r'.v.one
  have eo:=r'.e.one
  rw[stm_at (n:=4) hc (by simp[rplC]) (by omega) (by simp[rplC,vo.1,eo.1])]
  have hov:over c 0 (Value.agg (rplC (M.do_ who o).2 vv ev).toArray).cells.toList=(rplC (M.do_ who o).2 vv ev).toArray:=by
   rcases c with ⟨l⟩
   match l,hc4 with
   | [a1,a2,a3,a4],_=>simp[over,rplC]
  rw[hov]
  have ol:=Only.lst (o':=.cells (rplC (M.do_ who o).2 vv ev).toArray qcZ (0,0)) o'.wf ⟨hc,ht⟩
  have:=fin T' _ vv ev (fun _=>ptr v3) (o'.own n3 hc) (x'.kp ol.k gg.off ull) (r'.ext (ol.ext ull)) rfl (upd_same' _ _ _)
  simpa using this
 have rep0':∀ (T':Tags) (h':Heap),h' v3=some (.cells #[.int .i64 0,.slice none 0 0,.slice none 0 0,.bool false] qcZ (0,0))→∃ c,c.size=4∧h' v3=some (.cells c qcZ (0,0)):=fun _ h' hc=>⟨_,rfl,hc⟩
 have hlcg:¬ pre g lc:=fun hh=>gg.off lc hh rfl
 -- behind the kinds that write,and Poll
 have rest:∀ (s:Env),s 0=ptr p→s 1 = .int .i64 who→s 5=ptr v1→s 6=ptr v3→¬ (o.kind=1∨o.kind=2∨o.kind=3)→o.kind≠8→qeGZ s h2 K []:=by
  intro s s0 s1 s5 s6 hnw h8
  obtain⟨bv,fv,Kk,V,F,y⟩:=x2
  have cp:=y.hp
  simp -implicitDefEqProofs only[mdC] at cp
  unfold qeGZ
  simp -implicitDefEqProofs[s0,ld_at cp,cel_of cp,stm_at cp,stm_upd,ld_same,cel_same,over]
  cases hclo:M.t.closed with
  | true =>
   have e:M.do_ who o=(M,repE 5):=by simp[Tbl.do_,hb,hcl,hnw,h8,hclo]
   simp -implicitDefEqProofs
   unfold qmHZ
   rw[bdRepE]
   simp -implicitDefEqProofs[s6]
   exact rep T1 h2 (.slice none 0 0) (.slice none 0 0) _ (o02.mono non_up) (by rw[e]; exact⟨bv,fv,Kk,V,F,y⟩) (by rw[e]; exact RpX.no _ rfl rfl) (rep0' T1 _ b3.1) b3.2 (by rw[e]; rfl)
  | false =>
   simp -implicitDefEqProofs
   unfold qmXZ
   rw[zcRep]
   refine nw_tag o02.wf lc fun v50 T3 h3 n50 o3 t50 c50=>?_
   have n50':h v50=none:=by
    cases hh:h v50 with
    | none=>rfl
    | some ob=>obtain⟨o',ho'⟩:=o02.al _ _ hh; rw[n50] at ho'; cases ho'
   have ne50:v3≠v50:=ne_fresh b3.1 n50
   have b0:=o3.see b0 (not_non _)
   have b3:=o3.see b3 (not_non _)
   have b50:h3 v50=_∧T3 v50=lc:=⟨c50,t50⟩
   have y3:=y.kp o3.k (Off.non _) (not_non _)
   have cp:=y3.hp
   simp -implicitDefEqProofs only[mdC] at cp
   have oT3:Only (pre g) T h T3 h3:=(o02.trans o3).mono non_up
   rw[seqM_eq]
   unfold qmWZ
   simp -implicitDefEqProofs[s5,ok _ b0.1]
   refine⟨fun h6=>?_,fun h6=>?_⟩
   ·have e:M.do_ who o=M.watch who o.user:=by simp[Tbl.do_,hb,hcl,hnw,h8,hclo,h6]
    unfold qmJZ
    simp -implicitDefEqProofs[s0,s1,s5,okU _ b0.1]
    refine mwatch_ok who o.user ow.s1 o3.wf gg ⟨bv,fv,Kk,V,F,y3⟩ hs hm fun T4 h4 o4 x4=>?_
    have b34:=o4.see b3 hlcg
    have b54:=o4.see b50 hlcg
    have c54:=b54.1
    unfold qmIZ
    simp -implicitDefEqProofs[ld_at c54,cel_of c54,stm_at c54,stm_upd,ld_same,cel_same,over,s6]
    have hr:(M.watch who o.user).2=repE (M.watch who o.user).2.err:=by unfold Tbl.watch; split<;>rfl
    have ol:=Only.lst (o':=.cells #[.int .i64 (M.watch who o.user).2.err,.slice none 0 0,.slice none 0 0,.bool false] qcZ (0,0)) o4.wf b54
    have hc:(rplC (M.do_ who o).2 (.slice none 0 0) (.slice none 0 0)).toArray=#[.int .i64 (M.watch who o.user).2.err,.slice none 0 0,.slice none 0 0,.bool false]:=by rw[e,hr]; rfl
    exact rep T4 _ (.slice none 0 0) (.slice none 0 0) _ ((oT3.trans o4).own n50' b54.1) (by rw[e]; exact x4.kp ol.k gg.off ull) (by rw[e,hr]; exact RpX.no _ rfl rfl) ⟨_,rfl,by rw[upd_ne ne50]; exact b34.1⟩ b34.2 hc.symm
   unfold qmVZ
   simp -implicitDefEqProofs
   refine⟨fun h7=>?_,fun h7=>?_⟩
   ·have e:M.do_ who o=(M.fed (M.stripe o.user) ((M.fd (M.stripe o.user)).unwatch who o.user),rep0):=by simp[Tbl.do_,hb,hcl,hnw,h8,hclo,h6,h7]
    have hst:=stripeOf_lt (u:=o.user) (n:=M.c.stripes) (by omega)
    obtain⟨su,hsu⟩:∃ su:Nat,stripeOf o.user M.c.stripes=su:=⟨(stripeOf o.user M.c.stripes).toNat,by omega⟩
    have hsn:su<M.n:=by omega
    have hms:M.stripe o.user=su:=by unfold Tbl.stripe; rw[hsu]; simp
    rw[hms] at e
    obtain⟨fb,ia,ld⟩:=y3.ldf hsn
    unfold qmMZ
    simp -implicitDefEqProofs[s0,s1,s5,okU _ b0.1,ld_at cp,cel_of cp,stm_at cp,stm_upd,ld_same,cel_same,over]
    refine mstripe_ok o.user ow.s1 ⟨bv,fv,Kk,V,F,y3⟩ (by omega) ?_
    rw[hsu]
    unfold qmLZ
    simp -implicitDefEqProofs[s0,s1,s5,okU _ b0.1,ld_at cp,cel_of cp,stm_at cp,stm_upd,ld_same,cel_same,over,ia,ld]
    refine funwatch_ok who o.user ow.s1 o3.wf (gg.app _) (y3.fr su hsn) ((hs.fd su hsn).g hm) (by have:=(hs.fd su hsn).len; omega) fun T4 h4 o4 x4=>?_
    have hlc4:¬ pre (g++[3,su]) lc:=fun hh=>hlcg (pre_trans hh)
    have b34:=o4.see b3 hlc4
    have b54:=o4.see b50 hlc4
    have c54:=b54.1
    unfold qmKZ
    simp -implicitDefEqProofs[ld_at c54,cel_of c54,stm_at c54,stm_upd,ld_same,cel_same,over,s6]
    exact rep T4 h4 (.slice none 0 0) (.slice none 0 0) _ (oT3.trans (o4.mono fun t=>pre_trans)) (by rw[e]; exact⟨bv,fv,Kk,V,F,y3.fed o4 gg x4⟩) (by rw[e]; exact RpX.no _ rfl rfl) (rep0' T4 _ b34.1) b34.2 (by rw[e]; rfl)
   unfold qmUZ
   simp -implicitDefEqProofs
   refine⟨fun h9=>?_,fun h9=>?_⟩
   ·have e:M.do_ who o=({ M with t:={ M.t with closed:=true } },rep0):=by simp[Tbl.do_,hb,hcl,hnw,h8,hclo,h6,h7,h9]
    unfold qmOZ
    have htm:ldV (some (some 3)) (.pointer (some ⟨p,7,none⟩)) h3=some (.agg (tmC M.t).toArray):=by simp[ld_at cp,tmC]
    simp -implicitDefEqProofs[s0,htm]
    refine tickShut_ok M.t fun h4 e4=>?_
    have o4:Only non T3 h3 T3 h4:=Only.of_ext o3.wf e4
    have y4:=y3.kp o4.k (Off.non _) (not_non _)
    have b34:=o4.see b3 (not_non _)
    have b54:=o4.see b50 (not_non _)
    have cp:=y4.hp
    obtain⟨o5,y5⟩:=y4.st (M':={ M with t:={ M.t with closed:=true } }) o4.wf gg (c:=_) rfl rfl rfl rfl
    simp -implicitDefEqProofs only[mdC] at cp o5 y5
    have b35:=o5.see b34 (by simp[lc]; obtain⟨k,r,rfl⟩:=gg; simp)
    have b55:=o5.see b54 (by simp[lc]; obtain⟨k,r,rfl⟩:=gg; simp)
    have c55:=b55.1
    unfold qmNZ
    simp -implicitDefEqProofs only[tmC]
    simp -implicitDefEqProofs[s0,ld_at cp,cel_of cp,stm_at cp,ld_at c55,cel_of c55,stm_at c55,stm_upd,ld_same,cel_same,over,s6]
    refine rep T3 _ (.slice none 0 0) (.slice none 0 0) _ ((oT3.up o4 non_up).trans (o5.mono fun _=>eq_pre)) (by rw[e]; exact⟨bv,fv,Kk,V,F,y5⟩) (by rw[e]; exact RpX.no _ rfl rfl) (rep0' T3 _ b35.1) b35.2 (by rw[e]; rfl)
   have e:M.do_ who o=(M,⟨0,(usersOf o).map M.pres,[],false⟩):=by simp[Tbl.do_,hb,hcl,hnw,h8,hclo,h6,h7,h9]
   unfold qmTZ
   simp -implicitDefEqProofs[s5,oa _ b0.1]
   have hu3:Sl 1 StrR (fz T3 h3) uv o.users:=hu.ext (@StrR.ext) (oT3.ext gg.nil)
   refine users_ok o ow o3.wf (hu3.ext (@StrR.ext) (fz_ext _ _)) hl fun us h4 e4 hus=>?_
   have o4:Only non T3 h3 T3 h4:=Only.of_ext o3.wf e4
   have y4:=y3.kp o4.k (Off.non _) (not_non _)
   have b34:=o4.see b3 (not_non _)
   have b54:=o4.see b50 (not_non _)
   have ulen:=hus.len
   have ule:(usersOf o).length<1000000:=by
    unfold usersOf
    split
    ·simp -implicitDefEqProofs
    ·split
     ·exact hl
     ·simp -implicitDefEqProofs
   unfold qmSZ
   simp -implicitDefEqProofs only[ulen,ov_s]
   have J0:MqJ h4 M (usersOf o) v50 0 h4:=⟨.slice none 0 0,fun q z hq=>(wo_get hq).2,b54.1,by simpa using (Rf.nil (sz:=3) (e:=qnZ) (Ext.refl h4)).row,fun b hb=>by simp[rowOf] at hb⟩
   refine loop_on [0,6,7,41,42] (fun s' h'=>∃ i:Nat,MqJ h4 M (usersOf o) v50 i h'∧s' 43 = .int .i64 i∧i≤(usersOf o).length) (fun s' _=>((usersOf o).length-num (s' 43)).toNat) ⟨0,J0,rfl,by omega⟩ ?_
   rintro r h5 hf5 ⟨i,⟨vv,J1,J2,J3,J4⟩,r43,hi⟩
   have r0:r 0=ptr p:=by simpa [s0] using hf5 0 (by simp)
   have r6:r 6=ptr v3:=by simpa [s6] using hf5 6 (by simp)
   have r7:r 7=ptr v50:=by simpa using hf5 7 (by simp)
   have r41:r 41=us:=by simpa using hf5 41 (by simp)
   have r42:r 42 = .int .i64 (usersOf o).length:=by simpa using hf5 42 (by simp)
   have o5:=wo_only o4.wf J1 J2 b54.2
   have y5:=y4.kp o5.k gg.off ull
   unfold qmRZ
   simp -implicitDefEqProofs[r42,r43]
   refine⟨fun hc=>?_,fun hc=>?_⟩
   ·have hlt:i<(usersOf o).length:=by omega
    have hw1:IntKind.i64.wrap ((i:Int)+1)=(i+1:Nat):=by rw[wrap64_id (by omega) (by omega)]; omega
    obtain⟨ub,uo,ui,ul⟩:=str_at hus hlt (k:=.i64)
    have ul5:=ul _ ((o5.ext ull).trans (fz_ext _ _))
    have hsz:=str_sizes hus _ (List.getElem_mem hlt)
    unfold qmQZ
    simp -implicitDefEqProofs[r0,r7,r41,r43,ui,ul5,ld_at J2,cel_of J2,stm_at J2,stm_upd,ld_same,cel_same,over]
    refine mpres_ok _ hsz o5.wf ⟨bv,fv,Kk,V,F,y5⟩ hs hm fun h6 e6=>?_
    have J2:=e6 _ _ J2
    have J3:=J3.ext e6
    unfold qmPZ
    simp -implicitDefEqProofs[ld_at J2,cel_of J2,stm_at J2,stm_upd,ld_same,cel_same,over]
    refine bs_one bsPres (by simp[presC]) (by omega) fun pb h7 n7 e7 c7=>?_
    have J2:=e7 _ _ J2
    have J3:=J3.ext e7
    simp -implicitDefEqProofs[ld_at J2,cel_of J2,stm_at J2,stm_upd,ld_same,cel_same,over]
    refine app_intro unSlPres apPres (by omega) J3 (cels_one c7 (by simp[presC])) (by simp[presC]) (by unfold maxLen; omega) (by omega) fun vv2 h8 r8 k8 ha=>?_
    have J2':h8 v50=_:=k8 _ _ J2 fun hh=>(J4 v50 hh.symm).2 rfl
    have ho:=r8.one
    have n8':∀ b,rowOf vv2=some b→h4 b=none∧b≠v50:=fun b hb=>by
     rcases ha with ha | ⟨j,ha,hj⟩
     ·exact J4 b (by rw[← ha]; exact hb)
     ·rw[ha] at hb; cases hb
      have hne:b≠v50:=fun hh=>by subst hh; rw[J2] at hj; cases hj
      refine⟨?_,hne⟩
      cases hh:h4 b with
      | none=>rfl
      | some z =>
       have:=e7 _ _ (e6 _ _ (J1 b z (by rw[wo_out (by simpa using hne)]; exact hh)))
       rw[this] at hj; cases hj
    simp -implicitDefEqProofs[s0,s6,r0,r6,r7,r41,r42,r43,ld_at J2',cel_of J2',stm_at J2',stm_upd,ld_same,cel_same,over,ho.1,ho.2,hw1,-Int.natCast_add]
    refine⟨⟨i+1,⟨vv2,wo_upd (fun q z hq=>?_) (by simp),upd_same' _ _ _,?_,n8'⟩,rfl,by omega⟩,by omega⟩
    ·have hq4:=wo_get hq
     exact k8 q z (e7 _ _ (e6 _ _ (J1 q z hq))) fun hh=>by rw[(J4 q hh.symm).1] at hq4; cases hq4.2
    ·rw[List.take_succ_eq_append_getElem hlt,List.map_append,List.flatMap_append]
     refine Row.of_at ?_ fun b hb=>upd_ne (n8' b hb).2
     simpa using r8
   have hie:i=(usersOf o).length:=by omega
   subst hie
   rw[List.take_of_length_le (Nat.le_refl _)] at J3
   have b35:h5 v3=_∧T3 v3=lc:=⟨J1 v3 _ (by rw[wo_out (by simpa using ne50)]; exact b34.1),b34.2⟩
   have vo:=J3.one
   simp -implicitDefEqProofs[r6,r7,ld_at J2,cel_of J2,stm_at J2,stm_upd,ld_same,cel_same,over,vo.1]
   refine rep T3 h5 vv (.slice none 0 0) _ ?_ (by rw[e]; exact⟨bv,fv,Kk,V,F,y5⟩) ?_ (rep0' T3 _ b35.1) b35.2 (by rw[e]; rfl)
   ·refine Only.keepk (r:=some v50) (oT3.up o4 non_up) o5 (fun b z hz hne=>J1 b z (by rw[wo_out (by simpa using fun hh=>hne (by rw[hh]))]; exact hz)) fun b hb=>by cases hb; exact n50'
   ·rw[e]
    refine⟨?_,.inl ⟨rfl,_,_,rfl⟩⟩
    have hl2:(usersOf o).length=((usersOf o).map M.pres).length:=by simp
    have J3':Row 3 qnZ (fz T3 h5) vv (usersOf o).length (((usersOf o).map M.pres).flatMap presC):=J3.of_at fun b hb=>by simp[fz,o4.wf b (J4 b hb).1]
    rw[hl2] at J3'
    exact Row.slE (enc:=presC) (R:=PresR) (fun _=>rfl) (fun _=>rfl) J3'
 unfold qoGZ
 simp -implicitDefEqProofs[ok _ b0.1]
 rw[seqM_eq]
 -- behind the kinds
 have ten:∀ (s:Env) (q:Bool),s 0=ptr p→s 1 = .int .i64 who→s 5=ptr v1→s 6=ptr v3→s 19 = .int .i64 o.kind→s 20 = .bool (decide (o.kind=1∨o.kind=2∨o.kind=3)) →
   qhBZ s h2 (thenM (fun m s25 h26=>qeGZ s25 h26 K m) (retM P [.cell 6 86] K)) []:=by
  intro s q s0 s1 s5 s6 s19 s20
  unfold qhBZ
  by_cases hnw:o.kind=1∨o.kind=2∨o.kind=3
  ·have e:M.do_ who o=M.write o:=by simp[Tbl.do_,hb,hcl,hnw]
   simp -implicitDefEqProofs[s20,hnw]
   unfold qmEZ
   simp -implicitDefEqProofs only[s0,s5,oa _ b0.1,ov_s]
   refine mwrite_ok o ow hu.one o2.wf gg x2 hs hm fun T4 h4 o4 x4=>?_
   have b34:=o4.see b3 hlcg
   have hr:(M.write o).2=repE (M.write o).2.err:=by unfold Tbl.write; split<;>rfl
   simp -implicitDefEqProofs[s6,repC]
   exact rep T4 h4 (.slice none 0 0) (.slice none 0 0) _ ((o02.mono non_up).trans o4) (by rw[e]; exact x4) (by rw[e,hr]; exact RpX.no _ rfl rfl) (rep0' T4 _ b34.1) b34.2 (by rw[e,hr]; rfl)
  ·simp -implicitDefEqProofs[s20,hnw]
   unfold qmGZ
   simp -implicitDefEqProofs[s19]
   refine⟨fun h8=>?_,fun h8=>?_⟩
   ·have e:M.do_ who o=M.poll who:=by simp[Tbl.do_,hb,hcl,hnw,h8]
    unfold qmFZ
    simp -implicitDefEqProofs only[s0,s1]
    refine mpoll_ok who o2.wf gg x2 hs hm fun T4 h4 vv ev o4 x4 r4=>?_
    have b34:=o4.see b3 hlcg
    simp -implicitDefEqProofs[s6]
    exact rep T4 h4 vv ev _ ((o02.mono non_up).trans o4) (by rw[e]; exact x4) (by rw[e]; exact r4) (rep0' T4 _ b34.1) b34.2 (by rw[e])
   ·exact rest _ (by simp[s0]) (by simp[s1]) (by simp[s5]) (by simp[s6]) hnw h8
 unfold qoFZ
 by_cases hk1:o.kind=1
 ·simp -implicitDefEqProofs[hk1]
  unfold qoBZ
  simp -implicitDefEqProofs
  exact ten _ true (by simp) (by simp) (by simp) (by simp) (by simp[hk1]) (by simp[hk1])
 ·simp -implicitDefEqProofs[hk1]
  unfold qoEZ
  by_cases hk2:o.kind=2
  ·simp -implicitDefEqProofs[hk2]
   unfold qoCZ
   simp -implicitDefEqProofs
   exact ten _ true (by simp) (by simp) (by simp) (by simp) (by simp[hk2]) (by simp[hk2])
  ·simp -implicitDefEqProofs[hk2]
   unfold qoDZ
   simp -implicitDefEqProofs
   exact ten _ true (by simp) (by simp) (by simp) (by simp) (by simp) (by simp[hk1,hk2])
end Go.Proofs.YtcnphhhcknhhaaaGreat
namespace Go.Proofs.YtcnphhhcknhhaaaGreat
open Go Go.Den
set_option maxRecDepth 100000
set_option linter.unusedVariables false
set_option maxHeartbeats 40000000
def qgGZ (a:Post)(m:List Nat)(b:Env)(c d e f g h i j k l n o p q r s t u v w x y z aa ab ac ad ae af ag:Value)(ah:Heap):Prop:=a .normal m (puts b [(67,(b 11)),(68,c),(69,d),(70,e),(71,f),(74,(b 11)),(75,g),(76,h),(77,i),(78,j),(79,j),(80,k),(81,l),(82,n),(83,o),(84,p),(85,q),(86,r),(87,s),(88,(b 3)),(89,t),(90,u),(91,(b 11)),(92,v),(93,w),(94,x),(95,y),(96,z),(97,(b 5)),(98,aa),(99,ab),(100,(b 11)),(101,ac),(102,ad),(103,ae),(104,af),(105,ag)]) ah
def qgHZ (a:Env)(b:Heap)(c:Post)(m:List Nat)(d e f g h i j k l n o p q r s t u v w x y z aa:Value):Prop:=ov (faV (some 10) (a 1)) fun ab=>ov (ldV (some none) ab b) fun ac=>ov (iaV (some (none,1)) ac (a 11)) fun ad=>ov (ldV (some none) ad b) fun ae=>ov (cvV (some .u64) ae) fun af=>ov (binV BinOp.quo 2 true af (Value.int IntKind.u64 8)) fun ag=>callM P qeBZ #[(a 5),ag] b fun ah ai=>qgGZ c m a d e f g h i j k l n o p q r s t u v w x y z aa ab ac ad ae af ag ah ai
def qgIZ (a:Env)(b:Heap)(c:Post)(m:List Nat)(d e f g h i j k l n o p q r s t:Value):Prop:=ov (faV (some 10) (a 1)) fun u=>ov (ldV (some none) u b) fun v=>ov (iaV (some (none,1)) v (a 11)) fun w=>ov (ldV (some none) w b) fun x=>ov (cvV (some .u64) x) fun y=>ov (binV BinOp.quo 2 true y (Value.int IntKind.u64 8)) fun z=>callM P qfSZ #[(a 3),(Value.int IntKind.i64 9),z] b fun aa ab=>qgHZ a ab c m d e f g h i j k l n o p q r s t u v w x y z aa
def qdFZ (a:Post)(m:List Nat)(b:Env)(c d e f g h i j k l n o p q r s:Value)(t:Heap):Prop:=a .normal m (puts b [(67,(b 11)),(68,c),(69,d),(70,e),(71,f),(74,(b 11)),(75,g),(76,h),(77,i),(78,j),(79,j),(80,k),(81,l),(82,n),(83,o),(84,p),(85,q),(86,r),(87,s)]) t
def qgJZ (a:Env)(b:Heap)(c:Post)(m:List Nat)(d e f g:Value):Prop:=ov (faV (some 10) (a 1)) fun h=>ov (ldV (some none) h b) fun i=>ov (lnV 7 i) fun j=>ov (binV BinOp.lss 2 false (a 11) j) fun k=>gM (isB k true) (fun l=>ov (faV (some 10) (a 1)) fun n=>l n b) b fun o p=>gM (isB k true) (fun q=>ov (ldV (some none) o p) fun r=>q r p) p fun s t=>gM (isB k true) (fun u=>u (a 11) t) t fun v w=>gM (isB k true) (fun x=>ov (iaV (some (none,1)) s v) fun y=>x y w) w fun z aa=>gM (isB k true) (fun ab=>ov (ldV (some none) z aa) fun ac=>ab ac aa) aa fun ad ae=>gM (isB k true) (fun af=>ov (binV BinOp.rem 2 true ad (Value.int IntKind.u8 8)) fun ag=>af ag ae) ae fun ah ai=>gM (isB k true) (fun aj=>ov (binV BinOp.eql 2 true ah (Value.int IntKind.u8 0)) fun ak=>aj ak ai) ai fun al am=>ov (pkV k al (Value.bool false)) fun an=>cdM an (qgIZ a am c m d e f g h i j k o s v z ad ah al an) (qdFZ c m a d e f g h i j k o s v z ad ah al an am)
def qgKZ (a:Env)(b c:Value)(d:Heap)(e:Post)(m:List Nat)(f g h i j k l n o p q r s t u v w x y z aa ab ac:Value):Prop:=ov (iaV (some (none,1)) (a 8) b) fun ad=>stM (some 1) ad c d fun ae=>e .normal m (puts a [(106,f),(107,g),(108,(a 11)),(109,h),(110,i),(111,j),(112,(a 7)),(113,b),(12,b),(114,b),(115,k),(116,l),(117,n),(118,o),(119,(a 8)),(120,b),(121,p),(122,q),(123,r),(124,r),(125,s),(126,t),(127,u),(128,v),(129,w),(130,x),(131,(a 8)),(132,b),(133,(a 3)),(134,b),(135,y),(136,z),(137,b),(138,aa),(139,ab),(140,ac),(141,c),(142,ad)]) ae
def qgLZ (a:Env)(b c:Value)(d:Heap)(e:Post)(m:List Nat)(f g h i j k l n o p q r s t u v w x y z aa ab:Value):Prop:=callM P qihZ #[(a 3),b,c] d fun ac ad=>qgKZ a b ac ad e m f g h i j k l n o p q r s t u v w x y z aa ab c
def qdGZ (a:Env)(b:Heap)(c:Value)(d:Post)(m:List Nat)(e f g h i j k l n o p q r s t u v w:Value):Prop:=ov (faV (some 7) (a 1)) fun x=>ov (ldV (some none) x b) fun y=>ov (iaV (some (none,7)) y c) fun z=>ov (ldV (some (some 7)) z b) fun aa=>callM P qcuZ #[aa] b fun ab ac=>qgLZ a c ab ac d m e f g h i j k l n o p q r s t u v w x y z aa
def qgMZ (a:Post)(m:List Nat)(b:Env)(c d e f g h i j k l n o p q r s t u v:Value)(w:Heap):Prop:=a .normal m (puts b [(106,c),(107,d),(108,(b 11)),(109,e),(110,f),(111,g),(112,(b 7)),(113,h),(12,h),(114,h),(115,i),(116,j),(117,k),(118,l),(119,(b 8)),(120,h),(121,n),(122,o),(123,p),(124,p),(125,q),(126,r),(127,s),(128,t),(129,u),(130,v)]) w
def qgNZ (a:Env)(b:Value)(c:Heap)(d:Post)(m:List Nat)(e f g h i j k l n:Value):Prop:=ov (iaV (some (none,1)) (a 8) b) fun o=>ov (ldV (some none) o c) fun p=>ov (binV BinOp.eql 4 true p (Value.pointer none)) fun q=>gM (isB q false) (fun r=>r (a 8) c) c fun s t=>gM (isB q false) (fun u=>u b t) t fun v w=>gM (isB q false) (fun x=>ov (iaV (some (none,1)) s v) fun y=>x y w) w fun z aa=>gM (isB q false) (fun ab=>ov (ldV (some none) z aa) fun ac=>ab ac aa) aa fun ad ae=>gM (isB q false) (fun af=>callM P qfqZ #[ad] ae fun ag ah=>af ag ah) ae fun ai aj=>ov (pkV q (Value.bool true) ai) fun ak=>cdM ak (qdGZ a aj b d m e f g h i j k l n o p q s v z ad ai ak) (qgMZ d m a e f g h i b j k l n o p q s v z ad ai ak aj)
def qgOZ (a:Post)(m:List Nat)(b:Env)(c d e f g h i j k l n o p q r s t u v w x:Value)(y:Heap):Prop:=a .normal m (puts b [(143,(b 8)),(144,(b 12)),(145,c),(146,d),(147,e),(13,e),(148,(b 8)),(149,(b 12)),(150,f),(151,g),(152,(b 3)),(153,(b 11)),(154,h),(155,e),(156,i),(157,i),(158,j),(159,k),(160,l),(161,n),(162,o),(163,p),(164,q),(165,r),(166,(b 5)),(167,(b 12)),(168,s),(169,t),(170,(b 12)),(171,u),(172,v),(173,w),(174,x)]) y
def qgPZ (a:Env)(b:Value)(c:Heap)(d:Post)(m:List Nat)(e f g h i j k l n o p q r s t u v w x:Value):Prop:=callM P qdMZ #[(a 5),(a 12),b] c fun y z=>qgOZ d m a e f g h i j k l n o p q r s t u v w x b y z
def qgQZ (a:Env)(b:Heap)(c:Post)(m:List Nat)(d e f g h i j k l n o p q r s:Value):Prop:=ov (faV (some 7) (a 1)) fun t=>ov (ldV (some none) t b) fun u=>ov (iaV (some (none,7)) u (a 12)) fun v=>ov (ldV (some (some 7)) v b) fun w=>callM P qcuZ #[w] b fun x y=>qgPZ a x y c m d e f g h i j k l n o p q r s t u v w
def qdHZ (a:Post)(m:List Nat)(b:Env)(c d e f g h i j k l n o p q r:Value)(s:Heap):Prop:=a .normal m (puts b [(143,(b 8)),(144,(b 12)),(145,c),(146,d),(147,e),(13,e),(148,(b 8)),(149,(b 12)),(150,f),(151,g),(152,(b 3)),(153,(b 11)),(154,h),(155,e),(156,i),(157,i),(158,j),(159,k),(160,l),(161,n),(162,o),(163,p),(164,q),(165,r)]) s
def qgRZ (a:Value)(b:Env)(c:Heap)(d:Post)(m:List Nat)(e f g h i:Value):Prop:=ov (binV BinOp.lss 2 true a (Value.int IntKind.i64 0)) fun j=>gM (isB j true) (fun k=>k (b 8) c) c fun l n=>gM (isB j true) (fun o=>o (b 12) n) n fun p q=>gM (isB j true) (fun r=>ov (iaV (some (none,1)) l p) fun s=>r s q) q fun t u=>gM (isB j true) (fun v=>ov (ldV (some none) t u) fun w=>v w u) u fun x y=>gM (isB j true) (fun z=>callM P qdUZ #[x] y fun aa ab=>z aa ab) y fun ac ad=>gM (isB j true) (fun ae=>ae (b 11) ad) ad fun af ag=>gM (isB j true) (fun ah=>ov (binV BinOp.eql 2 false ac af) fun ai=>ah ai ag) ag fun aj ak=>ov (pkV j aj (Value.bool false)) fun al=>cdM al (qgQZ b ak d m e f a g h i j l p t x ac af aj al) (qdHZ d m b e f a g h i j l p t x ac af aj al ak)
def qgSZ (a:Env)(b:Heap)(c:Value)(d:Post)(m:List Nat)(e f:Value):Prop:=ov (iaV (some (none,1)) (a 8) (a 12)) fun g=>ov (ldV (some none) g b) fun h=>callM P qcVZ #[h,(a 3),(a 11)] b fun i j=>qgRZ c a j d m e f g h i
def qbsZ (a:Env)(b:Heap)(c:Post)(m:List Nat):Prop:=ov (iaV (some (none,1)) (a 8) (a 12)) fun d=>ov (ldV (some none) d b) fun e=>callM P qdUZ #[e] b fun f g=>qgSZ a g f c m d e
def qgTZ (a:Env)(b:Value)(c:Heap)(m:List Nat)(d e f g h i j k l:Value)(n:Post):Prop:=seqM (fun o=>qgNZ a b c o m d e f g h i j k l) (fun m p q=>qbsZ p q n m) n
def qgUZ (a:Post)(m:List Nat)(b:Env)(c d e f g h i j k l:Value)(n:Heap):Prop:=a .normal m (puts b [(106,c),(107,d),(108,(b 11)),(109,e),(110,f),(111,g),(112,(b 7)),(113,h),(12,h),(114,h),(115,i),(116,j),(117,k),(118,l)]) n
def qgVZ (a:Env)(b:Heap)(c:Value)(m:List Nat)(d e f g h:Value)(i:Post):Prop:=ov (faV (some 7) (a 1)) fun j=>ov (ldV (some none) j b) fun k=>ov (lnV 7 k) fun l=>ov (binV BinOp.lss 2 false c l) fun n=>cdM n (qgTZ a c b m d e f g h j k l n i) (qgUZ i m a d e f g h c j k l n b)
def qgWZ (a:Env)(b:Post)(m:List Nat)(c d e f g h i j k l n o:Value)(p:Heap):Prop:=ov (binV BinOp.add 2 true (a 15) (Value.int IntKind.i64 1)) fun q=>b .normal m (puts a [(175,(a 15)),(176,c),(177,d),(178,e),(179,f),(182,(a 14)),(183,(a 5)),(184,(a 12)),(185,g),(186,h),(187,(a 15)),(188,i),(189,j),(190,k),(191,l),(192,n),(193,o),(14,o),(180,(a 15)),(181,q),(15,q)]) p
def qgXZ (a:Value)(b:Heap)(c:Env)(d:Post)(m:List Nat)(e f g h i j k l n:Value):Prop:=bsM (bsI P qZZ) 1 [(0,a)] b fun o p=>vvM P (Builtin.append_ #[qZZ,qZZ] qZZ #[(c 14),o]) p fun q r=>qgWZ c d m e f g h i j k l n a o q r
def qgYZ (a:Env)(b:Value)(c:Heap)(d:Post)(m:List Nat)(e f g h i j k l:Value):Prop:=callM P qdMZ #[(a 5),(a 12),b] c fun n o=>qgXZ n o a d m e f g h i j k l b
def qgZZ (a:Env)(b:Heap)(c:Post)(m:List Nat)(d e f g:Value):Prop:=ov (faV (some 8) (a 1)) fun h=>ov (ldV (some none) h b) fun i=>ov (iaV (some (none,7)) i (a 15)) fun j=>ov (ldV (some (some 7)) j b) fun k=>callM P qctZ #[k] b fun l n=>qgYZ a l n c m d e f g h i j k
def qhaZ (a:Env)(b:Heap)(c:Post)(m:List Nat):Prop:=ov (faV (some 8) (a 1)) fun d=>ov (ldV (some none) d b) fun e=>ov (lnV 7 e) fun f=>ov (binV BinOp.lss 2 false (a 15) f) fun g=>cdM g (qgZZ a b c m d e f g) (c (.exit 2) m (puts a [(175,(a 15)),(176,d),(177,e),(178,f),(179,g)]) b)
def qhbZ (m:List Nat)(a:Env)(b:Heap)(c:Post):Prop:=loopM (fun m d e f=>qhaZ d e f m) m (puts a [(14,(Value.slice none 0 0)),(15,(Value.int IntKind.i64 0))]) b (blkM 2 c)
def qhcZ (a:Post)(m:List Nat)(b:Env)(c d e f g h:Value)(i:Heap):Prop:=a .normal m (puts b [(194,(b 10)),(195,(b 14)),(196,c),(197,d),(10,d),(198,(b 12)),(199,e),(200,f),(201,g),(202,h)]) i
def qhdZ (a:Env)(b c:Value)(d:Heap)(e:Post)(m:List Nat)(f g h i j k l n o p q r s t u v w x y z aa ab ac:Value):Prop:=ov (iaV (some (none,1)) (a 9) b) fun ad=>stM (some 1) ad c d fun ae=>e .normal m (puts a [(194,(a 10)),(195,(a 14)),(196,f),(197,g),(10,g),(198,(a 12)),(199,h),(200,i),(201,j),(202,k),(203,(a 12)),(204,l),(205,n),(206,o),(207,b),(16,b),(208,(a 9)),(209,b),(210,p),(211,q),(212,r),(213,r),(214,s),(215,t),(216,u),(217,v),(218,w),(219,x),(220,(a 9)),(221,b),(222,(a 3)),(223,(a 12)),(224,y),(225,z),(226,b),(227,aa),(228,ab),(229,ac),(230,c),(231,ad)]) ae
def qheZ (a:Env)(b:Value)(c:Heap)(d:Value)(e:Post)(m:List Nat)(f g h i j k l n o p q r s t u v w x y z aa ab:Value):Prop:=callM P qhpZ #[(a 3),(a 12),b] c fun ac ad=>qhdZ a d ac ad e m f g h i j k l n o p q r s t u v w x y z aa ab b
def qdIZ (a:Env)(b:Heap)(c:Value)(d:Post)(m:List Nat)(e f g h i j k l n o p q r s t u v w:Value):Prop:=ov (faV (some 8) (a 1)) fun x=>ov (ldV (some none) x b) fun y=>ov (iaV (some (none,7)) y c) fun z=>ov (ldV (some (some 7)) z b) fun aa=>callM P qctZ #[aa] b fun ab ac=>qheZ a ab ac c d m e f g h i j k l n o p q r s t u v w x y z aa
def qhfZ (a:Post)(m:List Nat)(b:Env)(c d e f g h i j k l n o p q r s t u v:Value)(w:Heap):Prop:=a .normal m (puts b [(194,(b 10)),(195,(b 14)),(196,c),(197,d),(10,d),(198,(b 12)),(199,e),(200,f),(201,g),(202,h),(203,(b 12)),(204,i),(205,j),(206,k),(207,l),(16,l),(208,(b 9)),(209,l),(210,n),(211,o),(212,p),(213,p),(214,q),(215,r),(216,s),(217,t),(218,u),(219,v)]) w
def qdJZ (a:Env)(b:Value)(c:Heap)(d:Post)(m:List Nat)(e f g h i j k l n:Value):Prop:=ov (iaV (some (none,1)) (a 9) b) fun o=>ov (ldV (some none) o c) fun p=>ov (binV BinOp.eql 4 true p (Value.pointer none)) fun q=>gM (isB q false) (fun r=>r (a 9) c) c fun s t=>gM (isB q false) (fun u=>u b t) t fun v w=>gM (isB q false) (fun x=>ov (iaV (some (none,1)) s v) fun y=>x y w) w fun z aa=>gM (isB q false) (fun ab=>ov (ldV (some none) z aa) fun ac=>ab ac aa) aa fun ad ae=>gM (isB q false) (fun af=>callM P qbVZ #[ad] ae fun ag ah=>af ag ah) ae fun ai aj=>ov (pkV q (Value.bool true) ai) fun ak=>cdM ak (qdIZ a aj b d m e f g h i j k l n o p q s v z ad ai ak) (qhfZ d m a e f g h i j k l n b o p q s v z ad ai ak aj)
def qhgZ (a:Post)(m:List Nat)(b:Env)(c d e f g h i:Value)(j:Heap):Prop:=a .normal m (puts b [(232,(b 9)),(233,(b 16)),(234,c),(235,d),(236,(b 3)),(237,(b 11)),(238,e),(239,(b 9)),(240,(b 16)),(241,f),(242,g),(243,h),(244,i)]) j
def qpvZ (a:Post)(m:List Nat)(b:Env)(c d e f g h i j k l n o p q r s t u v w x y z aa ab ac ad ae af ag:Value)(ah:Heap):Prop:=a .ret m (puts b [(232,(b 9)),(233,(b 16)),(234,c),(235,d),(236,(b 3)),(237,(b 11)),(238,e),(239,(b 9)),(240,(b 16)),(241,f),(242,g),(243,h),(244,i),(245,(b 9)),(246,(b 16)),(247,j),(248,k),(249,l),(17,l),(250,l),(251,n),(252,n),(253,o),(254,p),(255,q),(256,r),(257,r),(258,s),(259,t),(260,u),(261,v),(263,w),(264,x),(265,y),(266,z),(267,aa),(268,ab),(269,ac),(262,ad),(270,ae),(271,af),(272,ag),(2,(Value.bool false))]) ah
def qhhZ (a:Post)(m:List Nat)(b:Env)(c d e f g h i j k l n o p q r s t u v w x y z aa ab ac ad ae af ag:Value)(ah:Heap):Prop:=a .normal m (puts b [(232,(b 9)),(233,(b 16)),(234,c),(235,d),(236,(b 3)),(237,(b 11)),(238,e),(239,(b 9)),(240,(b 16)),(241,f),(242,g),(243,h),(244,i),(245,(b 9)),(246,(b 16)),(247,j),(248,k),(249,l),(17,l),(250,l),(251,n),(252,n),(253,o),(254,p),(255,q),(256,r),(257,r),(258,s),(259,t),(260,u),(261,v),(263,w),(264,x),(265,y),(266,z),(267,aa),(268,ab),(269,ac),(262,ad),(270,ae),(271,af),(272,ag)]) ah
def qhiZ (a:Value)(b:Env)(c:Heap)(d:Post)(m:List Nat)(e f g h i j l n o:Value):Prop:=ov (binV BinOp.lss 2 true a (Value.int IntKind.i64 0)) fun p=>gv (isB p false) (fun k=>k a) fun q=>gv (isB p false) (fun k=>k (b 11)) fun r=>gv (isB p false) (ov (binV BinOp.gtr 2 false q r)) fun s=>ov (pkV p (Value.bool true) s) fun t=>gv (isB t false) (fun k=>k (b 9)) fun u=>gv (isB t false) (fun k=>k (b 16)) fun v=>gv (isB t false) (ov (iaV (some (none,1)) u v)) fun w=>gv (isB t false) (ov (ldV (some none) w c)) fun x=>gv (isB t false) (fun k=>k (b 10)) fun y=>gv (isB t false) (fun k=>k a) fun z=>gv (isB t false) (ov (iaV (some (none,1)) y z)) fun aa=>gv (isB t false) (ov (ldV (some none) aa c)) fun ab=>gv (isB t false) (fun k=>k (b 16)) fun ac=>gv (isB t false) (ov (iaV (some (none,4)) ab ac)) fun ad=>gv (isB t false) (ov (ldV (some (some 4)) ad c)) fun ae=>gM (isB t false) (fun af=>callM P qftZ #[x] c fun ag ah=>af ag ah) c fun ai aj=>((isB t false)=true→ldV (some none) aa aj=some ab)∧((isB t false)=true→ldV (some (some 4)) ad aj=some ae)∧gM (isB t false) (fun ak=>callM P qghZ #[ai,ae] aj fun al am=>ak al am) aj fun an ao=>gv (isB t false) (ov (unV UnOp.not an)) fun ap=>ov (pkV t (Value.bool true) ap) fun aq=>cdM aq (qpvZ d m b e f g h i j l n o a p q r s t u v w x y z aa ab ac ad ae ai an ap aq ao) (qhhZ d m b e f g h i j l n o a p q r s t u v w x y z aa ab ac ad ae ai an ap aq ao)
def qhjZ (a:Env)(b:Heap)(c:Post)(m:List Nat)(d e f g h i j:Value):Prop:=ov (iaV (some (none,1)) (a 9) (a 16)) fun k=>ov (ldV (some none) k b) fun l=>callM P qeCZ #[l] b fun n o=>qhiZ n a o c m d e f g h i j k l
def qhkZ (a:Value)(b:Post)(m:List Nat)(c:Env)(d e f g h:Value)(i:Heap):Prop:=ov (unV UnOp.not a) fun j=>cdM j (qhgZ b m c d e f g h a j i) (qhjZ c i b m d e f g h a j)
def qhlZ (a:Env)(b:Heap)(c:Post)(m:List Nat)(d e f:Value):Prop:=ov (iaV (some (none,1)) (a 9) (a 16)) fun g=>ov (ldV (some none) g b) fun h=>callM P qbVZ #[h] b fun i j=>qhkZ i c m a d e f g h j
def qapZ (a:Env)(b:Heap)(c:Post)(m:List Nat):Prop:=ov (iaV (some (none,1)) (a 9) (a 16)) fun d=>ov (ldV (some none) d b) fun e=>callM P qaSZ #[e,(a 3),(a 11)] b fun f g=>qhlZ a g c m d e f
def qhmZ (a:Env)(b:Heap)(m:List Nat)(c d e f g h:Value)(i:Post):Prop:=ov (faV (some 7) (a 1)) fun j=>ov (ldV (some none) j b) fun k=>ov (lnV 7 k) fun l=>ov (binV BinOp.sub 2 false (a 12) l) fun n=>seqM (fun o=>qdJZ a n b o m c d e f g h j k l) (fun m p q=>qapZ p q i m) (blkM 1 i)
def qhnZ (a:Env)(b:Heap)(c:Post)(m:List Nat)(d e:Value):Prop:=ov (faV (some 7) (a 1)) fun f=>ov (ldV (some none) f b) fun g=>ov (lnV 7 g) fun h=>ov (binV BinOp.lss 2 false (a 12) h) fun i=>cdM i (qhcZ c m a d e f g h i b) (qhmZ a b m d e f g h i c)
def qdKZ (a:Env)(b:Heap)(c:Post)(m:List Nat):Prop:=bsM (bsI P qbAZ) 1 [(0,(a 14))] b fun d e=>vvM P (Builtin.append_ #[qbAZ,qbAZ] qbAZ #[(a 10),d]) e fun f g=>qhnZ a g c m d f
def qbtZ (m:List Nat)(a:Env)(b:Heap)(c:Post):Prop:=seqM (fun d=>qhbZ m a b d) (fun m e f=>qdKZ e f c m) (blkM 1 c)
def qbuZ (a:Env)(b:Heap)(m:List Nat)(c:Post):Prop:=ov (faV (some 9) (a 1)) fun d=>ov (ldV (some none) d b) fun e=>ov (iaV (some (none,1)) e (a 11)) fun f=>ov (ldV (some none) f b) fun g=>ov (cvV (some .i64) g) fun h=>ov (binV BinOp.rem 2 false h (a 7)) fun i=>seqM (fun j=>qgVZ a b i m d e f g h j) (fun m k l=>qbtZ m k l c) (blkM 1 c)
def qdLZ (a:Env)(b:Heap)(m:List Nat)(c d e f:Value)(g:Post):Prop:=seqM (fun h=>qgJZ a b h m c d e f) (fun m i j=>qbuZ i j m g) (blkM 1 g)
def qhoZ (a:Env)(b:Heap)(m:List Nat)(c d e f:Value)(g:Post):Prop:=seqM (fun h=>qdLZ a b m c d e f h) (fun m i j=>ov (binV BinOp.add 2 true (i 11) (Value.int IntKind.i64 1)) fun k=>g .normal m (puts i [(72,(i 11)),(73,k),(11,k)]) j) g
def qhVZ (a:Env)(b:Heap)(m:List Nat)(c:Post):Prop:=ov (faV (some 9) (a 1)) fun d=>ov (ldV (some none) d b) fun e=>ov (lnV 7 e) fun f=>ov (binV BinOp.lss 2 false (a 11) f) fun g=>cdM g (qhoZ a b m d e f g c) (c (.exit 0) m (puts a [(67,(a 11)),(68,d),(69,e),(70,f),(71,g)]) b)
def qhWZ (x0 a b c d e f g h i j k l n o p q r s t u v w x y z aa ab ac ad ae af ag ah ai aj ak al am an ao ap aq:Value)(ar:Heap)(au:Post):Prop:=loopM (fun m av aw ax=>qhVZ av aw m ax) [] (puts (envOf [x0]) [(1,a),(2,(Value.bool false)),(18,b),(19,c),(20,c),(21,d),(22,e),(23,f),(24,g),(27,h),(28,i),(29,j),(26,j),(30,k),(31,l),(3,k),(4,l),(33,n),(34,o),(35,p),(32,p),(36,q),(37,r),(5,q),(6,r),(38,l),(39,s),(40,s),(41,t),(42,u),(43,v),(44,v),(45,w),(46,x),(47,y),(48,y),(49,z),(50,aa),(51,ab),(52,ac),(53,ad),(54,ae),(55,af),(56,ag),(57,ah),(58,ai),(7,ai),(59,aj),(60,ak),(61,al),(62,am),(8,am),(63,an),(64,ao),(65,ap),(66,aq),(9,aq),(10,(Value.slice none 0 0)),(11,(Value.int IntKind.i64 0))]) ar (blkM 0 au)
def qhXZ (x0 a b c d e f g h i j k l n o p q r s t u v w x y z aa ab ac ad ae af ag ah ai aj ak al am an ao ap aq:Value)(ar:Heap)(K:KTy):Prop:=seqM (fun au=>qhWZ x0 a b c d e f g h i j k l n o p q r s t u v w x y z aa ab ac ad ae af ag ah ai aj ak al am an ao ap aq ar au) (fun m av aw=>(retM P [.tmp 2] K) .ret m (puts av [(2,(Value.bool true))]) aw) (retM P [.tmp 2] K)
def qhYZ (a:Value)(b:Heap)(x0 c d e f g h i j k l m n o p q r s t u v w x y z aa ab ac ad ae af ag ah ai aj ak al am:Value)(K:KTy):Prop:=ov (faV (some 8) a) fun an=>ov (ldV (some none) an b) fun ao=>ov (lnV 7 ao) fun ap=>vvM P (Instr.makeSlice qmnZ ap ap) b fun aq ar=>qhXZ x0 a c d e f g h i j k l m n o p q r s t u v w x y z aa ab ac ad ae af ag ah ai aj ak al am an ao ap aq ar K
def qhZZ (a:Value)(b:Heap)(x0 c d e f g h i j k l m n o p q r s t u v w x y z aa ab:Value)(K:KTy):Prop:=ov (faV (some 7) a) fun ac=>ov (ldV (some none) ac b) fun ad=>ov (lnV 7 ad) fun ae=>ov (faV (some 8) a) fun af=>ov (ldV (some none) af b) fun ag=>ov (lnV 7 ag) fun ah=>ov (binV BinOp.add 2 false ae ah) fun ai=>ov (faV (some 7) a) fun aj=>ov (ldV (some none) aj b) fun ak=>ov (lnV 7 ak) fun al=>vvM P (Instr.makeSlice qlsZ al al) b fun am an=>qhYZ a an x0 c d e f g h i j k l m n o p q r s t u v w x y z aa ab ac ad ae af ag ah ai aj ak al am K
def qiaZ (a b:Value)(c:Heap)(d:Value)(K:KTy)(e x0 f g h i j k l m n o p:Value):Prop:=ov (exV a 0) fun q=>ov (exV a 1) fun r=>ov (binV BinOp.neq 2 true b (Value.int IntKind.i64 0)) fun s=>gM (isB s false) (fun t=>t r c) c fun u v=>gM (isB s false) (fun w=>ov (binV BinOp.neq 2 true u (Value.int IntKind.i64 0)) fun x=>w x v) v fun y z=>ov (pkV s (Value.bool true) y) fun aa=>gM (isB aa false) (fun ab=>ab d z) z fun ac ad=>gM (isB aa false) (fun ae=>ov (binV BinOp.eql 4 true ac (Value.pointer none)) fun af=>ae af ad) ad fun ag ah=>ov (pkV aa (Value.bool true) ag) fun ai=>gM (isB ai false) (fun aj=>aj q ah) ah fun ak al=>gM (isB ai false) (fun am=>ov (binV BinOp.eql 4 true ak (Value.pointer none)) fun an=>am an al) al fun ao ap=>ov (pkV ai (Value.bool true) ao) fun aq=>cdM aq (K (Value.bool false) ap) (qhZZ e ap x0 f g h i j k l m n d b o p a q r s u y aa ac ag ai ak ao aq K)
def qibZ (a b:Value)(c:Heap)(K:KTy)(x0 d e f g h i j k:Value):Prop:=ov (exV a 0) fun l=>ov (exV a 1) fun m=>ov (faV (some 0) b) fun n=>ov (ldV (some (some 7)) n c) fun o=>callM P qpJZ #[o] c fun p q=>qiaZ p m q l K b x0 d e f g h i j k a n o
def qicZ (a:Value)(b:Heap)(K:KTy)(x0 c d e f g h:Value):Prop:=ov (faV (some 0) a) fun i=>ov (ldV (some (some 7)) i b) fun j=>callM P qosZ #[j] b fun k l=>qibZ k a l K x0 c d e f g h i j
def qidZ (a b:Value)(c:Heap)(K:KTy)(x0:Value):Prop:=ov (unV UnOp.not a) fun d=>gM (isB d false) (fun e=>ov (ldV (some (some 11)) b c) fun f=>e f c) c fun g h=>gM (isB d false) (fun i=>callM P qgjZ #[g] h fun j k=>i j k) h fun l m=>gM (isB d false) (fun n=>ov (unV UnOp.not l) fun o=>n o m) m fun p q=>ov (pkV d (Value.bool true) p) fun r=>cdM r (callM P qduZ #[] q fun s t=>K s t) (qicZ b q K x0 a d g l p r)
def qfmZ (x0:Value)(h:Heap)(K:KTy):Prop:=nwM (some x0.cells) qvZ h fun a b=>callM P qduZ #[] b fun c d=>qidZ c a d K x0
variable {K:KTy}
theorem qqkZ {x0:Value}{h:Heap}(hd:qfmZ x0 h K):callM P qedZ #[x0] h K :=
 call_of good mixed (fn:=Tryz.f25) (args:=[x0]) Tryz.func25 rfl (by kernel_rfl) (of_decide_eq_true rfl) (B:=qfmZ x0 h K) (by kernel_rfl) hd
end Go.Proofs.YtcnphhhcknhhaaaGreat
namespace Go.Proofs.YtcnphhhcknhhaaaGreat
open Go Go.Den Go.MapKept
set_option linter.unusedSimpArgs false
set_option linter.unusedVariables false
set_option maxRecDepth 20000
def cr6C (c:Cfg)(wv rv tv kv:Value):List Value:=cfgC c++[wv,rv,tv,kv]
structure Cr6X (h:Heap)(c:Cfg)(ws rs:List OpD)(ts ks:List Int)(wv rv tv kv:Value):Prop where
 w:Sl 7 OpR h wv ws
 r:Sl 7 OpR h rv rs
 t:Sl 1 (IntR .u8) h tv ts
 k:Sl 1 (IntR .u8) h kv ks
theorem Cr6X.ext {h h':Heap}{c:Cfg}{ws rs:List OpD}{ts ks:List Int}{wv rv tv kv:Value}(x:Cr6X h c ws rs ts ks wv rv tv kv)(e:Ext h h'):Cr6X h' c ws rs ts ks wv rv tv kv:=⟨x.w.ext (@OpR.ext) e,x.r.ext (@OpR.ext) e,x.t.ext (fun _ r=>r) e,x.k.ext (fun _ r=>r) e⟩
structure Fits6 (c:Cfg)(ws rs:List OpD)(ts:List Int):Prop where
 w:ws.length≤4
 h:rs.length≤4
 n:ws.length+rs.length≠0
 t:ts.length≤300
 r:rightB c=true
 sw:∀ x∈ws,shortB x=true
 sr:∀ x∈rs,shortB x=true
variable {K:KTy}
set_option maxHeartbeats 1000000 in
theorem fits16_ok (c:Cfg)(ws rs:List OpD)(ts ks:List Int){h:Heap}{wv rv tv kv:Value}(x:Cr6X h c ws rs ts ks wv rv tv kv)(hk:∀ h' b,Ext h h'→(b=true→Fits6 c ws rs ts)→K (.bool b) h'):callM P qgjZ #[.agg (cr6C c wv rv tv kv).toArray] h K:=by
 apply qsIZ
 unfold qhJZ
 have wl:=x.w.len
 have hl:=x.r.len
 have tl:=x.t.len
 refine nw_agg fun v1 h1 n1 e1 c1=>?_
 have c7:cel h1 v1 7=some wv:=by simp[cel_of c1,cr6C,cfgC]
 have c8:cel h1 v1 8=some rv:=by simp[cel_of c1,cr6C,cfgC]
 have c9:cel h1 v1 9=some tv:=by simp[cel_of c1,cr6C,cfgC]
 have og:ldV (some (some 7)) (ptr v1) h1=some (.agg (cfgC c).toArray):=by simp[ld_at c1,cr6C,cfgC]
 have no:K (.bool false) h1:=hk _ _ e1 (fun h=>by cases h)
 by_cases a1:ws.length≤4
 rotate_left
 ·have a1':(4:Int)<ws.length:=by omega
  simp -implicitDefEqProofs[c7,wl,a1']; exact no
 have a1':¬ (4:Int)<ws.length:=by omega
 by_cases a2:rs.length≤4
 rotate_left
 ·have a2':(4:Int)<rs.length:=by omega
  simp -implicitDefEqProofs[c7,c8,wl,hl,a1',a2']; exact no
 have a2':¬ (4:Int)<rs.length:=by omega
 have hw:IntKind.i64.wrap ((ws.length:Int)+rs.length)=(ws.length+rs.length:Int):=wrap64_id (by omega) (by omega)
 by_cases a3:ws.length+rs.length=0
 ·have a3':(ws.length:Int)+rs.length=0:=by omega
  have hw0:IntKind.i64.wrap 0=0:=wrap64_id (by omega) (by omega)
  simp -implicitDefEqProofs[c7,c8,wl,hl,a1',a2',a3',hw0]; exact no
 have a3':¬ (ws.length:Int)+rs.length=0:=by omega
 by_cases a4:ts.length≤300
 rotate_left
 ·have a4':(300:Int)<ts.length:=by omega
  simp -implicitDefEqProofs[c7,c8,c9,wl,hl,tl,a1',a2',hw,a3',a4']; exact no
 have a4':¬ (300:Int)<ts.length:=by omega
 simp -implicitDefEqProofs[c7,c8,c9,wl,hl,tl,a1',a2',hw,a3',a4',og]
 refine refRight_ok c fun h2 e2=>?_
 have e02:=e1.trans e2
 have c7:∀ h',Ext h2 h'→cel h' v1 7=some wv:=fun h' e=>by simp[cel_of (e _ _ (e2 _ _ c1)),cr6C,cfgC]
 have c8:∀ h',Ext h2 h'→cel h' v1 8=some rv:=fun h' e=>by simp[cel_of (e _ _ (e2 _ _ c1)),cr6C,cfgC]
 cases hr:rightB c with
 | false=>simp; exact hk _ _ e02 (fun h=>by cases h)
 | true =>
 simp -implicitDefEqProofs
 unfold qkKZ
 rw[seqM_eq]
 unfold qkHZ
 refine loop_on [1] (fun s h'=>Ext h2 h'∧∃ i:Nat,i≤ws.length∧s 3 = .int .i64 i∧∀ x∈ws.take i,shortB x=true) (fun s _=>(ws.length-num (s 3)).toNat) ⟨Ext.refl _,0,by omega,rfl,by simp⟩ ?_
 rintro s h4 hf ⟨e4,i,hi,s3,hall⟩
 have s1:s 1=ptr v1:=by simpa using hf 1 (by simp)
 unfold qkGZ
 simp -implicitDefEqProofs[s1,c7 _ e4,wl,s3]
 refine⟨fun hc=>?_,fun hc=>?_⟩
 ·have hlt:i<ws.length:=by omega
  have hw1:IntKind.i64.wrap ((i:Int)+1)=(i+1:Nat):=by rw[wrap64_id (by omega) (by omega)]; omega
  obtain⟨b,p,u,i1,i2,i3,i4⟩:=opsAt x.w hlt
  unfold qkFZ
  simp -implicitDefEqProofs[s1,c7 _ e4,s3,i1,i2 _ (e02.trans e4)]
  refine short_ok ws[i] (i3.ext (@StrR.ext) (e02.trans e4)) fun h5 e5=>?_
  unfold qkEZ
  cases hs':shortB ws[i] with
  | false =>
   simp -implicitDefEqProofs
   unfold qkCZ
   simp -implicitDefEqProofs
   exact hk _ _ ((e02.trans e4).trans e5) (fun h=>by cases h)
  | true =>
   simp -implicitDefEqProofs
   unfold qkDZ
   simp -implicitDefEqProofs[s1,s3,hw1,-Int.natCast_add]
   refine⟨⟨e4.trans e5,i+1,by omega,rfl,fun y hy=>?_⟩,by omega⟩
   rw[List.take_succ_eq_append_getElem hlt,List.mem_append,List.mem_singleton] at hy
   rcases hy with hy | rfl
   ·exact hall y hy
   ·exact hs'
 have hie:i=ws.length:=by omega
 subst hie
 rw[List.take_of_length_le (Nat.le_refl _)] at hall
 unfold qkJZ
 rw[seqM_eq]
 unfold qkIZ
 refine loop_on [1] (fun s h'=>Ext h2 h'∧∃ i:Nat,i≤rs.length∧s 4 = .int .i64 i∧∀ x∈rs.take i,shortB x=true) (fun s _=>(rs.length-num (s 4)).toNat) ⟨e4,0,by omega,rfl,by simp⟩ ?_
 clear s3
 rintro r h5 hf5 ⟨e5,i,hi,r4,hal2⟩
 have r1:r 1=ptr v1:=by simpa [s1] using hf5 1 (by simp)
 unfold qjPZ
 simp -implicitDefEqProofs[r1,c8 _ e5,hl,r4]
 refine⟨fun hc=>?_,fun hc=>?_⟩
 rotate_left
 ·have hie:i=rs.length:=by omega
  subst hie
  rw[List.take_of_length_le (Nat.le_refl _)] at hal2
  exact hk _ _ (e02.trans e5) fun _=>⟨a1,a2,a3,a4,hr,hall,hal2⟩
 have hlt:i<rs.length:=by omega
 have hw1:IntKind.i64.wrap ((i:Int)+1)=(i+1:Nat):=by rw[wrap64_id (by omega) (by omega)]; omega
 obtain⟨b,p,u,i1,i2,i3,i4⟩:=opsAt x.r hlt
 unfold qjOZ
 simp -implicitDefEqProofs[r1,c8 _ e5,r4,i1,i2 _ (e02.trans e5)]
 refine short_ok rs[i] (i3.ext (@StrR.ext) (e02.trans e5)) fun h6 e6=>?_
 unfold qjNZ
 cases hs':shortB rs[i] with
 | false =>
  simp -implicitDefEqProofs
  unfold qjLZ
  simp -implicitDefEqProofs
  exact hk _ _ ((e02.trans e5).trans e6) (fun h=>by cases h)
 | true =>
  simp -implicitDefEqProofs
  unfold qjMZ
  simp -implicitDefEqProofs[s1,r1,r4,hw1,-Int.natCast_add]
  refine⟨⟨e5.trans e6,i+1,by omega,rfl,fun y hy=>?_⟩,by omega⟩
  rw[List.take_succ_eq_append_getElem hlt,List.mem_append,List.mem_singleton] at hy
  rcases hy with hy | rfl
  ·exact hal2 y hy
  ·exact hs'
end Go.Proofs.YtcnphhhcknhhaaaGreat
namespace Go.Proofs.YtcnphhhcknhhaaaGreat
open Go Go.Den Go.MapKept
set_option linter.unusedSimpArgs false
set_option linter.unusedVariables false
set_option maxRecDepth 20000
theorem short_users {x:OpD}(h:shortB x=true):x.users.length≤20:=by simp[shortB] at h; exact h.2.1
end Go.Proofs.YtcnphhhcknhhaaaGreat
namespace Go.Proofs.YtcnphhhcknhhaaaGreat
open Go Go.Den Go.MapKept
set_option linter.unusedSimpArgs false
set_option linter.unusedVariables false
set_option maxRecDepth 20000
variable {K:KTy}
theorem mkRow {t e:TypeId}{bytes n:Nat}{z:Value}{g:Tag}{T:Tags}{h:Heap}(ht:P.underlying t=some (.slice e))(hi:apC P e=some (1,bytes,1))(hz:zc P e=some #[z])(hb:bytes≤100)(hn:n≤8)(w:Wf T h)
  (hk:∀ T' h' v,Only non T h T' h'→Rw T' h' g 1 e v n (seqF n fun _=>[z])→K v h'):vvM P (Instr.makeSlice t (.int .i64 n) (.int .i64 n)) h K:=by
 have hb':bytes*n≤100*8:=Nat.mul_le_mul hb hn
 refine makeSlice_vv ht hi hz (by omega) (by omega) (by unfold maxLen; omega) fun b h1 n1 e1 c1=>?_
 refine hk (tset T b g) h1 _ (Only.enew g w e1 n1 c1) ⟨made_row (by unfold maxLen; omega) c1,fun b' hb'=>?_⟩
 simp -implicitDefEqProofs only[rowOf,Option.some.injEq] at hb'
 subst hb'
 exact tset_same _ _ _
theorem rw1_st {e:TypeId}{g:Tag}{T:Tags}{h:Heap}{v x:Value}{n i:Nat}{F:Nat→Value}{k:IntKind}{K:Heap→Prop}(w:Wf T h)(r:Rw T h g 1 e v n (seqF n fun j=>[F j]))(hi:i<n)(hx:x.cells=#[x])(h1:x.oneCell'=true)
  (hk:∀ h',Only (fun t=>t=g) T h T h'→Rw T h' g 1 e v n (seqF n fun j=>[bset F i x j])→K h'):ov (iaV (some (none,1)) v (.int k i)) fun p=>stM (some 1) p x h K:=by
 obtain⟨b,hb,hia,hc⟩:=row1_at (k:=k) r.1 hi
 rw[hia]
 simp -implicitDefEqProofs only[ov_s]
 have tb:=r.2 b hb
 refine row1_st r.1 hb hi hx h1 fun h' ho hr=>hk h' ?_ ⟨?_,r.2⟩
 ·obtain⟨c,hcb⟩:∃ c,h b=some c:=by
   cases hh:h b with
   | none=>simp[cel,hh] at hc
   | some c=>exact⟨c,rfl⟩
  obtain⟨g',hg',_,hc'⟩:=row1_at (k:=k) hr hi
  have hbg:g'=b:=by rw[hb] at hg'; cases hg'; rfl
  subst hbg
  refine⟨fun j hj=>?_,fun _ _ _=>rfl,fun j z hz=>?_,fun j z hz hn=>?_⟩
  ·by_cases hjb:j=g'
   ·subst hjb; simp[cel,hj] at hc'
   ·rw[ho j hjb] at hj; exact w j hj
  ·by_cases hjb:j=g'
   ·subst hjb
    cases hh:h' j with
    | none=>simp[cel,hh] at hc'
    | some c=>exact⟨c,rfl⟩
   ·exact⟨z,by rw[ho j hjb]; exact hz⟩
  ·rw[ho j fun hjb=>hn (by subst hjb; exact tb)]; exact hz
 ·exact hr
def ptO (W:Wd)(A:Nat→Nat)(i:Nat):Value:=if (W.ps i).isSome then ptr (A i) else .pointer none
section
variable {T5 T':Tags}{h5 h':Heap}{hp tp k nw nh i:Nat}{ws:List OpD}{hs:List (List OpD)}{B A:Nat→Nat}{av xv wv tv:Value}{W:Wd}{M:Tbl}{X:Nat→OpD}{want:Nat→Reply}{ats:Nat→Nat}{K:KTy}
theorem isSome_step {p:PR}(hp:W.ps i=some p)(n:Int)(j:Nat):((W.step i n).ps j).isSome=(W.ps j).isSome:=by
 rw[Wd.step_ps hp]
 by_cases h:j=i
 ·subst h; rw[if_pos rfl,hp]; rfl
 ·rw[if_neg h]
end
end Go.Proofs.YtcnphhhcknhhaaaGreat
namespace Go.Proofs.YtcnphhhcknhhaaaGreat
open Go Go.Den Go.MapKept
set_option linter.unusedSimpArgs false
set_option linter.unusedVariables false
set_option maxRecDepth 20000
theorem unSlWP:P.underlying qlsZ=some (.slice qfUZ):=by kernel_rfl
theorem apWP:apC P qfUZ=some (1,8,1):=by kernel_rfl
theorem zcWP:zc P qfUZ=some #[.pointer none]:=by kernel_rfl
theorem unSlRp:P.underlying qZZ=some (.slice qcZ):=by kernel_rfl
theorem apRp:apC P qcZ=some (4,64,4):=by kernel_rfl
theorem ptO_some {W:Wd}{A:Nat→Nat}{i:Nat}{p:PR}(h:W.ps i=some p):ptO W A i=ptr (A i):=by simp[ptO,h]
theorem ptO_none {W:Wd}{A:Nat→Nat}{i:Nat}(h:W.ps i=none):ptO W A i = .pointer none:=by simp[ptO,h]
theorem ov_of {o:Option Value}{x:Value}{K:Value→Prop}(e:o=some x)(h:ov o K):K x:=by rw[e] at h; exact h
end Go.Proofs.YtcnphhhcknhhaaaGreat
namespace Go.Proofs.YtcnphhhcknhhaaaGreat
open Go Go.Den Go.MapKept
set_option linter.unusedSimpArgs false
set_option linter.unusedVariables false
set_option maxRecDepth 20000
theorem unSlRP:P.underlying qmnZ=some (.slice qgsZ):=by kernel_rfl
theorem apRP:apC P qgsZ=some (1,8,1):=by kernel_rfl
theorem zcRP:zc P qgsZ=some #[.pointer none]:=by kernel_rfl
def UR (t:Tag):Prop:=t=[6]∨t=[7]∨t=[9]∨pre [8] t
def U16 (t:Tag):Prop:=U5 t∨UR t
theorem UR.nil:¬ UR []:=by rintro (h | h | h | h)<;>simp[pre] at h
theorem U16.nil:¬ U16 []:=by
 rintro (h | h)
 ·exact U5.nil h
 ·exact UR.nil h
theorem ur_u5 {t:Tag}(h:UR t):¬ U5 t:=by
 rintro ((h1 | h1) | h1)<;>rcases h with rfl | rfl | rfl | h<;>simp[pre] at*<;> (obtain⟨_,rfl⟩:=h)<;>simp at *
def RtR (T':Tags)(h':Heap)(g:Tag)(R:Nat→Reply)(v:Value)(k:Nat):Prop:=∃ vv ev:Nat→Value,Rw T' h' g 4 qcZ v k (seqF k fun j=>rplC (R j) (vv j) (ev j))∧∀ j,j<k→RpX (fz T' h') (R j) (vv j) (ev j)
theorem RtR.kp {U:Tag→Prop}{T T':Tags}{h h':Heap}{g:Tag}{R:Nat→Reply}{v:Value}{k:Nat}(x:RtR T h g R v k)(o:Only U T h T' h')(f:¬ U g)(n:¬ U []):RtR T' h' g R v k:=by
 obtain⟨vv,ev,h1,h2⟩:=x
 exact⟨vv,ev,h1.kp o.k f,fun j hj=>(h2 j hj).ext (o.ext n)⟩
structure RtS (nw nh n:Nat)(av xv tv:Value)(Pa Px:Nat→Value)(R:Nat→Nat→Reply)(T':Tags)(h':Heap):Prop where
 a:Rw T' h' [6] 1 qfUZ av nw (seqF nw fun i=>[Pa i])
 x:Rw T' h' [7] 1 qgsZ xv nh (seqF nh fun j=>[Px j])
 t:∃ rv:Nat→Value,Rw T' h' [9] 1 qZZ tv n (seqF n fun t=>[rv t])∧∀ t,t<n→RtR T' h' [8,t] (R t) (rv t) nh
theorem RtS.kp {nw nh n:Nat}{av xv tv:Value}{Pa Px:Nat→Value}{R:Nat→Nat→Reply}{U:Tag→Prop}{T T':Tags}{h h':Heap}(y:RtS nw nh n av xv tv Pa Px R T h)(o:Only U T h T' h')(f:∀ t,UR t→¬ U t)(nn:¬ U []):RtS nw nh n av xv tv Pa Px R T' h':=by
 obtain⟨rv,h1,h2⟩:=y.t
 exact⟨y.a.kp o.k (f _ (.inl rfl)),y.x.kp o.k (f _ (.inr (.inl rfl))),rv,h1.kp o.k (f _ (.inr (.inr (.inl rfl)))),fun t ht=>(h2 t ht).kp o (f _ (.inr (.inr (.inr ⟨[t],rfl⟩)))) nn⟩
theorem RtS.congr {nw nh n:Nat}{av xv tv:Value}{Pa Px Pa' Px':Nat→Value}{R R':Nat→Nat→Reply}{T:Tags}{h:Heap}(y:RtS nw nh n av xv tv Pa Px R T h)(ha:∀ i,i<nw→Pa i=Pa' i)(hx:∀ j,j<nh→Px j=Px' j)(hr:∀ t,t<n→R t=R' t):RtS nw nh n av xv tv Pa' Px' R' T h:=by
 obtain⟨rv,h1,h2⟩:=y.t
 exact⟨⟨row1_congr y.a.1 ha,y.a.2⟩,⟨row1_congr y.x.1 hx,y.x.2⟩,rv,h1,fun t ht=>by rw[← hr t ht]; exact h2 t ht⟩
def repOf (X:Nat→OpD)(nw:Nat)(M:Tbl)(j:Nat):Reply:=(M.do_ (0:Nat) (X (nw+j))).2
theorem RtS.kp1 {nw nh n:Nat}{av xv tv:Value}{Pa Px:Nat→Value}{R:Nat→Nat→Reply}{U:Tag→Prop}{T T':Tags}{h h':Heap}(y:RtS nw nh n av xv tv Pa Px R T h)(o:Only U T h T' h')(f6:¬ U [6])(f7:¬ U [7])(f9:¬ U [9])(f8:∀ t,t<n→¬ U [8,t])(nn:¬ U []):RtS nw nh n av xv tv Pa Px R T' h':=by
 obtain⟨rv,h1,h2⟩:=y.t
 exact⟨y.a.kp o.k f6,y.x.kp o.k f7,rv,h1.kp o.k f9,fun t ht=>(h2 t ht).kp o (f8 t ht) nn⟩
structure RtI (T5:Tags)(h5:Heap)(hp tp k n n':Nat)(ws rs:List OpD)(av xv tv:Value)(W:Wd)(M Md:Tbl)(A:Nat→Nat)(X:Nat→OpD)(Ms:Nat→Tbl)(T':Tags)(h':Heap):Prop where
 o:Only U16 T5 h5 T' h'
 m:WdM T' h' hp A W
 k:WdK k W M
 d:MdR T' h' [4] tp Md
 c:CrR ws.length (ws.length+rs.length) n' X Ms W
 s:RtS ws.length rs.length n av xv tv (ptO W A) (fun j=>ptO W A (ws.length+j)) (fun t=>repOf X ws.length (Ms t)) T' h'
 tw:∀ i (hi:i<ws.length),X i=wrOp ws[i]
 tr:∀ j (hj:j<rs.length),X (ws.length+j)=rdOp rs[j]
theorem d5UR {U:Tag→Prop}(h:∀ t,U t→UR t):∀ t,U5 t→¬ U t:=fun t ht hu=>ur_u5 (h t hu) ht
section
variable {T5 T':Tags}{h5 h':Heap}{hp tp k n n' i:Nat}{ws rs:List OpD}{A:Nat→Nat}{av xv tv:Value}{W:Wd}{M Md:Tbl}{X:Nat→OpD}{Ms:Nat→Tbl}{K:KTy}
theorem RtI.ext {h'':Heap}(y:RtI T5 h5 hp tp k n n' ws rs av xv tv W M Md A X Ms T' h')(e:Ext h' h''):RtI T5 h5 hp tp k n n' ws rs av xv tv W M Md A X Ms T' h'' :=
 have o:=Only.of_ext (U:=non) y.o.wf e
 ⟨y.o.up o non_up,y.m.ext y.o.wf e,y.k,y.d.kp o.k (Off.non _) (not_non _),y.c,y.s.kp o (fun _ _=>not_non _) (not_non _),y.tw,y.tr⟩
theorem RtI.ra (y:RtI T5 h5 hp tp k n n' ws rs av xv tv W M Md A X Ms T' h'){i:Nat}(hi:i<ws.length):∃ b,iaV (some (none,1)) av (.int .i64 i)=some (.pointer (some ⟨b,i,none⟩))∧cel h' b i=some (ptO W A i):=by
 obtain⟨b,_,h1,h2⟩:=row1_at (k:=.i64) y.s.a.1 hi
 exact⟨b,h1,h2⟩
theorem RtI.rx (y:RtI T5 h5 hp tp k n n' ws rs av xv tv W M Md A X Ms T' h'){j:Nat}(hj:j<rs.length):∃ b,iaV (some (none,1)) xv (.int .i64 j)=some (.pointer (some ⟨b,j,none⟩))∧cel h' b j=some (ptO W A (ws.length+j)):=by
 obtain⟨b,_,h1,h2⟩:=row1_at (k:=.i64) y.s.x.1 hj
 exact⟨b,h1,h2⟩
theorem U5.w {t:Tag}(h:UW t):U16 t:=.inl (.inl h)
theorem rUW:∀ t,UR t→¬ UW t:=fun t h hh=>ur_u5 h (.inl hh)
theorem r4:∀ t,UR t→¬ pre [4] t:=fun t h hh=>ur_u5 h (.inr hh)
theorem rt_pass (y:RtI T5 h5 hp tp k n n' ws rs av xv tv W M M A X Ms T' h')(hk:k<100000)(b:Int)(hb:U64 b)
  (hK:∀ T'' h'',RtI T5 h5 hp tp (k+1) n n' ws rs av xv tv { W with H:=W.H.pass 9 b } (M.tick b) M A X Ms T'' h''→K (.tuple #[]) h''):callM P qfSZ #[ptr hp,.int .i64 9,.int .u64 b] h' K:=by
 refine hpass_ok 9 b hb y.o.wf g1 y.m.hl y.k.hs.tn (by have:=y.k.hs.ac; omega) fun T2 h2 o2 y2=>?_
 have o2':Only UW T' h' T2 h2:=o2.mono fun _=>.inl
 exact hK T2 h2 ⟨y.o.trans (o2'.mono fun _=>U5.w),⟨y2,fun j p hp=>(y.m.ps j p hp).kp o2.k (d12i j) (by simp[pre])⟩,⟨y.k.li.pass 9 b,y.k.hs.pass 9 b hb,(y.k.ts.tick b hb).mono (by omega)⟩,y.d.kp o2'.k dUW4 UW.nil,y.c.pass y.k.li 9 b,y.s.kp o2' rUW UW.nil,y.tw,y.tr⟩
theorem rt_tick {b:Int}(y:RtI T5 h5 hp tp k n n' ws rs av xv tv W (M.tick b) M A X Ms T' h')(hb:U64 b)(ht:U64 M.t.now)
  (hK:∀ T'' h'',RtI T5 h5 hp tp k n n' ws rs av xv tv W (M.tick b) (M.tick b) A X Ms T'' h''→K (.tuple #[]) h''):callM P qeBZ #[ptr tp,.int .u64 b] h' K:=by
 refine mtick_ok b hb y.o.wf g4 y.d ht fun T2 h2 o2 x2=>?_
 exact hK T2 h2 ⟨y.o.trans (o2.mono fun _ h=>.inl (.inr h)),y.m.up o2 d4UW (by simp[pre]),y.k,x2,y.c,y.s.kp o2 r4 (by simp[pre]),y.tw,y.tr⟩
theorem RtS.step {nw nh n:Nat}{R:Nat→Nat→Reply}{p:PR}(y:RtS nw nh n av xv tv (ptO W A) (fun j=>ptO W A (nw+j)) R T' h')(hp:W.ps i=some p)(z:Int):RtS nw nh n av xv tv (ptO (W.step i z) A) (fun j=>ptO (W.step i z) A (nw+j)) R T' h' :=
 y.congr (fun j _=>by unfold ptO; rw[isSome_step hp z]) (fun j _=>by unfold ptO; rw[isSome_step hp z]) fun _ _=>rfl
theorem rt_wstep (y:RtI T5 h5 hp tp k n n' ws rs av xv tv W M M A X Ms T' h')(hi:i<ws.length)(h8:ws.length+rs.length≤8)(hk:k<100000){p:WP}(hp':W.ps i=some (.w p)){z:Int}(hz:0≤z)
  (hK:∀ T'' h'' M',M'=(if p.placed<0∧(p.step W.H z).1.placed=z then (M.do_ i (X i)).1 else M)→(W.step i z).ps i=some (.w (p.step W.H z).1)→RtI T5 h5 hp tp (k+1) n n' ws rs av xv tv (W.step i z) M' M A X Ms T'' h''→K (.tuple #[]) h'') :
  callM P qcVZ #[ptr (A i),ptr hp,.int .i64 z] h' K:=by
 refine wdstep_w z y.o.wf y.m y.k hk hp' fun T2 h2 o2 m2=>?_
 obtain⟨c2,e2⟩:=y.c.step_w y.k.li y.k.hs hk y.k.ts hp' hi (by omega) h8 hz
 exact hK T2 h2 _ e2 (by rw[Wd.step_ps hp',if_pos rfl]; rfl) ⟨y.o.trans (o2.mono fun _=>U5.w),m2,y.k.step hk hp' z,y.d.kp o2.k dUW4 UW.nil,c2,(y.s.kp o2 rUW UW.nil).step hp' z,y.tw,y.tr⟩
theorem rt_rstep (y:RtI T5 h5 hp tp k (n+1) (n+1) ws rs av xv tv W M Md A X Ms T' h')(hM:Ms n=M){j:Nat}(hj:j<rs.length)(hk:k<100000){p:RP}(hp':W.ps (ws.length+j)=some (.r p))
  (hK:∀ T'' h'',(W.step (ws.length+j) n).ps (ws.length+j)=some (.r (p.step W.H n).1)→RtI T5 h5 hp tp (k+1) (n+1) (n+1) ws rs av xv tv (W.step (ws.length+j) n) M Md A X Ms T'' h''→K (.tuple #[]) h'') :
  callM P qaSZ #[ptr (A (ws.length+j)),ptr hp,.int .i64 n] h' K:=by
 subst hM
 refine wdstep_r n y.o.wf y.m y.k hk hp' fun T2 h2 o2 m2=>?_
 obtain⟨c2,e2⟩:=y.c.step_r y.k.li y.k.hs hk y.k.ts hp' (by omega) (by omega)
 have k2:=y.k.step hk hp' n
 rw[e2] at k2
 exact hK T2 h2 (by rw[Wd.step_ps hp',if_pos rfl]; rfl) ⟨y.o.trans (o2.mono fun _=>U5.w),m2,k2,y.d.kp o2.k dUW4 UW.nil,c2,(y.s.kp o2 rUW UW.nil).step hp' n,y.tw,y.tr⟩
theorem rt_do (y:RtI T5 h5 hp tp k n n' ws rs av xv tv W M Md A X Ms T' h')(x:OpD)(hx:OpW x)(hl:x.users.length<1000000){uv:Value}(hu:Sl 1 StrR (fz T' h') uv x.users){m:Nat}(hts:TS m Md)(hk:m<100000)
  (hK:∀ T'' h'' vv ev,Only (pre [4]) T' h' T'' h''→RpX (fz T'' h'') (Md.do_ i x).2 vv ev→RtI T5 h5 hp tp k n n' ws rs av xv tv W M (Md.do_ i x).1 A X Ms T'' h''→K (.agg (rplC (Md.do_ i x).2 vv ev).toArray) h'') :
  callM P qdMZ #[ptr tp,.int .i64 i,.agg (opC x uv).toArray] h' K:=by
 refine mdo_ok i x hx hl hu y.o.wf g4 y.d hts hk fun T2 h2 vv ev o2 d2 rx=>?_
 exact hK T2 h2 vv ev o2 rx ⟨y.o.trans (o2.mono fun _ h=>.inl (.inr h)),y.m.up o2 d4UW (by simp[pre]),y.k,d2,y.c,y.s.kp o2 r4 (by simp[pre]),y.tw,y.tr⟩
theorem bset_pt {W:Wd}{A:Nat→Nat}{i q:Nat}{p:PR}(j:Nat):ptO { W with ps:=bset W.ps i (some p) } (bset A i q) j=if j=i then ptr q else ptO W A j:=by
 by_cases h:j=i
 ·subst h; simp[ptO,bset_same]
 ·rw[if_neg h]; simp[ptO,bset_ne h]
theorem rt_wnew (y:RtI T5 h5 hp tp k n n' ws rs av xv tv W M Md A X Ms T' h')(hi:i<ws.length)(h8:ws.length+rs.length≤8)(hdn:∀ q,W.ps i=some q→q.done=true)(xw:OpW (X i))(hl:(X i).users.length<1000000){uv:Value}(hu:Sl 1 StrR (fz T' h') uv (X i).users)
  (hK:∀ h2 q,(∀ (Kh:Heap→Prop),(∀ T3 h3,RtI T5 h5 hp tp k n n' ws rs av xv tv { W with ps:=bset W.ps i (some (.w (wp0 W.H i (X i)))) } M Md (bset A i q) X Ms T3 h3→Kh h3)→ov (iaV (some (none,1)) av (.int .i64 i)) fun pv=>stM (some 1) pv (ptr q) h2 Kh)→K (ptr q) h2) :
  callM P qihZ #[ptr hp,.int .i64 i,.agg (opC (X i) uv).toArray] h' K:=by
 refine wdnew_w (by omega) (X i) xw hl hu y.o.wf y.m y.k (fun q hq=>Idle.done (y.k.li.pa i q hq) (hdn q hq) y.k.hs.n8.1) fun T2 h2 q o2 m2 k2=>?_
 refine hK h2 q fun Kh hKh=>?_
 have s2:=y.s.kp o2 (fun _ _=>not_non _) (not_non _)
 refine rw1_st o2.wf s2.a hi rfl rfl fun h3 o3 a3=>?_
 have n3:¬ (fun t:Tag=>t=[6]) []:=by simp
 have u3:∀ t:Tag,t=[6]→UR t:=fun t h=>.inl h
 have f3:=d5UR u3
 obtain⟨rv,w1,w2⟩:=s2.t
 refine hKh T2 h3 ⟨(y.o.up o2 non_up).trans (o3.mono fun t h=>.inr (u3 t h)),m2.up o3 (fun t ht=>f3 t (.inl ht)) n3,k2,(y.d.kp o2.k (Off.non _) (not_non _)).kp o3.k (fun t ht hh=>f3 t (.inr ht) hh) n3,y.c.new_w rfl rfl hi (by omega),
  RtS.congr (Pa:=bset (ptO W A) i (ptr q)) (Px:=fun j=>ptO W A (ws.length+j)) ⟨a3,s2.x.kp o3.k (by simp),rv,w1.kp o3.k (by simp),fun t ht=>(w2 t ht).kp o3 (by simp) n3⟩ (fun j hj=>?_) (fun j hj=>?_) (fun _ _=>rfl),y.tw,y.tr⟩
 ·rw[bset_pt]
  by_cases h:j=i
  ·subst h; rw[if_pos rfl,bset_same]
  ·rw[if_neg h,bset_ne h]
 ·rw[bset_pt,if_neg (by omega)]
theorem rt_rnew {j:Nat}(y:RtI T5 h5 hp tp k (n+1) (n+1) ws rs av xv tv W M Md A X Ms T' h')(hM:Ms n=M)(hj:j<rs.length)(h8:ws.length+rs.length≤8)(hk:k<100000)(hdn:∀ q,W.ps (ws.length+j)=some q→q.done=true)(xw:OpW (X (ws.length+j)))(xk:(X (ws.length+j)).kind=4∨(X (ws.length+j)).kind=5)(hl:(X (ws.length+j)).users.length<1000000){uv:Value}(hu:Sl 1 StrR (fz T' h') uv (X (ws.length+j)).users)
  (hK:∀ h2 q,(∀ (Kh:Heap→Prop),(∀ T3 h3,RtI T5 h5 hp tp k (n+1) (n+1) ws rs av xv tv { W with ps:=bset W.ps (ws.length+j) (some (.r (rp0 W.H (ws.length+j:Nat) (X (ws.length+j))))) } M Md (bset A (ws.length+j) q) X Ms T3 h3→Kh h3)→ov (iaV (some (none,1)) xv (.int .i64 j)) fun pv=>stM (some 1) pv (ptr q) h2 Kh)→K (ptr q) h2) :
  callM P qhpZ #[ptr hp,.int .i64 (ws.length+j:Nat),.agg (opC (X (ws.length+j)) uv).toArray] h' K:=by
 subst hM
 refine wdnew_r hk (by omega) (X (ws.length+j)) xw xk hl hu y.o.wf y.m y.k (fun q hq=>Idle.done (y.k.li.pa _ q hq) (hdn q hq) y.k.hs.n8.1) fun T2 h2 q o2 m2 k2=>?_
 refine hK h2 q fun Kh hKh=>?_
 have o2':Only UW T' h' T2 h2:=o2.mono fun _ h=>.inr (pre_trans (g:=[2]) (s:=[ws.length+j]) h)
 have s2:=y.s.kp o2' rUW UW.nil
 refine rw1_st o2.wf s2.x hj rfl rfl fun h3 o3 x3=>?_
 have n3:¬ (fun t:Tag=>t=[7]) []:=by simp
 have u3:∀ t:Tag,t=[7]→UR t:=fun t h=>.inr (.inl h)
 have f3:=d5UR u3
 obtain⟨rv,w1,w2⟩:=s2.t
 refine hKh T2 h3 ⟨(y.o.trans (o2'.mono fun _=>U5.w)).trans (o3.mono fun t h=>.inr (u3 t h)),m2.up o3 (fun t ht=>f3 t (.inl ht)) n3,k2,(y.d.kp o2'.k dUW4 UW.nil).kp o3.k (fun t ht hh=>f3 t (.inr ht) hh) n3,y.c.new_r (y.k.li.c) (by omega) (by omega),
  RtS.congr (Pa:=ptO W A) (Px:=bset (fun j=>ptO W A (ws.length+j)) j (ptr q)) ⟨s2.a.kp o3.k (by simp),x3,rv,w1.kp o3.k (by simp),fun t ht=>(w2 t ht).kp o3 (by simp) n3⟩ (fun i hi=>?_) (fun i hi=>?_) (fun _ _=>rfl),y.tw,y.tr⟩
 ·rw[bset_pt,if_neg (by omega)]
 ·rw[bset_pt]
  by_cases h:i=j
  ·subst h; rw[if_pos rfl,bset_same]
  ·rw[if_neg (by omega),bset_ne h]
end
end Go.Proofs.YtcnphhhcknhhaaaGreat
namespace Go.Proofs.YtcnphhhcknhhaaaGreat
open Go Go.Den Go.MapKept
set_option linter.unusedSimpArgs false
set_option linter.unusedVariables false
set_option maxRecDepth 20000
def RtJ (T5:Tags)(h5:Heap)(hp tp k n:Nat)(ws rs:List OpD)(av xv:Value)(X:Nat→OpD)(tv:Value)(h':Heap):Prop :=
 ∃ (T':Tags) (W:Wd) (M:Tbl) (A:Nat→Nat) (Ms:Nat→Tbl),RtI T5 h5 hp tp k n n ws rs av xv tv W M M A X Ms T' h'
def RtK (T5:Tags)(h5:Heap)(hp tp k n:Nat)(ws rs:List OpD)(av xv tv:Value)(W:Wd)(M:Tbl)(A:Nat→Nat)(X:Nat→OpD)(Ms:Nat→Tbl)(rowv jv:Value)(h':Heap):Prop :=
 ∃ T':Tags,∃ j:Nat,RtI T5 h5 hp tp k n n ws rs av xv tv W M M A X Ms T' h'∧RtR T' h' [8,n] (repOf X ws.length M) rowv j∧jv = .int .i64 j∧j≤rs.length
theorem RtI.mono {T5 T':Tags}{h5 h':Heap}{hp tp k k' n n':Nat}{ws rs:List OpD}{A:Nat→Nat}{av xv tv:Value}{W:Wd}{M Md:Tbl}{X:Nat→OpD}{Ms:Nat→Tbl}(y:RtI T5 h5 hp tp k n n' ws rs av xv tv W M Md A X Ms T' h')(h:k≤k'):RtI T5 h5 hp tp k' n n' ws rs av xv tv W M Md A X Ms T' h' :=
 ⟨y.o,y.m,⟨y.k.li,y.k.hs.mono h,y.k.ts.mono h⟩,y.d,y.c,y.s,y.tw,y.tr⟩
structure TrE (v1 hp tp nw nh:Nat)(av xv:Value)(n:Nat)(s:Env):Prop where
 s1:s 1=ptr v1
 s3:s 3=ptr hp
 s5:s 5=ptr tp
 s7:s 7 = .int .i64 (nw+nh:Nat)
 s8:s 8=av
 s9:s 9=xv
 s11:s 11 = .int .i64 n
theorem rep_read_len {M:Tbl}{x:OpD}(hx:x.kind=4∨x.kind=5):(M.do_ (0:Nat) x).2.vals.length≤x.users.length+1∧(M.do_ (0:Nat) x).2.evs=[]:=by
 rw[do_read M hx (by simp[clientB])]
 dsimp only
 split
 ·simp -implicitDefEqProofs[repE]
 split
 ·simp -implicitDefEqProofs[repE]
 ·refine⟨?_,rfl⟩
  rw[List.length_map]
  unfold usersOf
  split
  ·simp -implicitDefEqProofs
  split<;>simp
theorem unSSRp:P.underlying qbAZ=some (.slice qZZ):=by kernel_rfl
theorem apSRp:apC P qZZ=some (1,24,1):=by kernel_rfl
theorem bsSSRp:bsI P qbAZ=some (qZZ,1,#[.slice none 0 0]):=by kernel_rfl
theorem bsSRp:bsI P qZZ=some (qcZ,4,(rplC rep0 (.slice none 0 0) (.slice none 0 0)).toArray):=by kernel_rfl
section
variable {T5:Tags}{h5:Heap}{hp tp n v1:Nat}{c:Cfg}{ws rs:List OpD}{ts ks:List Int}{av xv tv wv rv tw kv:Value}{X:Nat→OpD}
set_option maxHeartbeats 4000000 in
theorem rt49 (f4:ws.length≤4)(f4':rs.length≤4)(hn:n<300)(hxl:∀ j,j<rs.length→(X (ws.length+j)).users.length≤20)
  {k:Nat} (hk:k<100000) {T':Tags} {h':Heap} {W:Wd} {M:Tbl} {A:Nat→Nat} {Ms:Nat→Tbl} (y:RtI T5 h5 hp tp k (n+1) (n+1) ws rs av xv tv W M M A X Ms T' h') (hM:Ms n=M)
  {s:Env} (t:TrE v1 hp tp ws.length rs.length av xv n s) (s10:s 10=tv) {j:Nat} (hj:j<rs.length) (s16:s 16 = .int .i64 j) {p:RP} (hp':W.ps (ws.length+j)=some (.r p)) {Q:Post}
  (hQ:∀ s' h'',TrE v1 hp tp ws.length rs.length av xv n s'→s' 10=tv→RtJ T5 h5 hp tp (k+1) (n+1) ws rs av xv X tv h''→Q .normal [] s' h''):qapZ s h' Q []:=by
 obtain⟨t1,t3,t5,t7,t8,t9,t11⟩:=t
 obtain⟨b,ia,cb⟩:=y.rx hj
 rw[ptO_some hp'] at cb
 unfold qapZ
 simp -implicitDefEqProofs[t9,s16,ia,cb,t3,t11]
 refine rt_rstep y hM hj hk hp' fun T2 h2 hps y2=>?_
 obtain⟨b2,ia2,cb2⟩:=y2.rx hj
 rw[ptO_some hps] at cb2
 have xr:RPR T2 h2 [2,ws.length+j] (A (ws.length+j)) (p.step W.H n).1:=y2.m.ps _ _ hps
 unfold qhlZ
 simp -implicitDefEqProofs[t9,s16,ia2,cb2]
 refine rdone_ok xr ?_
 unfold qhkZ
 by_cases h8:(p.step W.H n).1.ph=8
 rotate_left
 ·simp -implicitDefEqProofs[h8]
  unfold qhgZ
  exact hQ _ _ ⟨by simp[t1],by simp[t3],by simp[t5],by simp[t7],by simp[t8],by simp[t9],by simp[t11]⟩ (by simp[s10]) ⟨T2,_,_,_,_,y2⟩
 simp -implicitDefEqProofs[h8]
 obtain⟨at_,hat,hpl,hrep⟩:=y2.c.fin y2.k.hs hps (by omega) (by omega) h8 (who:=((0:Nat):Int)) (by simp[clientB])
 unfold qhjZ
 simp -implicitDefEqProofs[t9,s16,ia2,cb2]
 refine rplaced_ok xr ?_
 rw[hpl]
 obtain⟨rvf,row,hrow⟩:=y2.s.t
 obtain⟨bt,hbt,iat,cbt⟩:=row1_at (k:=.i64) row.1 hat
 obtain⟨vv,ev,w1,w2⟩:=hrow at_ hat
 have hF:∀ i,i<rs.length→(rplC (repOf X ws.length (Ms at_) i) (vv i) (ev i)).length=4:=fun _ _=>rfl
 obtain⟨g,hg,ia4⟩:=w1.1.ia (k:=.i64) hj
 have c4:=w1.1.cels hg (o:=j*4) (m:=4) (by omega)
 rw[seqF_at hF hj] at c4
 have h0:¬ ((at_:Nat):Int)<0:=by omega
 have h1:¬ (n:Int)<(at_:Nat):=by omega
 have hrep':(PR.r (p.step W.H n).1).rep=repOf X ws.length (Ms at_) j:=hrep
 unfold qhiZ
 simp -implicitDefEqProofs[h0,h1,t9,s16,ia2,cb2,s10,t11,iat,cbt,ia4,ldV_n c4]
 refine rreply_ok y2.o.wf (g2i _) xr fun h3 va e3 hva _=>?_
 have rx:RpX (fz T2 h3) (repOf X ws.length (Ms at_) j) va (.slice none 0 0):=by
  rw[← hrep']
  simp -implicitDefEqProofs only[PR.rep,h8,if_true]
  exact⟨hva h8,.inl ⟨rfl,_,_,rfl⟩⟩
 have hval:(#[Value.int .i64 (if (p.step W.H n).1.ph=8 then (p.step W.H n).1.err else 0),va,.slice none 0 0,.bool false]:Array Value)=(rplC (repOf X ws.length (Ms at_) j) va (.slice none 0 0)).toArray:=by
  rw[← hrep']
  simp -implicitDefEqProofs only[PR.rep,h8,if_true]; rfl
 rw[hval]
 have c4':=cels_ext e3 c4
 have cbt':cel h3 bt at_=some (rvf at_):=by
  obtain⟨bt',_,ia',cb'⟩:=row1_at (k:=.i64) (row.1.ext e3) hat
  rw[iat] at ia'; cases ia'; exact cb'
 simp -implicitDefEqProofs[ldV_n c4',cbt']
 have hx:=y2.c.kr (ws.length+j) (by omega) (by omega)
 obtain⟨l1,l2⟩:=rep_read_len (M:=Ms at_) hx
 have hxj:=hxl j hj
 refine repSame_ok _ _ (rx.ext (fz_ext _ _)) ((w2 j hj).ext ((fz_ext _ _).trans e3)) (Nat.lt_of_le_of_lt l1 (by omega)) (by show (repOf X ws.length (Ms at_) j).evs.length<_; unfold repOf; rw[l2]; simp) fun h4 e4=>?_
 simp -implicitDefEqProofs
 unfold qhhZ
 exact hQ _ _ ⟨by simp[t1],by simp[t3],by simp[t5],by simp[t7],by simp[t8],by simp[t9],by simp[t11]⟩ (by simp[s10]) ⟨T2,_,_,_,_,y2.ext (e3.trans e4)⟩
set_option maxHeartbeats 4000000 in
theorem rt45 (f4:ws.length≤4)(f4':rs.length≤4)(hn:n<300)(sr:∀ x∈rs,shortB x=true)(xF:Cr6X (fz T5 h5) c ws rs ts ks wv rv tw kv)(cb:h5 v1=some (.cells (cr6C c wv rv tw kv).toArray qvZ (0,0))∧T5 v1=[])
  {k:Nat} (hk:k<100000) {T':Tags} {h':Heap} {W:Wd} {M:Tbl} {A:Nat→Nat} {Ms:Nat→Tbl} (y:RtI T5 h5 hp tp k (n+1) (n+1) ws rs av xv tv W M M A X Ms T' h') (hM:Ms n=M)
  {s:Env} (t:TrE v1 hp tp ws.length rs.length av xv n s) {j:Nat} (hj:j<rs.length) (s12:s 12 = .int .i64 (ws.length+j:Nat)) (hdn:∀ q,W.ps (ws.length+j)=some q→q.done=true) {Q:Post}
  (hQ:∀ s' h'',TrE v1 hp tp ws.length rs.length av xv n s'→s' 10=tv→RtJ T5 h5 hp tp (k+1) (n+1) ws rs av xv X tv h''→Q .normal [] s' h'') (a1 a3 a4 a5 a6 a7 a8 a9 a10 a11 a12 a13 a14 a15 a16 a17 a18:Value) :
  qdIZ s h' (.int .i64 j) (thenM (fun m s269 h270=>qapZ s269 h270 Q m) (blkM 1 Q)) [] a1 tv a3 a4 a5 a6 a7 a8 a9 a10 a11 a12 a13 a14 a15 a16 a17 a18:=by
 have t':=t
 obtain⟨t1,t3,t5,t7,t8,t9,t11⟩:=t'
 have hxl:∀ j,j<rs.length→(X (ws.length+j)).users.length≤20:=fun j hj=>by
  rw[y.tr j hj]
  have:=sr _ (List.getElem_mem hj)
  simp -implicitDefEqProofs[shortB] at this; exact this.2.1
 have b7:=y.o.see cb U16.nil
 have c8:cel h' v1 8=some rv:=by simp[cel_of b7.1,cr6C,cfgC]
 have eF:=(y.o.ext U16.nil).trans (fz_ext _ _)
 obtain⟨bw,pw,uw,w1,w2,w3,w4⟩:=opsAt xF.r hj
 unfold qdIZ
 simp -implicitDefEqProofs[t1,c8,w1,w2 _ eF]
 refine reading_ok _ w3.one fun h3 e3=>?_
 have y3:=y.ext e3
 have hX:=y.tr j hj
 have Xw:OpW (X (ws.length+j)):=by rw[hX]; exact rdOp_w w4
 have Xk:(X (ws.length+j)).kind=4∨(X (ws.length+j)).kind=5:=by rw[hX]; exact rdOp_k _
 have Xu:(X (ws.length+j)).users=rs[j].users:=by rw[hX]; rfl
 have hxj:=hxl j hj
 unfold qheZ
 rw[← hX]
 simp -implicitDefEqProofs[t3,s12,-Int.natCast_add]
 refine rt_rnew y3 hM hj (by omega) hk hdn Xw Xk (by omega) (by rw[Xu]; exact w3.ext (@StrR.ext) (y3.o.ext U16.nil)) fun h4 q hK=>?_
 unfold qhdZ
 obtain⟨bx,ixa,_⟩:=y3.rx hj
 simp -implicitDefEqProofs[t9,ixa]
 refine ov_of ixa (hK _ fun T5' h5' y5=>?_)
 exact rt49 f4 f4' hn hxl hk y5 hM ⟨by simp[t1],by simp[t3],by simp[t5],by simp[t7],by simp[t8],by simp[t9],by simp[t11]⟩ (by simp) hj (by simp) (bset_same _ _ _) hQ
set_option maxHeartbeats 4000000 in
theorem rt44 (f4:ws.length≤4)(f4':rs.length≤4)(hn:n<300)(sr:∀ x∈rs,shortB x=true)(xF:Cr6X (fz T5 h5) c ws rs ts ks wv rv tw kv)(cb:h5 v1=some (.cells (cr6C c wv rv tw kv).toArray qvZ (0,0))∧T5 v1=[])
  {k:Nat} (hk:k<100000) {T':Tags} {h':Heap} {W:Wd} {M:Tbl} {A:Nat→Nat} {Ms:Nat→Tbl} (y:RtI T5 h5 hp tp k (n+1) (n+1) ws rs av xv tv W M M A X Ms T' h') (hM:Ms n=M)
  {s:Env} (t:TrE v1 hp tp ws.length rs.length av xv n s) {j:Nat} (hj:j<rs.length) (s12:s 12 = .int .i64 (ws.length+j:Nat)) {Q:Post}
  (hQ:∀ s' h'',TrE v1 hp tp ws.length rs.length av xv n s'→s' 10=tv→RtJ T5 h5 hp tp (k+1) (n+1) ws rs av xv X tv h''→Q .normal [] s' h'') (a1 a3 a4 a5 a6 a7 a8 a9:Value) :
  qdJZ s (.int .i64 j) h' (thenM (fun m s269 h270=>qapZ s269 h270 Q m) (blkM 1 Q)) [] a1 tv a3 a4 a5 a6 a7 a8 a9:=by
 have t':=t
 obtain⟨t1,t3,t5,t7,t8,t9,t11⟩:=t'
 have hxl:∀ j,j<rs.length→(X (ws.length+j)).users.length≤20:=fun j hj=>by
  rw[y.tr j hj]
  have:=sr _ (List.getElem_mem hj)
  simp -implicitDefEqProofs[shortB] at this; exact this.2.1
 obtain⟨b,ia,cb8⟩:=y.rx hj
 unfold qdJZ
 cases hps:W.ps (ws.length+j) with
 | none =>
  rw[ptO_none hps] at cb8
  have en:binV .eql 4 true (.pointer none) (.pointer none)=some (.bool true):=rfl
  simp -implicitDefEqProofs[t9,ia,cb8,en]
  exact rt45 f4 f4' hn sr xF cb hk y hM t hj s12 (fun q hq=>by rw[hps] at hq; cases hq) hQ _ _ _ _ _ _ _ _ _ _ _ _ _ _ _ _ _
 | some q =>
  obtain⟨p,_,rfl,_⟩:=y.c.r _ q (by omega) hps
  rw[ptO_some hps] at cb8
  have en:binV .eql 4 true (ptr (A (ws.length+j))) (.pointer none)=some (.bool false):=rfl
  simp -implicitDefEqProofs[t9,ia,cb8,en]
  have xr:RPR T' h' [2,ws.length+j] (A (ws.length+j)) p:=y.m.ps _ _ hps
  refine rdone_ok xr ?_
  by_cases h8:p.ph=8
  ·simp -implicitDefEqProofs[h8]
   exact rt45 f4 f4' hn sr xF cb hk y hM t hj s12 (fun q hq=>by rw[hps] at hq; cases hq; simp[PR.done,h8]) hQ _ _ _ _ _ _ _ _ _ _ _ _ _ _ _ _ _
  ·simp -implicitDefEqProofs[h8]
   unfold qhfZ
   simp -implicitDefEqProofs
   exact rt49 f4 f4' hn hxl hk y hM ⟨by simp[t1],by simp[t3],by simp[t5],by simp[t7],by simp[t8],by simp[t9],by simp[t11]⟩ (by simp) hj (by simp) hps hQ
set_option maxHeartbeats 4000000 in
theorem rt40 (f4:ws.length≤4)(f4':rs.length≤4)(hn:n<300)(sr:∀ x∈rs,shortB x=true)(xF:Cr6X (fz T5 h5) c ws rs ts ks wv rv tw kv)(cb:h5 v1=some (.cells (cr6C c wv rv tw kv).toArray qvZ (0,0))∧T5 v1=[])
  {k:Nat} (hk:k<100000) {T':Tags} {h':Heap} {W:Wd} {M:Tbl} {A:Nat→Nat} {Ms:Nat→Tbl} (y:RtI T5 h5 hp tp k n n ws rs av xv tv W M M A X Ms T' h') {rowv:Value} (hr:RtR T' h' [8,n] (repOf X ws.length M) rowv rs.length)
  {s:Env} (t:TrE v1 hp tp ws.length rs.length av xv n s) (s10:s 10=tv) (s14:s 14=rowv) {i:Nat} (hi:i<ws.length+rs.length) (s12:s 12 = .int .i64 i) {Q:Post}
  (hQ:∀ s' h'',TrE v1 hp tp ws.length rs.length av xv n s'→RtJ T5 h5 hp tp (k+1) (n+1) ws rs av xv X (s' 10) h''→Q .normal [] s' h''):qdKZ s h' Q []:=by
 have t':=t
 obtain⟨t1,t3,t5,t7,t8,t9,t11⟩:=t'
 obtain⟨vv,ev,hrow,hrx⟩:=hr
 have ro:=hrow.one
 obtain⟨rvf,row,hrw⟩:=y.s.t
 unfold qdKZ
 simp -implicitDefEqProofs only[s14,s10]
 refine Rw.appk bsSSRp unSSRp apSRp (by omega) (by rw[ro.2]; rfl) (by rw[ro.2]; simp[ro.1]) y.o.wf row (by unfold maxLen; omega) (by omega) (by omega) (by simp) fun a' v' T2 h2 o2 row2 _ _=>?_
 have u2:∀ t:Tag,t=[9]→UR t:=fun t h=>.inr (.inr (.inl h))
 have f2:=d5UR u2
 have n2:¬ (fun t:Tag=>t=[9]) []:=by simp
 obtain⟨Ms',hMs'⟩:∃ Ms',Ms'=bset Ms n M:=⟨_,rfl⟩
 have hMn:Ms' n=M:=by rw[hMs',bset_same]
 have hrR:RtR T' h' [8,n] (repOf X ws.length (Ms' n)) rowv rs.length:=by rw[hMn]; exact⟨vv,ev,hrow,hrx⟩
 have y2:RtI T5 h5 hp tp k (n+1) (n+1) ws rs av xv v' W M M A X Ms' T2 h2:=by
  refine⟨y.o.trans (o2.mono fun t h=>.inr (u2 t h)),y.m.up o2 (fun t ht=>f2 t (.inl ht)) n2,y.k,y.d.kp o2.k (fun t ht hh=>f2 t (.inr ht) hh) n2,by rw[hMs']; exact y.c.more M,⟨y.s.a.kp o2.k (by simp),y.s.x.kp o2.k (by simp),bset rvf n rowv,?_,fun t ht=>?_⟩,y.tw,y.tr⟩
  ·have:(seqF (n+1) fun t=>[bset rvf n rowv t])=(seqF n fun t=>[rvf t])++rowv.cells.toList:=by
    rw[seqF_succ,bset_same,ro.2]
    congr 1
    exact seqF_congr fun t ht=>by rw[bset_ne (by omega)]
   rw[this]; exact row2
  ·by_cases h:t=n
   ·subst h
    rw[bset_same]
    exact hrR.kp o2 (by simp) n2
   ·rw[bset_ne h]
    have:Ms' t=Ms t:=by rw[hMs',bset_ne h]
    rw[this]
    exact (hrw t (by omega)).kp o2 (by simp) n2
 have b7:=y2.o.see cb U16.nil
 have c7:cel h2 v1 7=some wv:=by simp[cel_of b7.1,cr6C,cfgC]
 have wl:=xF.w.len
 unfold qhnZ
 simp -implicitDefEqProofs[t1,c7,wl,s12]
 refine⟨fun hw=>?_,fun hw=>?_⟩
 ·unfold qhcZ
  exact hQ _ _ ⟨by simp[t1],by simp[t3],by simp[t5],by simp[t7],by simp[t8],by simp[t9],by simp[t11]⟩ ⟨T2,W,M,A,Ms',by simpa using y2.mono (by omega)⟩
 ·have hj0:i-ws.length<rs.length:=by omega
  obtain⟨j,hjj⟩:∃ j,j=i-ws.length:=⟨_,rfl⟩
  have hij:i=ws.length+j:=by omega
  have hj:j<rs.length:=by omega
  clear hjj hj0
  subst hij
  have hwl:IntKind.i64.wrap (((ws.length+j:Nat):Int)-ws.length)=(j:Nat):=by rw[wrap64_id (by omega) (by omega)]; omega
  unfold qhmZ
  simp -implicitDefEqProofs[t1,c7,wl,hwl,s12,-Int.natCast_add]
  rw[seqM_eq]
  refine rt44 f4 f4' hn sr xF cb hk y2 hMn t hj s12 (fun s' h'' a b c=>hQ s' h'' a (by rw[b]; exact c)) _ _ _ _ _ _ _ _
set_option maxHeartbeats 4000000 in
theorem rt33 (f4:ws.length≤4)(f4':rs.length≤4)(hn:n<300)(sr:∀ x∈rs,shortB x=true)(xF:Cr6X (fz T5 h5) c ws rs ts ks wv rv tw kv)(cb:h5 v1=some (.cells (cr6C c wv rv tw kv).toArray qvZ (0,0))∧T5 v1=[])
  {k:Nat} (hk:k<90000) {T':Tags} {h':Heap} {W:Wd} {M:Tbl} {A:Nat→Nat} {Ms:Nat→Tbl} (y:RtI T5 h5 hp tp k n n ws rs av xv tv W M M A X Ms T' h')
  {s:Env} (t:TrE v1 hp tp ws.length rs.length av xv n s) (s10:s 10=tv) {i:Nat} (hi:i<ws.length+rs.length) (s12:s 12 = .int .i64 i) {Q:Post}
  (hQ:∀ s' h'',TrE v1 hp tp ws.length rs.length av xv n s'→RtJ T5 h5 hp tp (k+1) (n+1) ws rs av xv X (s' 10) h''→Q .normal [] s' h''):qbtZ [] s h' Q:=by
 have t':=t
 obtain⟨t1,t3,t5,t7,t8,t9,t11⟩:=t'
 have rl:=xF.r.len
 unfold qbtZ
 rw[seqM_eq]
 unfold qhbZ
 refine loop_on [1,3,5,7,8,9,10,11,12] (fun r h''=>RtK T5 h5 hp tp k n ws rs av xv tv W M A X Ms (r 14) (r 15) h'') (fun r _=>(10-num (r 15)).toNat) ⟨T',0,y,⟨fun _=>.slice none 0 0,fun _=>.slice none 0 0,by have:=Rw.nil T' h' [8,n] 4 qcZ; simpa [seqF] using this,fun j hj=>by omega⟩,by simp,by omega⟩ ?_
 rintro r h6 hf ⟨T6,j,y6,hr6,r15,hj⟩
 have r1:r 1=ptr v1:=by simpa [t1] using hf 1 (by simp)
 have r3:r 3=ptr hp:=by simpa [t3] using hf 3 (by simp)
 have r5:r 5=ptr tp:=by simpa [t5] using hf 5 (by simp)
 have r7:r 7 = .int .i64 (ws.length+rs.length:Nat):=by simpa [t7] using hf 7 (by simp)
 have r8:r 8=av:=by simpa [t8] using hf 8 (by simp)
 have r9:r 9=xv:=by simpa [t9] using hf 9 (by simp)
 have r10:r 10=tv:=by simpa [s10] using hf 10 (by simp)
 have r11:r 11 = .int .i64 n:=by simpa [t11] using hf 11 (by simp)
 have r12:r 12 = .int .i64 i:=by simpa [s12] using hf 12 (by simp)
 have b7:=y6.o.see cb U16.nil
 have c8:cel h6 v1 8=some rv:=by simp[cel_of b7.1,cr6C,cfgC]
 unfold qhaZ
 simp -implicitDefEqProofs[r1,c8,rl,r15]
 refine⟨fun hc=>?_,fun hc=>?_⟩
 ·have hlt:j<rs.length:=by omega
  have hw1:IntKind.i64.wrap ((j:Int)+1)=(j+1:Nat):=by rw[wrap64_id (by omega) (by omega)]; omega
  have eF:=(y6.o.ext U16.nil).trans (fz_ext _ _)
  obtain⟨bw,pw,uw,w1,w2,w3,w4⟩:=opsAt xF.r hlt
  have hsx:=sr _ (List.getElem_mem hlt)
  have lx:rs[j].users.length≤20:=by simp[shortB] at hsx; exact hsx.2.1
  unfold qgZZ
  simp -implicitDefEqProofs[r1,c8,r15,w1,w2 _ eF]
  refine reading_ok _ w3.one fun h7 e7=>?_
  have y7:=y6.ext e7
  have hX:=y.tr j hlt
  have Xw:OpW (X (ws.length+j)):=by rw[hX]; exact rdOp_w w4
  have Xk:(X (ws.length+j)).kind=4∨(X (ws.length+j)).kind=5:=by rw[hX]; exact rdOp_k _
  have Xu:(X (ws.length+j)).users=rs[j].users:=by rw[hX]; rfl
  unfold qgYZ
  rw[← hX]
  simp -implicitDefEqProofs[r5,r12]
  have hdo:=do_read M (who:=(i:Int)) Xk (by simp[clientB]; omega)
  have hdo0:=do_read M (who:=((0:Nat):Int)) Xk (by simp[clientB])
  have hrp:(M.do_ i (X (ws.length+j))).2=repOf X ws.length M j:=by unfold repOf; rw[hdo,hdo0]
  refine rt_do (i:=i) y7 (X (ws.length+j)) Xw (by rw[Xu]; omega) (by rw[Xu]; exact w3.ext (@StrR.ext) (y7.o.ext U16.nil)) y.k.ts (by omega) fun T8 h8 vv ev o8 rx y8=>?_
  rw[hrp] at rx ⊢
  have hM1:(M.do_ i (X (ws.length+j))).1=M:=by rw[hdo]
  rw[hM1] at y8
  have e78:Only non T6 h6 T6 h7:=Only.of_ext y6.o.wf e7
  have hr8:=(hr6.kp e78 (not_non _) (not_non _)).kp o8 (by simp[pre]) (by simp[pre])
  obtain⟨vvf,evf,q1,q2⟩:=hr8
  have vo:=rx.v.one
  have eo:=rx.e.one
  unfold qgXZ
  refine Rw.appk bsSRp unSlRp apRp (by omega) (by simp[rplC]) (by simp[rplC,vo.1,eo.1]) y8.o.wf q1 (by unfold maxLen; omega) (by omega) (by omega) (by simp) fun a' v' T9 h9 o9 row9 _ _=>?_
  have u9:∀ t:Tag,t=[8,n]→UR t:=fun t h=>.inr (.inr (.inr ⟨[n],h.symm▸rfl⟩))
  have f9:=d5UR u9
  have n9:¬ (fun t:Tag=>t=[8,n]) []:=by simp
  have y9:RtI T5 h5 hp tp k n n ws rs av xv tv W M M A X Ms T9 h9 :=
   ⟨y8.o.trans (o9.mono fun t h=>.inr (u9 t h)),y8.m.up o9 (fun t ht=>f9 t (.inl ht)) n9,y8.k,y8.d.kp o9.k (fun t ht hh=>f9 t (.inr ht) hh) n9,y8.c,y8.s.kp1 o9 (by simp) (by simp) (by simp) (fun t ht=>by simp; omega) n9,y8.tw,y8.tr⟩
  have hr9:RtR T9 h9 [8,n] (repOf X ws.length M) v' (j+1):=by
   refine⟨bset vvf j vv,bset evf j ev,?_,fun m hm=>?_⟩
   ·have:(seqF (j+1) fun m=>rplC (repOf X ws.length M m) (bset vvf j vv m) (bset evf j ev m))=(seqF j fun m=>rplC (repOf X ws.length M m) (vvf m) (evf m))++(Value.agg (rplC (repOf X ws.length M j) vv ev).toArray).cells.toList:=by
     rw[seqF_succ,bset_same,bset_same]
     congr 1
     exact seqF_congr fun m hm=>by rw[bset_ne (by omega),bset_ne (by omega)]
    rw[this]; exact row9
   ·by_cases h:m=j
    ·subst h; rw[bset_same,bset_same]; exact rx.ext (o9.ext n9)
    ·rw[bset_ne h,bset_ne h]; exact (q2 m (by omega)).ext (o9.ext n9)
  unfold qgWZ
  simp -implicitDefEqProofs[r1,r3,r5,r7,r8,r9,r10,r11,r12,r15,t1,t3,t5,t7,t8,t9,t11,s10,s12,hw1,-Int.natCast_add]
  exact⟨⟨T9,j+1,y9,hr9,rfl,by omega⟩,by omega⟩
 ·have hje:j=rs.length:=by omega
  subst hje
  simp -implicitDefEqProofs
  exact rt40 f4 f4' hn sr xF cb (by omega) y6 hr6 ⟨by simp[r1],by simp[r3],by simp[r5],by simp[r7],by simp[r8],by simp[r9],by simp[r11]⟩ (by simp[r10]) (by simp) hi (by simp[r12]) hQ
set_option maxHeartbeats 4000000 in
theorem rt25 (f4:ws.length≤4)(f4':rs.length≤4)(hn:n<300)(sr:∀ x∈rs,shortB x=true)(xF:Cr6X (fz T5 h5) c ws rs ts ks wv rv tw kv)(cb:h5 v1=some (.cells (cr6C c wv rv tw kv).toArray qvZ (0,0))∧T5 v1=[])
  {k:Nat} (hk:k<90000) {T':Tags} {h':Heap} {W:Wd} {M:Tbl} {A:Nat→Nat} {Ms:Nat→Tbl} (y:RtI T5 h5 hp tp k n n ws rs av xv tv W M M A X Ms T' h') (sw:∀ x∈ws,shortB x=true)
  {s:Env} (t:TrE v1 hp tp ws.length rs.length av xv n s) (s10:s 10=tv) {i:Nat} (hi:i<ws.length) (s12:s 12 = .int .i64 i) {p:WP} (hp':W.ps i=some (.w p)) {Q:Post}
  (hQ:∀ s' T'' h'' W' M',TrE v1 hp tp ws.length rs.length av xv n s'→s' 10=tv→s' 12 = .int .i64 i→RtI T5 h5 hp tp (k+1) n n ws rs av xv tv W' M' M' A X Ms T'' h''→Q .normal [] s' h''):qbsZ s h' Q []:=by
 obtain⟨t1,t3,t5,t7,t8,t9,t11⟩:=t
 obtain⟨b,ia,cb8⟩:=y.ra hi
 rw[ptO_some hp'] at cb8
 unfold qbsZ
 simp -implicitDefEqProofs[t8,s12,ia,cb8]
 refine wplaced_ok (y.m.ps i _ hp') ?_
 unfold qgSZ
 simp -implicitDefEqProofs[t8,s12,ia,cb8,t3,t11]
 refine rt_wstep y hi (by omega) (by omega) hp' (z:=(n:Int)) (by omega) fun T2 h2 M' hM' hps y2=>?_
 unfold qgRZ
 obtain⟨b2,ia2,cb2⟩:=y2.ra hi
 rw[ptO_some hps] at cb2
 by_cases hpl:p.placed<0
 ·simp -implicitDefEqProofs[hpl,t8,s12,ia2,cb2]
  refine wplaced_ok (y2.m.ps i _ hps) ?_
  simp -implicitDefEqProofs[t11]
  by_cases hpn:(p.step W.H n).1.placed=n
  ·simp -implicitDefEqProofs[hpn]
   rw[if_pos ⟨hpl,hpn⟩] at hM'
   obtain⟨bw,pw,uw,w1,w2,w3,w4⟩:=opsAt xF.w hi
   have hsw:=sw _ (List.getElem_mem hi)
   have lw:=short_users hsw
   have b7:=y2.o.see cb U16.nil
   have c7:cel h2 v1 7=some wv:=by simp[cel_of b7.1,cr6C,cfgC]
   have eF:=(y2.o.ext U16.nil).trans (fz_ext _ _)
   unfold qgQZ
   simp -implicitDefEqProofs[t1,c7,s12,w1,w2 _ eF]
   refine writing16_ok _ w3.one fun h3 e3=>?_
   have y3:=y2.ext e3
   have hX:=y.tw i hi
   have Xw:OpW (X i):=by rw[hX]; exact wrOp_w w4
   have Xu:(X i).users=ws[i].users:=by rw[hX]; rfl
   unfold qgPZ
   rw[← hX]
   simp -implicitDefEqProofs[t5,s12]
   refine rt_do (i:=i) y3 (X i) Xw (by rw[Xu]; omega) (by rw[Xu]; exact w3.ext (@StrR.ext) (y3.o.ext U16.nil)) y.k.ts (by omega) fun T4 h4 vv ev o4 rx y4=>?_
   rw[← hM'] at y4
   unfold qgOZ
   exact hQ _ T4 h4 _ _ ⟨by simp[t1],by simp[t3],by simp[t5],by simp[t7],by simp[t8],by simp[t9],by simp[t11]⟩ (by simp[s10]) (by simp[s12]) y4
  ·simp -implicitDefEqProofs[hpn]
   rw[if_neg fun h=>hpn h.2] at hM'
   subst hM'
   unfold qdHZ
   exact hQ _ T2 h2 _ _ ⟨by simp[t1],by simp[t3],by simp[t5],by simp[t7],by simp[t8],by simp[t9],by simp[t11]⟩ (by simp[s10]) (by simp[s12]) y2
 ·simp -implicitDefEqProofs[hpl]
  rw[if_neg fun h=>hpl h.1] at hM'
  subst hM'
  unfold qdHZ
  exact hQ _ T2 h2 _ _ ⟨by simp[t1],by simp[t3],by simp[t5],by simp[t7],by simp[t8],by simp[t9],by simp[t11]⟩ (by simp[s10]) (by simp[s12]) y2
set_option maxHeartbeats 4000000 in
theorem rt21 (f4:ws.length≤4)(f4':rs.length≤4)(hn:n<300)(sr:∀ x∈rs,shortB x=true)(xF:Cr6X (fz T5 h5) c ws rs ts ks wv rv tw kv)(cb:h5 v1=some (.cells (cr6C c wv rv tw kv).toArray qvZ (0,0))∧T5 v1=[])
  {k:Nat} (hk:k<90000) {T':Tags} {h':Heap} {W:Wd} {M:Tbl} {A:Nat→Nat} {Ms:Nat→Tbl} (y:RtI T5 h5 hp tp k n n ws rs av xv tv W M M A X Ms T' h') (sw:∀ x∈ws,shortB x=true)
  {s:Env} (t:TrE v1 hp tp ws.length rs.length av xv n s) (s10:s 10=tv) {i:Nat} (hi:i<ws.length) (hdn:∀ q,W.ps i=some q→q.done=true) {Q:Post}
  (hQ:∀ s' T'' h'' W' M' A',TrE v1 hp tp ws.length rs.length av xv n s'→s' 10=tv→s' 12 = .int .i64 i→RtI T5 h5 hp tp (k+1) n n ws rs av xv tv W' M' M' A' X Ms T'' h''→Q .normal [] s' h'') (a1 a2 a3 a4 a5 a6 a7 a8 a9 a10 a11 a12 a13 a14 a15 a16 a17 a18:Value) :
  qdGZ s h' (.int .i64 i) (thenM (fun m s154 h155=>qbsZ s154 h155 Q m) Q) [] a1 a2 a3 a4 a5 a6 a7 a8 a9 a10 a11 a12 a13 a14 a15 a16 a17 a18:=by
 have t':=t
 obtain⟨t1,t3,t5,t7,t8,t9,t11⟩:=t'
 have b7:=y.o.see cb U16.nil
 have c7:cel h' v1 7=some wv:=by simp[cel_of b7.1,cr6C,cfgC]
 have eF:=(y.o.ext U16.nil).trans (fz_ext _ _)
 obtain⟨bw,pw,uw,w1,w2,w3,w4⟩:=opsAt xF.w hi
 have hsw:=sw _ (List.getElem_mem hi)
 have lw:=short_users hsw
 unfold qdGZ
 simp -implicitDefEqProofs[t1,c7,w1,w2 _ eF]
 refine writing16_ok _ w3.one fun h3 e3=>?_
 have y3:=y.ext e3
 have hX:=y.tw i hi
 have Xw:OpW (X i):=by rw[hX]; exact wrOp_w w4
 have Xu:(X i).users=ws[i].users:=by rw[hX]; rfl
 unfold qgLZ
 rw[← hX]
 simp -implicitDefEqProofs[t3]
 refine rt_wnew y3 hi (by omega) hdn Xw (by rw[Xu]; omega) (by rw[Xu]; exact w3.ext (@StrR.ext) (y3.o.ext U16.nil)) fun h4 q hK=>?_
 unfold qgKZ
 obtain⟨bx,ixa,_⟩:=y3.ra hi
 simp -implicitDefEqProofs[t8,ixa]
 refine ov_of ixa (hK _ fun T5' h5' y5=>?_)
 exact rt25 f4 f4' hn sr xF cb hk y5 sw ⟨by simp[t1],by simp[t3],by simp[t5],by simp[t7],by simp[t8],by simp[t9],by simp[t11]⟩ (by simp[s10]) hi (by simp) (bset_same _ _ _) fun s' T'' h'' W' M' a b c d=>hQ s' T'' h'' W' M' _ a b c d
end
end Go.Proofs.YtcnphhhcknhhaaaGreat
namespace Go.Proofs.YtcnphhhcknhhaaaGreat
open Go Go.Den Go.MapKept
set_option linter.unusedSimpArgs false
set_option linter.unusedVariables false
set_option maxRecDepth 20000
section
variable {T5:Tags}{h5:Heap}{hp tp n v1:Nat}{c:Cfg}{ws rs:List OpD}{ts ks:List Int}{av xv tv wv rv tw kv:Value}{X:Nat→OpD}
set_option maxHeartbeats 4000000 in
theorem rt17 (ft:Fits6 c ws rs ts)(xF:Cr6X (fz T5 h5) c ws rs ts ks wv rv tw kv)(cb:h5 v1=some (.cells (cr6C c wv rv tw kv).toArray qvZ (0,0))∧T5 v1=[])
  {k:Nat} (hk:k<80000) (hn:n<ts.length) {T':Tags} {h':Heap} {W:Wd} {M:Tbl} {A:Nat→Nat} {Ms:Nat→Tbl} (y:RtI T5 h5 hp tp k n n ws rs av xv tv W M M A X Ms T' h')
  {s:Env} (t:TrE v1 hp tp ws.length rs.length av xv n s) (s10:s 10=tv) {Q:Post}
  (hQ:∀ s' h'',TrE v1 hp tp ws.length rs.length av xv n s'→RtJ T5 h5 hp tp (k+2) (n+1) ws rs av xv X (s' 10) h''→Q .normal [] s' h''):qbuZ s h' [] Q:=by
 have t':=t
 obtain⟨t1,t3,t5,t7,t8,t9,t11⟩:=t'
 have f4:=ft.w
 have f4':=ft.h
 have f3:=ft.t
 have f0:=ft.n
 obtain⟨ub,up,u1,u2,u3,u4⟩:=u8At xF.t hn
 have b7:=y.o.see cb U16.nil
 have c9:cel h' v1 9=some tw:=by simp[cel_of b7.1,cr6C,cfgC]
 have c7:cel h' v1 7=some wv:=by simp[cel_of b7.1,cr6C,cfgC]
 have eF:=(y.o.ext U16.nil).trans (fz_ext _ _)
 have wl:=xF.w.len
 obtain⟨z,hz⟩:∃ z:Nat,ts[n]=z:=⟨ts[n].toNat,by omega⟩
 obtain⟨i,hi⟩:∃ i,i=z % (ws.length+rs.length):=⟨_,rfl⟩
 have hilt:i<ws.length+rs.length:=by rw[hi]; exact Nat.mod_lt _ (by omega)
 have hcv:cvV (some .i64) (.int .u8 (z:Int))=some (.int .i64 z):=by rw[cvV_i,wrap64_id (by omega) (by omega)]
 have brem:binV .rem 2 false (.int .i64 (z:Int)) (.int .i64 (ws.length+rs.length:Nat))=some (.int .i64 (i:Int)):=by
  have r:((z:Int)).tmod (ws.length+rs.length:Nat)=(z % (ws.length+rs.length):Nat):=by rw[Int.tmod_eq_emod_of_nonneg (by omega)]; simp
  have:¬ ((ws.length+rs.length:Nat):Int)=0:=by omega
  simp -implicitDefEqProofs only[binV,intV,if_true,if_neg this,r,hi]
 rw[hz] at u2
 unfold qbuZ
 simp -implicitDefEqProofs[t1,c9,t11,u1,u2 _ eF,hcv,t7,brem,-Int.natCast_add]
 rw[seqM_eq]
 unfold qgVZ
 simp -implicitDefEqProofs[t1,c7,wl,-Int.natCast_add]
 refine⟨fun hw=>?_,fun hw=>?_⟩
 ·have hiw:i<ws.length:=by omega
  have hJ:∀ s' T'' h'' W' M' A',TrE v1 hp tp ws.length rs.length av xv n s'→s' 10=tv→s' 12 = .int .i64 i→RtI T5 h5 hp tp (k+1) n n ws rs av xv tv W' M' M' A' X Ms T'' h''→(thenM (fun m s147 h148=>qbtZ m s147 h148 Q) (blkM 1 Q)) .normal [] s' h'':=fun s' T'' h'' W' M' A' a b d e=>by
   simp -implicitDefEqProofs
   exact rt33 f4 f4' (by omega) ft.sr xF cb (by omega) e a b (by omega) d hQ
  unfold qgTZ
  rw[seqM_eq]
  unfold qgNZ
  obtain⟨b,ia,cb8⟩:=y.ra hiw
  cases hps:W.ps i with
  | none =>
   rw[ptO_none hps] at cb8
   have en:binV .eql 4 true (.pointer none) (.pointer none)=some (.bool true):=rfl
   simp -implicitDefEqProofs[t8,ia,cb8,en]
   exact rt21 f4 f4' (by omega) ft.sr xF cb (by omega) y ft.sw t s10 hiw (fun q hq=>by rw[hps] at hq; cases hq) hJ _ _ _ _ _ _ _ _ _ _ _ _ _ _ _ _ _ _
  | some q =>
   obtain⟨p,rfl,_⟩:=y.c.w i q hiw hps
   rw[ptO_some hps] at cb8
   have en:binV .eql 4 true (ptr (A i)) (.pointer none)=some (.bool false):=rfl
   simp -implicitDefEqProofs[t8,ia,cb8,en]
   refine wdone_ok (y.m.ps i _ hps) fun h3 e3=>?_
   have y3:=y.ext e3
   cases hd:p.done with
   | true =>
    simp -implicitDefEqProofs
    exact rt21 f4 f4' (by omega) ft.sr xF cb (by omega) y3 ft.sw t s10 hiw (fun q hq=>by rw[hps] at hq; cases hq; exact hd) hJ _ _ _ _ _ _ _ _ _ _ _ _ _ _ _ _ _ _
   | false =>
    simp -implicitDefEqProofs
    unfold qgMZ
    simp -implicitDefEqProofs
    exact rt25 f4 f4' (by omega) ft.sr xF cb (by omega) y3 ft.sw ⟨by simp[t1],by simp[t3],by simp[t5],by simp[t7],by simp[t8],by simp[t9],by simp[t11]⟩ (by simp[s10]) hiw (by simp) hps fun s' T'' h'' W' M' a b d e=>hJ s' T'' h'' W' M' _ a b d e
 ·unfold qgUZ
  simp -implicitDefEqProofs[-Int.natCast_add]
  exact rt33 f4 f4' (by omega) ft.sr xF cb (by omega) y ⟨by simp[t1],by simp[t3],by simp[t5],by simp[t7],by simp[t8],by simp[t9],by simp[t11]⟩ (by simp[s10]) (i:=i) (by omega) (by simp) fun s' h'' a b=>hQ s' h'' a (by obtain⟨T2,W2,M2,A2,Ms2,y2⟩:=b; exact⟨T2,W2,M2,A2,Ms2,y2.mono (by omega)⟩)
set_option maxHeartbeats 4000000 in
theorem rt11 (ft:Fits6 c ws rs ts)(xF:Cr6X (fz T5 h5) c ws rs ts ks wv rv tw kv)(cb:h5 v1=some (.cells (cr6C c wv rv tw kv).toArray qvZ (0,0))∧T5 v1=[])
  {k:Nat} (hk:k<79000) (hn:n<ts.length) {T':Tags} {h':Heap} {W:Wd} {M:Tbl} {A:Nat→Nat} {Ms:Nat→Tbl} (y:RtI T5 h5 hp tp k n n ws rs av xv tv W M M A X Ms T' h')
  {s:Env} (t:TrE v1 hp tp ws.length rs.length av xv n s) (s10:s 10=tv) {Q:Post}
  (hQ:∀ s' h'',TrE v1 hp tp ws.length rs.length av xv n s'→RtJ T5 h5 hp tp (k+3) (n+1) ws rs av xv X (s' 10) h''→Q .normal [] s' h'') (a1 a2 a3 a4:Value):qdLZ s h' [] a1 a2 a3 a4 Q:=by
 have t':=t
 obtain⟨t1,t3,t5,t7,t8,t9,t11⟩:=t'
 have f3:=ft.t
 have b7:=y.o.see cb U16.nil
 have c10:cel h' v1 10=some kv:=by simp[cel_of b7.1,cr6C,cfgC]
 have eF:=(y.o.ext U16.nil).trans (fz_ext _ _)
 have kl:=xF.k.len
 have no:∀ s':Env,TrE v1 hp tp ws.length rs.length av xv n s'→s' 10=tv→∀ h'',Ext h' h''→qbuZ s' h'' [] Q:=fun s' a b h'' e =>
  rt17 ft xF cb (by omega) hn (y.ext e) a b fun s' h'' a b=>hQ s' h'' a (by obtain⟨T2,W2,M2,A2,Ms2,y2⟩:=b; exact⟨T2,W2,M2,A2,Ms2,y2.mono (by omega)⟩)
 unfold qdLZ
 rw[seqM_eq]
 unfold qgJZ
 by_cases hkn:n<ks.length
 rotate_left
 ·have hkn':¬ (n:Int)<ks.length:=by omega
  simp -implicitDefEqProofs[t1,c10,kl,t11,hkn']
  unfold qdFZ
  simp -implicitDefEqProofs
  exact no _ ⟨by simp[t1],by simp[t3],by simp[t5],by simp[t7],by simp[t8],by simp[t9],by simp[t11]⟩ (by simp[s10]) _ (Ext.refl _)
 have hkn':(n:Int)<ks.length:=by omega
 obtain⟨ub,up,u1,u2,u3,u4⟩:=u8At xF.k hkn
 have hrem:(ks[n]).tmod 8=ks[n] % 8:=Int.tmod_eq_emod_of_nonneg u3
 simp -implicitDefEqProofs[t1,c10,kl,t11,hkn',u1,u2 _ eF,hrem]
 refine⟨fun h0=>?_,fun h0=>?_⟩
 rotate_left
 ·unfold qdFZ
  simp -implicitDefEqProofs
  exact no _ ⟨by simp[t1],by simp[t3],by simp[t5],by simp[t7],by simp[t8],by simp[t9],by simp[t11]⟩ (by simp[s10]) _ (Ext.refl _)
 have hcv:cvV (some .u64) (.int .u8 ks[n])=some (.int .u64 ks[n]):=by rw[cvV_i,wrapU_id (by omega) (by omega)]
 obtain⟨q,hq⟩:∃ q,q=ks[n] / 8:=⟨_,rfl⟩
 have hquo:binV .quo 2 true (.int .u64 ks[n]) (.int .u64 8)=some (.int .u64 q):=by
  have r:(ks[n]).tdiv 8=q:=by rw[Int.tdiv_eq_ediv_of_nonneg u3,hq]
  rw[bin_quo _ _ _ _ _ (by omega),r,wrapU_id (by omega) (by omega)]
 have hqb:U64 q:=by unfold U64; omega
 unfold qgIZ
 simp -implicitDefEqProofs[t1,c10,t11,u1,u2 _ eF,hcv,hquo,t3]
 refine rt_pass y (by omega) q hqb fun T2 h2 y2=>?_
 have b2:=y2.o.see cb U16.nil
 have c10':cel h2 v1 10=some kv:=by simp[cel_of b2.1,cr6C,cfgC]
 have eF2:=(y2.o.ext U16.nil).trans (fz_ext _ _)
 unfold qgHZ
 simp -implicitDefEqProofs[t1,c10',t11,u1,u2 _ eF2,hcv,hquo,t5]
 refine rt_tick y2 hqb y.k.ts.tn fun T3 h3 y3=>?_
 unfold qgGZ
 simp -implicitDefEqProofs
 exact rt17 ft xF cb (by omega) hn y3 ⟨by simp[t1],by simp[t3],by simp[t5],by simp[t7],by simp[t8],by simp[t9],by simp[t11]⟩ (by simp[s10]) hQ
end
variable {K:KTy}
set_option maxHeartbeats 8000000 in
theorem readTrue_ok (c:Cfg)(cw:CfgW c)(ws rs:List OpD)(ts ks:List Int){h:Heap}{wv rv tv kv:Value}(x:Cr6X h c ws rs ts ks wv rv tv kv)(hk:∀ h',Ext h h'→K (.bool true) h') :
  callM P qedZ #[.agg (cr6C c wv rv tv kv).toArray] h K:=by
 apply qqkZ
 unfold qfmZ
 refine nw_agg fun v1 h1 n1 e1 c1=>?_
 refine awake_ok fun h2 e2=>?_
 have e02:=e1.trans e2
 have wo:=x.w.one
 have ho:=x.r.one
 have to:=x.t.one
 have ko:=x.k.one
 have ogA:∀ h',Ext h2 h'→ldV (some (some 11)) (ptr v1) h'=some (.agg (cr6C c wv rv tv kv).toArray):=fun h' e=>by simp[ld_at (e _ _ (e2 _ _ c1)),cr6C,cfgC]
 unfold qidZ
 simp -implicitDefEqProofs[ogA _ (Ext.refl h2)]
 refine fits16_ok c ws rs ts ks (x.ext e02) fun h3 b e3 hb=>?_
 have e03:=e02.trans e3
 cases b with
 | false =>
  simp -implicitDefEqProofs
  exact awake_ok fun h4 e4=>hk _ (e03.trans e4)
 | true =>
 have ft:=hb rfl
 simp -implicitDefEqProofs
 unfold qicZ
 have c3:=e3 _ _ (e2 _ _ c1)
 have ogc:∀ h',h' v1=some (.cells (cr6C c wv rv tv kv).toArray qvZ (0,0))→ldV (some (some 7)) (ptr v1) h'=some (.agg (cfgC c).toArray):=fun h' c3=>by simp[ld_at c3,cr6C,cfgC]
 simp -implicitDefEqProofs[ogc _ c3]
 refine hallNew_ok c cw (wf_nil h3) g1 (fun hr T4 h4 hp o4 y4=>?_) (fun hr=>by rw[ft.r] at hr; cases hr)
 obtain⟨hcn,hN⟩:=cfg_nn hr
 have cb4:h4 v1=some (.cells (cr6C c wv rv tv kv).toArray qvZ (0,0))∧T4 v1=[]:=o4.k.at c3 rfl (by simp[pre])
 unfold qibZ
 simp -implicitDefEqProofs[ogc _ cb4.1]
 refine mnew_ok c cw o4.wf g4 (fun _ T5 h5 tp o5 x5=>?_) (fun hr=>by rw[ft.r] at hr; cases hr)
 have d41:Off (pre [4]) [1]:=off_pre (g:=[]) (x:=[4]) (y:=[1]) (by simp) (by simp)
 have y5:=y4.up o5 d41 (by simp[pre])
 obtain⟨N,hNN⟩:∃ N,N=c.stripes.toNat:=⟨_,rfl⟩
 rw[← hNN] at y5 x5 hcn hN
 unfold qiaZ
 have enil:∀ p:Nat,binV .eql 4 true (ptr p) (.pointer none)=some (.bool false):=fun _=>rfl
 simp -implicitDefEqProofs[enil]
 have hl:=x.r.len
 have wl:=x.w.len
 have w4:=ft.w
 have h4':=ft.h
 have o35:Only U5 (fun _=>[]) h3 T5 h5:=(o4.mono fun _ h=>.inl (.inl h)).trans (o5.mono fun _=>.inr)
 have cb5:h5 v1=some (.cells (cr6C c wv rv tv kv).toArray qvZ (0,0))∧T5 v1=[]:=o35.k.at c3 rfl U5.nil
 have cl:∀ {U:Tag→Prop} {T' h'},Only U T5 h5 T' h'→¬ U []→∀ {n:Nat} {v:Value},(cr6C c wv rv tv kv)[n]?=some v→cel h' v1 n=some v:=fun o hn n v hv=>by
  rw[cel_of (o.see cb5 hn).1]; simpa using hv
 have c7:cel h5 v1 7=some wv:=cl (Only.refl (U:=non) o5.wf) (not_non _) (by simp[cr6C,cfgC])
 have c8:cel h5 v1 8=some rv:=cl (Only.refl (U:=non) o5.wf) (not_non _) (by simp[cr6C,cfgC])
 have hwn:IntKind.i64.wrap ((ws.length:Int)+rs.length)=(ws.length+rs.length:Nat):=by rw[wrap64_id (by omega) (by omega)]; omega
 unfold qhZZ
 simp -implicitDefEqProofs[c7,c8,wl,hl,hwn,-Int.natCast_add]
 refine mkRow (g:=[6]) unSlWP apWP zcWP (by omega) (by omega) o5.wf fun T6 h6 av o6 r6=>?_
 have c8:cel h6 v1 8=some rv:=cl o6 (not_non _) (by simp[cr6C,cfgC])
 unfold qhYZ
 simp -implicitDefEqProofs[c8,hl]
 refine mkRow (g:=[7]) unSlRP apRP zcRP (by omega) (by omega) o6.wf fun T7 h7 xv o7 r7=>?_
 have o57:=o6.trans o7
 obtain⟨X0,hX0,hX1⟩:∃ X0:Nat→OpD,(∀ i (h:i<ws.length),X0 i=wrOp ws[i])∧(∀ j (h:j<rs.length),X0 (ws.length+j)=rdOp rs[j]) :=
  ⟨fun i=>if h:i<ws.length then wrOp ws[i] else if h2:i-ws.length<rs.length then rdOp rs[i-ws.length] else ⟨0,⟨#[]⟩,0,0,0,0,[]⟩,fun i h=>by simp[h],fun j h=>by
   have h1:¬ ws.length+j<ws.length:=by omega
   have h2:ws.length+j-ws.length=j:=by omega
   simp -implicitDefEqProofs[h1,h2,h]⟩
 have hwd:∀ i,(wd0 c N).ps i=none:=fun _=>rfl
 have q6:=r6.kp o7.k (not_non _)
 have y0:RtI T7 h7 hp tp 0 0 0 ws rs av xv (.slice none 0 0) (wd0 c N) (tbl0 c N) (tbl0 c N) (fun _=>0) X0 (fun _=>tbl0 c N) T7 h7:=by
  refine⟨Only.refl o7.wf,(wd0M y5 _).up o57 (fun _ _ h=>h) (not_non _),wd0K cw hr hcn,x5.kp o57.k (Off.non _) (not_non _),⟨fun i q _ hq=>(by rw[hwd] at hq; cases hq),fun i q _ hq=>(by rw[hwd] at hq; cases hq),fun _ _=>rfl,fun i hi=>?_,fun i h1 h2=>?_,BD.init c N⟩,⟨q6,r7,fun _=>.slice none 0 0,Rw.nil _ _ _ _ _,fun t ht=>by omega⟩,hX0,hX1⟩
  ·rw[hX0 i hi]; exact wrOp_k _
  ·have:=hX1 (i-ws.length) (by omega)
   rw[show ws.length+(i-ws.length)=i by omega] at this
   rw[this]; exact rdOp_k _
 have o37:Only U5 (fun _=>[]) h3 T7 h7:=o35.up o57 non_up
 have xF:Cr6X (fz T7 h7) c ws rs ts ks wv rv tv kv:=by
  have:Cr6X (fz (fun _=>[]) h3) c ws rs ts ks wv rv tv kv:=by rw[fz_nil]; exact x.ext e03
  exact this.ext (o37.ext U5.nil)
 have cb7:=o37.k.at c3 rfl U5.nil
 have kEnd:∀ {T' h'},Only U16 T7 h7 T' h'→K (.bool true) h':=fun {T' h'} o=>hk _ (e03.trans (ext_of_only (U:=U16) ((o37.mono fun _=>.inl).trans o) U16.nil))
 have tl:=x.t.len
 have f3:=ft.t
 unfold qhXZ
 rw[seqM_eq]
 unfold qhWZ
 refine loop_on [1,3,5,7,8,9] (fun s h'=>∃ n:Nat,RtJ T7 h7 hp tp (3*n) n ws rs av xv X0 (s 10) h'∧s 11 = .int .i64 n∧n≤ts.length) (fun s _=>(ts.length-num (s 11)).toNat) ⟨0,⟨T7,_,_,_,_,by simpa using y0⟩,by simp,by omega⟩ ?_
 rintro r h11 hf11 ⟨n,⟨T11,W,M,A,Ms,y⟩,r11,hn⟩
 have r1:r 1=ptr v1:=by simpa using hf11 1 (by simp)
 have r3:r 3=ptr hp:=by simpa using hf11 3 (by simp)
 have r5:r 5=ptr tp:=by simpa using hf11 5 (by simp)
 have r7':r 7 = .int .i64 (ws.length+rs.length:Nat):=by simpa using hf11 7 (by simp)
 have r8:r 8=av:=by simpa using hf11 8 (by simp)
 have r9:r 9=xv:=by simpa using hf11 9 (by simp)
 have c9:cel h11 v1 9=some tv:=by
  rw[cel_of (y.o.see cb7 U16.nil).1]; simp[cr6C,cfgC]
 unfold qhVZ
 simp -implicitDefEqProofs[r1,c9,tl,r11]
 refine⟨fun hc=>?_,fun hc=>?_⟩
 rotate_left
 ·exact kEnd y.o
 have hw1:IntKind.i64.wrap ((n:Int)+1)=(n+1:Nat):=by rw[wrap64_id (by omega) (by omega)]; omega
 unfold qhoZ
 rw[seqM_eq]
 refine rt11 ft xF cb7 (by omega) (by omega) y ⟨r1,r3,r5,r7',r8,r9,r11⟩ rfl (fun s' h'' t' J=>?_) _ _ _ _
 obtain⟨t1,t3,t5,t7,t8,t9,t11⟩:=t'
 simp -implicitDefEqProofs[r1,r3,r5,r7',r8,r9,r11,t1,t3,t5,t7,t8,t9,t11,hw1,-Int.natCast_add]
 exact⟨⟨by omega,n+1,by rw[show 3*(n+1)=3*n+3 by omega]; exact J,rfl,by omega⟩,by omega⟩
end Go.Proofs.YtcnphhhcknhhaaaGreat
namespace Go.Proofs.YtcnphhhcknhhaaaGreat
open Go Go.Den
set_option linter.unusedSimpArgs false
set_option linter.unusedVariables false
structure Crew6D where
 c:Cfg
 ws:List OpD
 rs:List OpD
 ts:List Int
 ks:List Int
def Crew6R (h:Heap)(c:List Value)(x:Crew6D):Prop:=∃ wv rv tv kv,c=cr6C x.c wv rv tv kv∧Cr6X h x.c x.ws x.rs x.ts x.ks wv rv tv kv∧CfgW x.c
theorem rdrCrew6:Rdr P 155 Crew6R:=fun enc W base spare held fuel cs x h=>by
 have hl:cs.length=11:=(struct_fields (P:=P) Tryz.underlying155 h).1.trans (by kernel_rfl)
 obtain⟨_,_,h0⟩:=struct_field (P:=P) Tryz.underlying155 h 0 24 0 7 (by kernel_rfl)
 obtain⟨_,_,h1⟩:=struct_field (P:=P) Tryz.underlying155 h 1 40 7 1 (by kernel_rfl)
 obtain⟨_,_,h2⟩:=struct_field (P:=P) Tryz.underlying155 h 2 40 8 1 (by kernel_rfl)
 obtain⟨_,_,h3⟩:=struct_field (P:=P) Tryz.underlying155 h 3 42 9 1 (by kernel_rfl)
 obtain⟨_,_,h4⟩:=struct_field (P:=P) Tryz.underlying155 h 4 42 10 1 (by kernel_rfl)
 obtain⟨a0,e0,w0⟩:=rdrCfg _ _ _ _ _ _ _ _ h0
 have rO:Rdr P 40 OpsR:=Rdr.slice (P:=P) (sz:=7) Tryz.underlying40 (by kernel_rfl) (by decide) rdrOp
 obtain⟨a1,v1,e1,s1⟩:=rO _ _ _ _ _ _ _ _ h1
 obtain⟨a2,v2,e2,s2⟩:=rO _ _ _ _ _ _ _ _ h2
 obtain⟨a3,v3,e3,s3⟩:=Rdr.slice (P:=P) (sz:=1) Tryz.underlying42 (by kernel_rfl) (by decide) (Rdr.int (P:=P) Tryz.underlying5) _ _ _ _ _ _ _ _ h3
 obtain⟨a4,v4,e4,s4⟩:=Rdr.slice (P:=P) (sz:=1) Tryz.underlying42 (by kernel_rfl) (by decide) (Rdr.int (P:=P) Tryz.underlying5) _ _ _ _ _ _ _ _ h4
 match cs,hl with
 | [x0,x1,x2,x3,x4,x5,x6,x7,x8,x9,x10],_ =>
  simp[cfgC] at e0 e1 e2 e3 e4
  exact⟨⟨a0,a1,a2,a3,a4⟩,v1,v2,v3,v4,by simp[cr6C,cfgC,e0,e1,e2,e3,e4],⟨s1,s2,s3,s4⟩,w0⟩
end Go.Proofs.YtcnphhhcknhhaaaGreat
namespace Go.Proofs.YtcnphhhcknhhaaaGreat
open Go Go.Den
variable {K:KTy}
theorem readTrue_row {x:Crew6D}{b0:Array Value}{h:Heap}(hc:Crew6R h b0.toList x)(hk:∀ h',Ext h h'→K (.bool true) h') :
  callM P qedZ #[.agg b0] h K:=by
 obtain⟨wv,rv,tv,kv,e0,cx,cw⟩:=hc
 have h0:b0=(cr6C x.c wv rv tv kv).toArray:=by rw[← e0]
 rw[h0]
 exact readTrue_ok x.c cw x.ws x.rs x.ts x.ks cx hk
end Go.Proofs.YtcnphhhcknhhaaaGreat
