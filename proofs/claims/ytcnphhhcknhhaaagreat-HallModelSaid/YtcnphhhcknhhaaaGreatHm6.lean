/- Words, plain data and contracts of the Go functions that this claim reaches. No condition beyond the hypotheses that each theorem states. -/
import Derived.Test.YtcnphhhcknhhaaaGreatHm5
set_option linter.unusedSimpArgs false
set_option linter.unusedVariables false
namespace Go.Proofs.YtcnphhhcknhhaaaGreat
open Go Go.Den Go.MapKept
set_option linter.unusedSimpArgs false
set_option linter.unusedVariables false
set_option maxRecDepth 20000
theorem wo_only {T:Tags}{h h':Heap}{b:Nat}{o:Obj}(w:Wf T h)(e:Ext (wo h [b]) h')(hb:h' b=some o)(ht:T b=lc):Only (fun t=>t=lc) T h T h':=by
 have kk:∀ k z,h k=some z→k≠b→h' k=some z:=fun k z hk hne=>e k z (by rw[wo_out (by simpa using hne)]; exact hk)
 refine⟨fun k hk=>?_,fun _ _ _=>rfl,fun k z hk=>?_,fun k z hk n=>kk k z hk fun hh=>n (by subst hh; exact ht)⟩
 ·cases hh:h k with
  | none=>exact w k hh
  | some z =>
   by_cases hkb:k=b
   ·subst hkb; rw[hb] at hk; cases hk
   ·rw[kk k z hh hkb] at hk; cases hk
 ·by_cases hkb:k=b
  ·subst hkb; exact⟨o,hb⟩
  ·exact⟨z,kk k z hk hkb⟩
def MqJ (h3:Heap)(M:Tbl)(us:List ByteArray)(vb:Nat)(i:Nat)(h':Heap):Prop :=
 ∃ vv,Ext (wo h3 [vb]) h'∧h' vb=some (.cells #[.int .i64 0,vv,.slice none 0 0,.bool false] qcZ (0,0))∧Row 3 qfZ h' vv i (((us.take i).map M.pres).flatMap presC)∧∀ b,rowOf vv=some b→h3 b=none∧b≠vb
variable {K:KTy}
set_option maxHeartbeats 2000000 in
theorem mdo_ok (who:Int)(o:OpD)(ow:OpW o)(hl:o.users.length<1000000){T:Tags}{h:Heap}{uv:Value}(hu:Sl 1 StrR (fz T h) uv o.users){g:Tag}{p m:Nat}{M:Tbl}(w:Wf T h)(gg:Gd g)(x:MdR T h g p M)(hs:TS m M)(hm:m<100000)
  (hk:∀ T' h' vv ev,Only (pre g) T h T' h'→MdR T' h' g p (M.do_ who o).1→RpX (fz T' h') (M.do_ who o).2 vv ev→K (.agg (rplC (M.do_ who o).2 vv ev).toArray) h'):callM P qhRZ #[ptr p,.int .i64 who,.agg (opC o uv).toArray] h K:=by
 apply qqsZ
 unfold qiPZ
 have n8:=ts_n8 hs
 have nn:=hs.nn
 refine nw_agg fun v1 h0 n0 e0 c0=>?_
 have w0:=w.ext e0
 rw[zcRep]
 refine nw_tag w0 lc fun v3 T1 h1 n1 o1 t3 c3=>?_
 have o01:Only non T h T1 h1:=(Only.of_ext (U:=non) w e0).trans o1
 have b0:h0 v1=_∧T v1=[]:=⟨c0,w v1 n0⟩
 have b0:=o1.see b0 (not_non _)
 have b3:h1 v3=_∧T1 v3=lc:=⟨c3,t3⟩
 have x1:=x.up o01 (Off.non _) (not_non _)
 have n3:h v3=none:=by
  cases hh:h v3 with
  | none=>rfl
  | some ob=>rw[e0 _ _ hh] at n1; cases n1
 have oa:∀ h',h' v1=some (.cells (opC o uv).toArray qdDZ (0,0))→ldV (some (some 7)) (ptr v1) h'=some (.agg (opC o uv).toArray):=fun h' hc=>by simp[ld_at hc,opC]
 have ok:∀ h',h' v1=some (.cells (opC o uv).toArray qdDZ (0,0))→cel h' v1 0=some (.int .i64 o.kind):=fun h' hc=>by simp[cel_of hc,opC]
 have okU:∀ h',h' v1=some (.cells (opC o uv).toArray qdDZ (0,0))→cel h' v1 1=some (.string o.user):=fun h' hc=>by simp[cel_of hc,opC]
 simp -implicitDefEqProofs only[oa _ b0.1,ov_s]
 refine modBad_ok o ow (hu.ext (@StrR.ext) ((o01.ext (not_non _)).trans (fz_ext _ _))) hl fun h2 e2=>?_
 have o2:Only non T1 h1 T1 h2:=Only.of_ext o1.wf e2
 have o02:Only non T h T1 h2:=o01.trans o2
 have b0:=o2.see b0 (not_non _)
 have b3:=o2.see b3 (not_non _)
 have x2:=x1.up o2 (Off.non _) (not_non _)
 have c3':=b3.1
 have ull:¬ (fun t=>t=lc) ([]:Tag):=by simp[lc]
 have err1:M.do_ who o=(M,repE 1)→K (.agg #[.int .i64 1,.slice none 0 0,.slice none 0 0,.bool false]) (upd h2 v3 (.cells #[.int .i64 1,.slice none 0 0,.slice none 0 0,.bool false] qcZ (0,0))):=fun e=>by
  rw[e] at hk
  exact hk T1 _ (.slice none 0 0) (.slice none 0 0) ((o02.mono non_up).own n3 b3.1) (x2.kp (Only.lst o2.wf b3).k gg.off ull) (RpX.no _ rfl rfl)
 unfold qmhZ
 cases hb:badB o with
 | true =>
  have e:M.do_ who o=(M,repE 1):=by simp[Tbl.do_,hb]
  simp -implicitDefEqProofs
  unfold qhAZ
  rw[bdRepE]
  simp -implicitDefEqProofs[ld_at c3',cel_of c3',stm_at c3',stm_upd,ld_same,cel_same,over]
  exact err1 e
 | false =>
 simp -implicitDefEqProofs
 refine within_ok _ _ _ ?_
 by_cases hw':(0:Int)≤who∧(who:Int)≤7
 rotate_left
 ·have e:M.do_ who o=(M,repE 1):=by
   have:clientB who=false:=by simp[clientB]; omega
   simp -implicitDefEqProofs[Tbl.do_,this]
  simp -implicitDefEqProofs[hw']
  unfold qhAZ
  rw[bdRepE]
  simp -implicitDefEqProofs[ld_at c3',cel_of c3',stm_at c3',stm_upd,ld_same,cel_same,over]
  exact err1 e
 have hcl:clientB who=true:=by simp[clientB]; omega
 simp -implicitDefEqProofs[hw']
 unfold qmgZ
 rw[seqM_eq]
 have fin:∀ (T':Tags) (h':Heap) (vv ev:Value) (s':Env),Only (pre g) T h T' h'→MdR T' h' g p (M.do_ who o).1→RpX (fz T' h') (M.do_ who o).2 vv ev→s' 6=ptr v3→h' v3=some (.cells (rplC (M.do_ who o).2 vv ev).toArray qcZ (0,0))→(retM P [.cell 6 86] K) .ret [] s' h':=by
  intro T' h' vv ev s' o' x' r' s6 c'
  simp -implicitDefEqProofs only[rplC] at c'
  simp -implicitDefEqProofs[s6,ld_at c',cel_of c',stm_at c',stm_upd,ld_same,cel_same,over,tgRep86]
  exact kv (hk T' h' vv ev o' x' r') (by simp[rplC])
 -- a reply is stored,and answered
 have rep:∀ (T':Tags) (h':Heap) (vv ev:Value) (C:Array Value),Only (pre g) T h T' h'→MdR T' h' g p (M.do_ who o).1→RpX (fz T' h') (M.do_ who o).2 vv ev→(∃ c,c.size=4∧h' v3=some (.cells c qcZ (0,0)))→T' v3=lc→C=(rplC (M.do_ who o).2 vv ev).toArray →
   stM (some 4) (ptr v3) (.agg C) h' fun h''=>ov (ldV (tagg P 86) (ptr v3) h'') fun v=>K v h'':=by
  intro T' h' vv ev C o' x' r' ⟨c,hc4,hc⟩ ht hC
  subst hC
  have vo:=r'.v.one
  have eo:=r'.e.one
  rw[stm_at (n:=4) hc (by simp[rplC]) (by omega) (by simp[rplC,vo.1,eo.1])]
  have hov:over c 0 (Value.agg (rplC (M.do_ who o).2 vv ev).toArray).cells.toList=(rplC (M.do_ who o).2 vv ev).toArray:=by
   rcases c with ⟨l⟩
   match l,hc4 with
   | [a1,a2,a3,a4],_=>simp[over,rplC]
  rw[hov]
  have ol:=Only.lst (o':=.cells (rplC (M.do_ who o).2 vv ev).toArray qcZ (0,0)) o'.wf ⟨hc,ht⟩
  have:=fin T' _ vv ev (fun _=>ptr v3) (o'.own n3 hc) (x'.kp ol.k gg.off ull) (r'.ext (ol.ext ull)) rfl (upd_same' _ _ _)
  simpa using this
 have rep0':∀ (T':Tags) (h':Heap),h' v3=some (.cells #[.int .i64 0,.slice none 0 0,.slice none 0 0,.bool false] qcZ (0,0))→∃ c,c.size=4∧h' v3=some (.cells c qcZ (0,0)):=fun _ h' hc=>⟨_,rfl,hc⟩
 have hlcg:¬ pre g lc:=fun hh=>gg.off lc hh rfl
 -- behind the kinds that write,and Poll
 have rest:∀ (s:Env),s 0=ptr p→s 1 = .int .i64 who→s 5=ptr v1→s 6=ptr v3→¬ (o.kind=1∨o.kind=2∨o.kind=3)→o.kind≠8→qekZ s h2 K []:=by
  intro s s0 s1 s5 s6 hnw h8
  obtain⟨bv,fv,Kk,V,F,y⟩:=x2
  have cp:=y.hp
  simp -implicitDefEqProofs only[mdC] at cp
  unfold qekZ
  simp -implicitDefEqProofs[s0,ld_at cp,cel_of cp,stm_at cp,stm_upd,ld_same,cel_same,over]
  cases hclo:M.t.closed with
  | true =>
   have e:M.do_ who o=(M,repE 5):=by simp[Tbl.do_,hb,hcl,hnw,h8,hclo]
   simp -implicitDefEqProofs
   unfold qkLZ
   rw[bdRepE]
   simp -implicitDefEqProofs[s6]
   exact rep T1 h2 (.slice none 0 0) (.slice none 0 0) _ (o02.mono non_up) (by rw[e]; exact⟨bv,fv,Kk,V,F,y⟩) (by rw[e]; exact RpX.no _ rfl rfl) (rep0' T1 _ b3.1) b3.2 (by rw[e]; rfl)
  | false =>
   simp -implicitDefEqProofs
   unfold qlbZ
   rw[zcRep]
   refine nw_tag o02.wf lc fun v50 T3 h3 n50 o3 t50 c50=>?_
   have n50':h v50=none:=by
    cases hh:h v50 with
    | none=>rfl
    | some ob=>obtain⟨o',ho'⟩:=o02.al _ _ hh; rw[n50] at ho'; cases ho'
   have ne50:v3≠v50:=ne_fresh b3.1 n50
   have b0:=o3.see b0 (not_non _)
   have b3:=o3.see b3 (not_non _)
   have b50:h3 v50=_∧T3 v50=lc:=⟨c50,t50⟩
   have y3:=y.kp o3.k (Off.non _) (not_non _)
   have cp:=y3.hp
   simp -implicitDefEqProofs only[mdC] at cp
   have oT3:Only (pre g) T h T3 h3:=(o02.trans o3).mono non_up
   rw[seqM_eq]
   unfold qlaZ
   simp -implicitDefEqProofs[s5,ok _ b0.1]
   refine⟨fun h6=>?_,fun h6=>?_⟩
   ·have e:M.do_ who o=M.watch who o.user:=by simp[Tbl.do_,hb,hcl,hnw,h8,hclo,h6]
    unfold qkNZ
    simp -implicitDefEqProofs[s0,s1,s5,okU _ b0.1]
    refine mwatch_ok who o.user ow.s1 o3.wf gg ⟨bv,fv,Kk,V,F,y3⟩ hs hm fun T4 h4 o4 x4=>?_
    have b34:=o4.see b3 hlcg
    have b54:=o4.see b50 hlcg
    have c54:=b54.1
    unfold qkMZ
    simp -implicitDefEqProofs[ld_at c54,cel_of c54,stm_at c54,stm_upd,ld_same,cel_same,over,s6]
    have hr:(M.watch who o.user).2=repE (M.watch who o.user).2.err:=by unfold Tbl.watch; split<;>rfl
    have ol:=Only.lst (o':=.cells #[.int .i64 (M.watch who o.user).2.err,.slice none 0 0,.slice none 0 0,.bool false] qcZ (0,0)) o4.wf b54
    have hc:(rplC (M.do_ who o).2 (.slice none 0 0) (.slice none 0 0)).toArray=#[.int .i64 (M.watch who o.user).2.err,.slice none 0 0,.slice none 0 0,.bool false]:=by rw[e,hr]; rfl
    exact rep T4 _ (.slice none 0 0) (.slice none 0 0) _ ((oT3.trans o4).own n50' b54.1) (by rw[e]; exact x4.kp ol.k gg.off ull) (by rw[e,hr]; exact RpX.no _ rfl rfl) ⟨_,rfl,by rw[upd_ne ne50]; exact b34.1⟩ b34.2 hc.symm
   unfold qkZZ
   simp -implicitDefEqProofs
   refine⟨fun h7=>?_,fun h7=>?_⟩
   ·have e:M.do_ who o=(M.fed (M.stripe o.user) ((M.fd (M.stripe o.user)).unwatch who o.user),rep0):=by simp[Tbl.do_,hb,hcl,hnw,h8,hclo,h6,h7]
    have hst:=stripeOf_lt (u:=o.user) (n:=M.c.stripes) (by omega)
    obtain⟨su,hsu⟩:∃ su:Nat,stripeOf o.user M.c.stripes=su:=⟨(stripeOf o.user M.c.stripes).toNat,by omega⟩
    have hsn:su<M.n:=by omega
    have hms:M.stripe o.user=su:=by unfold Tbl.stripe; rw[hsu]; simp
    rw[hms] at e
    obtain⟨fb,ia,ld⟩:=y3.ldf hsn
    unfold qkQZ
    simp -implicitDefEqProofs[s0,s1,s5,okU _ b0.1,ld_at cp,cel_of cp,stm_at cp,stm_upd,ld_same,cel_same,over]
    refine mstripe_ok o.user ow.s1 ⟨bv,fv,Kk,V,F,y3⟩ (by omega) ?_
    rw[hsu]
    unfold qkPZ
    simp -implicitDefEqProofs[s0,s1,s5,okU _ b0.1,ld_at cp,cel_of cp,stm_at cp,stm_upd,ld_same,cel_same,over,ia,ld]
    refine funwatch_ok who o.user ow.s1 o3.wf (gg.app _) (y3.fr su hsn) ((hs.fd su hsn).g hm) (by have:=(hs.fd su hsn).len; omega) fun T4 h4 o4 x4=>?_
    have hlc4:¬ pre (g++[3,su]) lc:=fun hh=>hlcg (pre_trans hh)
    have b34:=o4.see b3 hlc4
    have b54:=o4.see b50 hlc4
    have c54:=b54.1
    unfold qkOZ
    simp -implicitDefEqProofs[ld_at c54,cel_of c54,stm_at c54,stm_upd,ld_same,cel_same,over,s6]
    exact rep T4 h4 (.slice none 0 0) (.slice none 0 0) _ (oT3.trans (o4.mono fun t=>pre_trans)) (by rw[e]; exact⟨bv,fv,Kk,V,F,y3.fed o4 gg x4⟩) (by rw[e]; exact RpX.no _ rfl rfl) (rep0' T4 _ b34.1) b34.2 (by rw[e]; rfl)
   unfold qkYZ
   simp -implicitDefEqProofs
   refine⟨fun h9=>?_,fun h9=>?_⟩
   ·have e:M.do_ who o=({ M with t:={ M.t with closed:=true } },rep0):=by simp[Tbl.do_,hb,hcl,hnw,h8,hclo,h6,h7,h9]
    unfold qkSZ
    have htm:ldV (some (some 3)) (.pointer (some ⟨p,7,none⟩)) h3=some (.agg (tmC M.t).toArray):=by simp[ld_at cp,tmC]
    simp -implicitDefEqProofs[s0,htm]
    refine tickShut_ok M.t fun h4 e4=>?_
    have o4:Only non T3 h3 T3 h4:=Only.of_ext o3.wf e4
    have y4:=y3.kp o4.k (Off.non _) (not_non _)
    have b34:=o4.see b3 (not_non _)
    have b54:=o4.see b50 (not_non _)
    have cp:=y4.hp
    obtain⟨o5,y5⟩:=y4.st (M':={ M with t:={ M.t with closed:=true } }) o4.wf gg (c:=_) rfl rfl rfl rfl
    simp -implicitDefEqProofs only[mdC] at cp o5 y5
    have b35:=o5.see b34 (by simp[lc]; obtain⟨k,r,rfl⟩:=gg; simp)
    have b55:=o5.see b54 (by simp[lc]; obtain⟨k,r,rfl⟩:=gg; simp)
    have c55:=b55.1
    unfold qkRZ
    simp -implicitDefEqProofs only[tmC]
    simp -implicitDefEqProofs[s0,ld_at cp,cel_of cp,stm_at cp,ld_at c55,cel_of c55,stm_at c55,stm_upd,ld_same,cel_same,over,s6]
    refine rep T3 _ (.slice none 0 0) (.slice none 0 0) _ ((oT3.up o4 non_up).trans (o5.mono fun _=>eq_pre)) (by rw[e]; exact⟨bv,fv,Kk,V,F,y5⟩) (by rw[e]; exact RpX.no _ rfl rfl) (rep0' T3 _ b35.1) b35.2 (by rw[e]; rfl)
   have e:M.do_ who o=(M,⟨0,(usersOf o).map M.pres,[],false⟩):=by simp[Tbl.do_,hb,hcl,hnw,h8,hclo,h6,h7,h9]
   unfold qkXZ
   simp -implicitDefEqProofs[s5,oa _ b0.1]
   have hu3:Sl 1 StrR (fz T3 h3) uv o.users:=hu.ext (@StrR.ext) (oT3.ext gg.nil)
   refine users_ok o ow o3.wf (hu3.ext (@StrR.ext) (fz_ext _ _)) hl fun us h4 e4 hus=>?_
   have o4:Only non T3 h3 T3 h4:=Only.of_ext o3.wf e4
   have y4:=y3.kp o4.k (Off.non _) (not_non _)
   have b34:=o4.see b3 (not_non _)
   have b54:=o4.see b50 (not_non _)
   have ulen:=hus.len
   have ule:(usersOf o).length<1000000:=by
    unfold usersOf
    split
    ·simp -implicitDefEqProofs
    ·split
     ·exact hl
     ·simp -implicitDefEqProofs
   unfold qkWZ
   simp -implicitDefEqProofs only[ulen,ov_s]
   have J0:MqJ h4 M (usersOf o) v50 0 h4:=⟨.slice none 0 0,fun q z hq=>(wo_get hq).2,b54.1,by simpa using (Rf.nil (sz:=3) (e:=qfZ) (Ext.refl h4)).row,fun b hb=>by simp[rowOf] at hb⟩
   refine loop_on [0,6,7,41,42] (fun s' h'=>∃ i:Nat,MqJ h4 M (usersOf o) v50 i h'∧s' 43 = .int .i64 i∧i≤(usersOf o).length) (fun s' _=>((usersOf o).length-num (s' 43)).toNat) ⟨0,J0,rfl,by omega⟩ ?_
   rintro r h5 hf5 ⟨i,⟨vv,J1,J2,J3,J4⟩,r43,hi⟩
   have r0:r 0=ptr p:=by simpa [s0] using hf5 0 (by simp)
   have r6:r 6=ptr v3:=by simpa [s6] using hf5 6 (by simp)
   have r7:r 7=ptr v50:=by simpa using hf5 7 (by simp)
   have r41:r 41=us:=by simpa using hf5 41 (by simp)
   have r42:r 42 = .int .i64 (usersOf o).length:=by simpa using hf5 42 (by simp)
   have o5:=wo_only o4.wf J1 J2 b54.2
   have y5:=y4.kp o5.k gg.off ull
   unfold qkVZ
   simp -implicitDefEqProofs[r42,r43]
   refine⟨fun hc=>?_,fun hc=>?_⟩
   ·have hlt:i<(usersOf o).length:=by omega
    have hw1:IntKind.i64.wrap ((i:Int)+1)=(i+1:Nat):=by rw[wrap64_id (by omega) (by omega)]; omega
    obtain⟨ub,uo,ui,ul⟩:=str_at hus hlt (k:=.i64)
    have ul5:=ul _ ((o5.ext ull).trans (fz_ext _ _))
    have hsz:=str_sizes hus _ (List.getElem_mem hlt)
    unfold qkUZ
    simp -implicitDefEqProofs[r0,r7,r41,r43,ui,ul5,ld_at J2,cel_of J2,stm_at J2,stm_upd,ld_same,cel_same,over]
    refine mpres_ok _ hsz o5.wf ⟨bv,fv,Kk,V,F,y5⟩ hs hm fun h6 e6=>?_
    have J2:=e6 _ _ J2
    have J3:=J3.ext e6
    unfold qkTZ
    simp -implicitDefEqProofs[ld_at J2,cel_of J2,stm_at J2,stm_upd,ld_same,cel_same,over]
    refine bs_one bsPres (by simp[presC]) (by omega) fun pb h7 n7 e7 c7=>?_
    have J2:=e7 _ _ J2
    have J3:=J3.ext e7
    simp -implicitDefEqProofs[ld_at J2,cel_of J2,stm_at J2,stm_upd,ld_same,cel_same,over]
    refine app_intro unSlPres apPres (by omega) J3 (cels_one c7 (by simp[presC])) (by simp[presC]) (by unfold maxLen; omega) (by omega) fun vv2 h8 r8 k8 ha=>?_
    have J2':h8 v50=_:=k8 _ _ J2 fun hh=>(J4 v50 hh.symm).2 rfl
    have ho:=r8.one
    have n8':∀ b,rowOf vv2=some b→h4 b=none∧b≠v50:=fun b hb=>by
     rcases ha with ha | ⟨j,ha,hj⟩
     ·exact J4 b (by rw[← ha]; exact hb)
     ·rw[ha] at hb; cases hb
      have hne:b≠v50:=fun hh=>by subst hh; rw[J2] at hj; cases hj
      refine⟨?_,hne⟩
      cases hh:h4 b with
      | none=>rfl
      | some z =>
       have:=e7 _ _ (e6 _ _ (J1 b z (by rw[wo_out (by simpa using hne)]; exact hh)))
       rw[this] at hj; cases hj
    simp -implicitDefEqProofs[s0,s6,r0,r6,r7,r41,r42,r43,ld_at J2',cel_of J2',stm_at J2',stm_upd,ld_same,cel_same,over,ho.1,ho.2,hw1,-Int.natCast_add]
    refine⟨⟨i+1,⟨vv2,wo_upd (fun q z hq=>?_) (by simp),upd_same' _ _ _,?_,n8'⟩,rfl,by omega⟩,by omega⟩
    ·have hq4:=wo_get hq
     exact k8 q z (e7 _ _ (e6 _ _ (J1 q z hq))) fun hh=>by rw[(J4 q hh.symm).1] at hq4; cases hq4.2
    ·rw[List.take_succ_eq_append_getElem hlt,List.map_append,List.flatMap_append]
     refine Row.of_at ?_ fun b hb=>upd_ne (n8' b hb).2
     simpa using r8
   have hie:i=(usersOf o).length:=by omega
   subst hie
   rw[List.take_of_length_le (Nat.le_refl _)] at J3
   have b35:h5 v3=_∧T3 v3=lc:=⟨J1 v3 _ (by rw[wo_out (by simpa using ne50)]; exact b34.1),b34.2⟩
   have vo:=J3.one
   simp -implicitDefEqProofs[r6,r7,ld_at J2,cel_of J2,stm_at J2,stm_upd,ld_same,cel_same,over,vo.1]
   refine rep T3 h5 vv (.slice none 0 0) _ ?_ (by rw[e]; exact⟨bv,fv,Kk,V,F,y5⟩) ?_ (rep0' T3 _ b35.1) b35.2 (by rw[e]; rfl)
   ·refine Only.keepk (r:=some v50) (oT3.up o4 non_up) o5 (fun b z hz hne=>J1 b z (by rw[wo_out (by simpa using fun hh=>hne (by rw[hh]))]; exact hz)) fun b hb=>by cases hb; exact n50'
   ·rw[e]
    refine⟨?_,.inl ⟨rfl,_,_,rfl⟩⟩
    have hl2:(usersOf o).length=((usersOf o).map M.pres).length:=by simp
    have J3':Row 3 qfZ (fz T3 h5) vv (usersOf o).length (((usersOf o).map M.pres).flatMap presC):=J3.of_at fun b hb=>by simp[fz,o4.wf b (J4 b hb).1]
    rw[hl2] at J3'
    exact Row.slE (enc:=presC) (R:=PresR) (fun _=>rfl) (fun _=>rfl) J3'
 unfold qmfZ
 simp -implicitDefEqProofs[ok _ b0.1]
 rw[seqM_eq]
 -- behind the kinds
 have ten:∀ (s:Env) (q:Bool),s 0=ptr p→s 1 = .int .i64 who→s 5=ptr v1→s 6=ptr v3→s 19 = .int .i64 o.kind→s 20 = .bool (decide (o.kind=1∨o.kind=2∨o.kind=3)) →
   qhbZ s h2 (thenM (fun m s25 h26=>qekZ s25 h26 K m) (retM P [.cell 6 86] K)) []:=by
  intro s q s0 s1 s5 s6 s19 s20
  unfold qhbZ
  by_cases hnw:o.kind=1∨o.kind=2∨o.kind=3
  ·have e:M.do_ who o=M.write o:=by simp[Tbl.do_,hb,hcl,hnw]
   simp -implicitDefEqProofs[s20,hnw]
   unfold qkIZ
   simp -implicitDefEqProofs only[s0,s5,oa _ b0.1,ov_s]
   refine mwrite_ok o ow hu.one o2.wf gg x2 hs hm fun T4 h4 o4 x4=>?_
   have b34:=o4.see b3 hlcg
   have hr:(M.write o).2=repE (M.write o).2.err:=by unfold Tbl.write; split<;>rfl
   simp -implicitDefEqProofs[s6,repC]
   exact rep T4 h4 (.slice none 0 0) (.slice none 0 0) _ ((o02.mono non_up).trans o4) (by rw[e]; exact x4) (by rw[e,hr]; exact RpX.no _ rfl rfl) (rep0' T4 _ b34.1) b34.2 (by rw[e,hr]; rfl)
  ·simp -implicitDefEqProofs[s20,hnw]
   unfold qkKZ
   simp -implicitDefEqProofs[s19]
   refine⟨fun h8=>?_,fun h8=>?_⟩
   ·have e:M.do_ who o=M.poll who:=by simp[Tbl.do_,hb,hcl,hnw,h8]
    unfold qkJZ
    simp -implicitDefEqProofs only[s0,s1]
    refine mpoll_ok who o2.wf gg x2 hs hm fun T4 h4 vv ev o4 x4 r4=>?_
    have b34:=o4.see b3 hlcg
    simp -implicitDefEqProofs[s6]
    exact rep T4 h4 vv ev _ ((o02.mono non_up).trans o4) (by rw[e]; exact x4) (by rw[e]; exact r4) (rep0' T4 _ b34.1) b34.2 (by rw[e])
   ·exact rest _ (by simp[s0]) (by simp[s1]) (by simp[s5]) (by simp[s6]) hnw h8
 unfold qmeZ
 by_cases hk1:o.kind=1
 ·simp -implicitDefEqProofs[hk1]
  unfold qmaZ
  simp -implicitDefEqProofs
  exact ten _ true (by simp) (by simp) (by simp) (by simp) (by simp[hk1]) (by simp[hk1])
 ·simp -implicitDefEqProofs[hk1]
  unfold qmdZ
  by_cases hk2:o.kind=2
  ·simp -implicitDefEqProofs[hk2]
   unfold qmbZ
   simp -implicitDefEqProofs
   exact ten _ true (by simp) (by simp) (by simp) (by simp) (by simp[hk2]) (by simp[hk2])
  ·simp -implicitDefEqProofs[hk2]
   unfold qmcZ
   simp -implicitDefEqProofs
   exact ten _ true (by simp) (by simp) (by simp) (by simp) (by simp) (by simp[hk1,hk2])
end Go.Proofs.YtcnphhhcknhhaaaGreat
namespace Go.Proofs.YtcnphhhcknhhaaaGreat
open Go Go.Den
set_option maxRecDepth 100000
set_option linter.unusedVariables false
set_option maxHeartbeats 40000000
def qgKZ (a:Post)(m:List Nat)(b:Env)(c d e f g h i:Value)(j:Heap):Prop:=a .ret m (puts b [(29,(b 3)),(30,(b 0)),(31,c),(32,d),(35,(b 0)),(36,(b 3)),(37,e),(38,f),(39,g),(40,h),(41,i),(2,(Value.bool true))]) j
def qgLZ (a:Env)(b:Post)(m:List Nat)(c d e f g h i:Value)(j:Heap):Prop:=ov (binV BinOp.add 2 true (a 3) (Value.int IntKind.i64 1)) fun k=>b .normal m (puts a [(29,(a 3)),(30,(a 0)),(31,c),(32,d),(35,(a 0)),(36,(a 3)),(37,e),(38,f),(39,g),(40,h),(41,i),(33,(a 3)),(34,k),(3,k)]) j
def qgMZ (a:Value)(b:Post)(m:List Nat)(c:Env)(d e f g h:Value)(i:Heap):Prop:=ov (unV UnOp.not a) fun j=>cdM j (qgKZ b m c d e f g h a j i) (qgLZ c b m d e f g h a j i)
def qgNZ (a:Env)(b:Heap)(c:Post)(m:List Nat)(d e:Value):Prop:=ov (iaV (some (none,10)) (a 0) (a 3)) fun f=>ov (faV (some 2) f) fun g=>ov (ldV (some (some 7)) g b) fun h=>callM P qfmZ #[h] b fun i j=>qgMZ i c m a d e f g h j
def qgOZ (a:Env)(b:Heap)(c:Post)(m:List Nat):Prop:=ov (lnV 7 (a 0)) fun d=>ov (binV BinOp.lss 2 false (a 3) d) fun e=>cdM e (qgNZ a b c m d e) (c (.exit 0) m (puts a [(29,(a 3)),(30,(a 0)),(31,d),(32,e)]) b)
def qgPZ (x0 a b c d e f:Value)(g:Heap)(h:Post):Prop:=loopM (fun m i j k=>qgOZ i j k m) [] (puts (envOf [x0]) [(2,(Value.bool false)),(21,a),(22,b),(23,b),(24,c),(25,d),(26,e),(27,f),(3,(Value.int IntKind.i64 0))]) g (blkM 0 h)
def qmuZ (K:KTy)(m:List Nat)(a:Env)(b c d e f g h i j k l n o p q r s t u v:Value)(w:Heap):Prop:=(retM P [.tmp 2] K) .ret m (puts a [(42,b),(4,c),(44,d),(45,e),(43,e),(46,f),(47,g),(5,f),(6,g),(49,h),(50,i),(48,i),(51,j),(52,k),(7,j),(8,k),(53,g),(54,l),(55,l),(56,n),(57,o),(58,p),(59,p),(60,q),(61,r),(62,s),(63,s),(64,t),(65,u),(66,v),(2,(Value.bool false))]) w
def qfxZ (a:Post)(m:List Nat)(b:Env)(c d e f g h i j k l n o p q r s t:Value)(u:Heap):Prop:=a .normal m (puts b [(67,(b 9)),(68,(b 0)),(69,c),(70,d),(73,(b 0)),(74,(b 9)),(75,e),(76,f),(10,g),(77,h),(78,i),(11,i),(79,j),(80,k),(81,l),(82,n),(83,(b 7)),(84,o),(85,p),(86,q),(87,(b 5)),(88,r),(89,s),(90,t)]) u
def qfyZ (a:Value)(b:Heap)(c:Env)(d:Post)(m:List Nat)(e f g h i j k l n o p q r:Value):Prop:=ov (faV (some 9) a) fun s=>ov (ldV (some none) s b) fun t=>callM P qhQZ #[(c 5),(Value.int IntKind.i64 9),t] b fun u v=>qfxZ d m c e f g h a i j k l n o p q r s t u v
def qfzZ (a:Value)(b:Heap)(c:Env)(d:Post)(m:List Nat)(e f g h i j k l n o:Value):Prop:=ov (faV (some 9) a) fun p=>ov (ldV (some none) p b) fun q=>callM P qgUZ #[(c 7),q] b fun r s=>qfyZ a s c d m e f g h i j k l n o p q r
def qfAZ (a:Post)(m:List Nat)(b:Env)(c d e f g h i j k l n o p q r s t u v w x y z aa ab:Value)(ac:Heap):Prop:=a .normal m (puts b [(67,(b 9)),(68,(b 0)),(69,c),(70,d),(73,(b 0)),(74,(b 9)),(75,e),(76,f),(10,g),(77,h),(78,i),(11,i),(79,j),(80,k),(81,l),(82,n),(91,o),(92,p),(93,q),(94,r),(95,s),(96,t),(97,u),(98,v),(12,v),(99,(b 7)),(100,v),(101,w),(102,(b 5)),(103,x),(13,y),(104,(b 5)),(105,v),(106,z),(107,aa),(108,(b 5)),(109,v),(110,ab)]) ac
def qfBZ (a:Env)(b:Value)(c:Heap)(d:Post)(m:List Nat)(e f g h i j k l n o p q r s t u v w x y z aa ab:Value):Prop:=callM P qdyZ #[(a 5),(Value.int IntKind.i64 8),b] c fun ac ad=>qfAZ d m a e f g h i j k l n o p q r s t u v w b x y z aa ab ac ad
def qfCZ (a:Heap)(b:Value)(c:Env)(d:Value)(e:Post)(m:List Nat)(f g h i j k l n o p q r s t u v w x y:Value):Prop:=nwM (zc P qpZ) qpZ a fun z aa=>stM (some 3) z b aa fun ab=>ov (ldV (some (some 3)) z ab) fun ac=>callM P qhoZ #[(c 5),(Value.int IntKind.i64 8),d,ac] ab fun ad ae=>qfBZ c d ae e m f g h i j k l n o p q r s t u v w x y b z ac ad
def qfDZ (a:Env)(b:Heap)(c:Value)(d:Post)(m:List Nat)(e f g h i j k l n o p q r s t u v w x:Value):Prop:=callM P qfkZ #[(a 5),(Value.int IntKind.i64 8)] b fun y z=>qfCZ z y a c d m e f g h i j k l n o p q r s t u v w x
def qfEZ (a:Value)(b:Heap)(c:Env)(d:Post)(m:List Nat)(e f g h i j k l n o p q r s:Value):Prop:=ov (faV (some 9) a) fun t=>ov (ldV (some none) t b) fun u=>ov (binV BinOp.rem 2 true u (Value.int IntKind.u64 3)) fun v=>ov (cvV (some .i64) v) fun w=>callM P qgqZ #[(c 7),w] b fun x y=>qfDZ c y w d m e f g h a i j k l n o p q r s t u v x
def qaVZ (a:Post)(m:List Nat)(b:Env)(c d e f g h i j k l n o p q r s t u v w x y z aa ab ac ad ae:Value)(af:Heap):Prop:=a .normal m (puts b [(67,(b 9)),(68,(b 0)),(69,c),(70,d),(73,(b 0)),(74,(b 9)),(75,e),(76,f),(10,g),(77,h),(78,i),(11,i),(79,j),(80,k),(81,l),(82,n),(91,o),(92,p),(93,q),(94,r),(111,(b 7)),(112,i),(113,s),(114,t),(115,u),(14,v),(116,w),(117,x),(118,y),(119,y),(120,z),(121,aa),(122,ab),(123,ab),(124,ac),(125,ad),(126,ae)]) af
def qfFZ (a:Post)(m:List Nat)(b:Env)(c d e f g h i j k l n o p q r s t u v w x y z aa ab ac ad ae af ag ah ai aj ak al am an ao:Value)(ap:Heap):Prop:=a .normal m (puts b [(67,(b 9)),(68,(b 0)),(69,c),(70,d),(73,(b 0)),(74,(b 9)),(75,e),(76,f),(10,g),(77,h),(78,i),(11,i),(79,j),(80,k),(81,l),(82,n),(91,o),(92,p),(93,q),(94,r),(111,(b 7)),(112,i),(113,s),(114,t),(115,u),(14,v),(116,w),(117,x),(118,y),(119,y),(120,z),(121,aa),(122,ab),(123,ab),(124,ac),(125,ad),(126,ae),(127,(b 5)),(128,af),(129,ag),(130,ah),(131,ai),(15,ai),(132,aj),(16,ak),(133,al),(134,am),(135,an),(137,ao),(136,ao)]) ap
def qfGZ (a:Post)(m:List Nat)(b:Env)(c d e f g h i j k l n o p q r s t u v w x y z aa ab ac ad ae af ag ah ai aj ak al am an ao ap:Value)(aq:Heap):Prop:=a .normal m (puts b [(67,(b 9)),(68,(b 0)),(69,c),(70,d),(73,(b 0)),(74,(b 9)),(75,e),(76,f),(10,g),(77,h),(78,i),(11,i),(79,j),(80,k),(81,l),(82,n),(91,o),(92,p),(93,q),(94,r),(111,(b 7)),(112,i),(113,s),(114,t),(115,u),(14,v),(116,w),(117,x),(118,y),(119,y),(120,z),(121,aa),(122,ab),(123,ab),(124,ac),(125,ad),(126,ae),(127,(b 5)),(128,af),(129,ag),(130,ah),(131,ai),(15,ai),(132,aj),(16,ak),(133,al),(134,am),(135,an),(137,ao),(136,ao),(138,ap),(136,ap)]) aq
def qfHZ (a:Value)(b:Post)(m:List Nat)(c:Env)(d e f g h i j k l n o p q r s t u v w x y z aa ab ac ad ae af ag ah ai aj ak al am an ao ap:Value)(aq:Heap):Prop:=ov (binV BinOp.eql 2 true a (Value.int IntKind.i64 3)) fun ar=>b .normal m (puts c [(67,(c 9)),(68,(c 0)),(69,d),(70,e),(73,(c 0)),(74,(c 9)),(75,f),(76,g),(10,h),(77,i),(78,j),(11,j),(79,k),(80,l),(81,n),(82,o),(91,p),(92,q),(93,r),(94,s),(111,(c 7)),(112,j),(113,t),(114,u),(115,v),(14,w),(116,x),(117,y),(118,z),(119,z),(120,aa),(121,ab),(122,ac),(123,ac),(124,ad),(125,ae),(126,af),(127,(c 5)),(128,ag),(129,ah),(130,ai),(131,aj),(15,aj),(132,ak),(16,al),(133,am),(134,an),(135,a),(137,ao),(136,ao),(138,ap),(136,ap),(139,ar),(136,ar)]) aq
def qfIZ (a:Value)(b:Post)(m:List Nat)(c:Env)(d e f g h i j k l n o p q r s t u v w x y z aa ab ac ad ae af ag ah ai aj ak al am an ao:Value)(ap:Heap):Prop:=ov (binV BinOp.eql 2 true a (Value.int IntKind.i64 2)) fun aq=>cdM aq (qfGZ b m c d e f g h i j k l n o p q r s t u v w x y z aa ab ac ad ae af ag ah ai aj ak al am an a ao aq ap) (qfHZ a b m c d e f g h i j k l n o p q r s t u v w x y z aa ab ac ad ae af ag ah ai aj ak al am an ao aq ap)
def qfJZ (a:Value)(b:Post)(m:List Nat)(c:Env)(d e f g h i j k l n o p q r s t u v w x y z aa ab ac ad ae af ag ah ai aj ak al am an:Value)(ao:Heap):Prop:=ov (binV BinOp.eql 2 true a (Value.int IntKind.i64 1)) fun ap=>cdM ap (qfFZ b m c d e f g h i j k l n o p q r s t u v w x y z aa ab ac ad ae af ag ah ai aj ak al am an a ap ao) (qfIZ a b m c d e f g h i j k l n o p q r s t u v w x y z aa ab ac ad ae af ag ah ai aj ak al am an ap ao)
def qfKZ (a:Post)(m:List Nat)(b:Env)(c d e f g h i j:Value)(k:Heap):Prop:=a .normal m (puts b [(140,(b 5)),(141,(b 11)),(142,c),(17,d),(143,(b 5)),(144,(b 11)),(145,(b 15)),(146,e),(147,f),(148,g),(149,h),(150,i),(151,(b 5)),(152,(b 11)),(153,(b 15)),(154,j)]) k
def qfLZ (a:Env)(b:Value)(c:Heap)(d:Post)(m:List Nat)(e f g h i:Value):Prop:=ov (faV (some 0) (a 16)) fun j=>stM (some 1) j b c fun k=>callM P qdyZ #[(a 5),(a 11),(a 15)] k fun l n=>qfKZ d m a e f g h i b j l n
def qfMZ (a:Heap)(b:Value)(c:Env)(d:Post)(m:List Nat):Prop:=nwM (zc P qpZ) qpZ a fun e f=>stM (some 3) e b f fun g=>ov (faV (some 2) (c 10)) fun h=>ov (ldV (some (some 7)) h g) fun i=>ov (ldV (some (some 3)) e g) fun j=>callM P qhpZ #[(c 5),(c 11),(c 15),i,j] g fun k l=>qfLZ c k l d m b e h i j
def qcYZ (a:Env)(b:Heap)(c:Post)(m:List Nat):Prop:=callM P qfkZ #[(a 5),(a 11)] b fun d e=>qfMZ e d a c m
def qfNZ (a:Env)(b:Post)(m:List Nat)(c:Value)(d:Heap):Prop:=ov (binV BinOp.eql 2 true (a 135) (Value.int IntKind.i64 5)) fun e=>b .normal m (puts a [(156,c),(155,c),(157,e),(155,e)]) d
def qfOZ (a:Env)(b:Post)(m:List Nat)(c:Heap):Prop:=ov (binV BinOp.eql 2 true (a 135) (Value.int IntKind.i64 4)) fun d=>cdM d (b .normal m (puts a [(156,d),(155,d)]) c) (qfNZ a b m d c)
def qfPZ (a:Env)(b:Heap)(c:Post)(m:List Nat)(d e f g:Value):Prop:=ov (faV (some 0) (a 16)) fun h=>stM (some 1) h (Value.int IntKind.i64 5) b fun i=>c .normal m (puts a [(158,(a 5)),(159,(a 11)),(160,d),(18,e),(161,f),(162,g),(163,h)]) i
def qfQZ (a:Value)(b:Heap)(c d e f g:Value)(h:Env)(i:Value)(j:Post)(m:List Nat)(k l n o:Value):Prop:=ldV (some none) a b=some c∧ldV (some none) d b=some e∧ldV (some none) f b=some g∧callM P qhOZ #[(h 5),(h 11),i] b fun p q=>ldV (some none) a q=some c∧ldV (some none) d q=some e∧ldV (some none) f q=some g∧callM P qfnZ #[p] q fun r s=>ldV (some none) a s=some c∧ldV (some none) d s=some e∧ldV (some none) f s=some g∧callM P qdIZ #[r,e,g] s fun t u=>ldV (some none) a u=some c∧bsM (bsI P qEZ) 1 [(0,t)] u fun v w=>ldV (some none) a w=some c∧vvM P (Builtin.append_ #[qEZ,qEZ] qEZ #[c,v]) w fun x y=>ov (faV (some 1) (h 16)) fun z=>stM (some 1) z x y fun aa=>ov (binV BinOp.add 2 true (h 20) (Value.int IntKind.i64 1)) fun ab=>j .normal m (puts h [(167,(h 20)),(168,(h 19)),(169,k),(170,l),(173,a),(174,c),(175,(h 5)),(176,(h 11)),(177,(h 5)),(178,(h 19)),(179,(h 20)),(180,n),(181,o),(185,(h 19)),(186,(h 20)),(187,d),(188,e),(189,f),(190,g),(182,i),(183,p),(184,r),(191,t),(192,v),(193,x),(194,z),(171,(h 20)),(172,ab),(20,ab)]) aa
def qfRZ (a:Env)(b:Heap)(c:Post)(m:List Nat)(d e:Value):Prop:=ov (faV (some 1) (a 16)) fun f=>ov (ldV (some none) f b) fun g=>ov (iaV (some (none,1)) (a 19) (a 20)) fun h=>ov (ldV (some none) h b) fun i=>ov (iaV (some (none,1)) (a 19) (a 20)) fun j=>ov (ldV (some none) j b) fun k=>ov (faV (some 0) (a 18)) fun l=>ov (ldV (some none) l b) fun n=>callM P qehZ #[(a 5),i] b fun o p=>qfQZ f p g j k l n a o c m d e h i
def qfSZ (a:Env)(b:Heap)(c:Post)(m:List Nat):Prop:=ov (lnV 7 (a 19)) fun d=>ov (binV BinOp.lss 2 false (a 20) d) fun e=>cdM e (qfRZ a b c m d e) (c (.exit 5) m (puts a [(167,(a 20)),(168,(a 19)),(169,d),(170,e)]) b)
def qfTZ (m:List Nat)(a:Env)(b c d e f g h:Value)(i:Heap)(j:Post):Prop:=loopM (fun m k l n=>qfSZ k l n m) m (puts a [(158,(a 5)),(159,(a 11)),(160,b),(18,c),(161,d),(162,e),(164,f),(165,g),(166,h),(19,h),(20,(Value.int IntKind.i64 0))]) i (blkM 5 (blkM 4 j))
def qfUZ (a:Env)(b:Heap)(m:List Nat)(c d e f:Value)(g:Post):Prop:=ov (faV (some 2) (a 10)) fun h=>ov (ldV (some (some 7)) h b) fun i=>callM P qhIZ #[i] b fun j k=>qfTZ m a c d e f h i j k g
def qfVZ (a:Heap)(b:Value)(c:Env)(d:Post)(m:List Nat):Prop:=nwM (zc P qpZ) qpZ a fun e f=>stM (some 3) e b f fun g=>ov (faV (some 2) e) fun h=>ov (ldV (some none) h g) fun i=>cdM i (qfPZ c g d m b e h i) (qfUZ c g m b e h i d)
def qcZZ (a:Env)(b:Heap)(c:Post)(m:List Nat):Prop:=callM P qflZ #[(a 5),(a 11)] b fun d e=>qfVZ e d a c m
def qfWZ (a:Env)(b:Heap)(c:Post)(m:List Nat)(d e f:Value):Prop:=ov (faV (some 0) (a 16)) fun g=>stM (some 1) g (Value.int IntKind.i64 5) b fun h=>c .normal m (puts a [(196,d),(195,d),(197,(a 5)),(198,(a 11)),(199,e),(200,f),(201,g)]) h
def qfXZ (a:Value)(b:Env)(c:Heap)(d:Post)(m:List Nat)(e:Value):Prop:=ov (unV UnOp.not a) fun f=>cdM f (qfWZ b c d m e a f) (d .normal m (puts b [(196,e),(195,e),(197,(b 5)),(198,(b 11)),(199,a),(200,f)]) c)
def qfYZ (a:Env)(b:Heap)(c:Post)(m:List Nat)(d:Value):Prop:=callM P qhSZ #[(a 5),(a 11)] b fun e f=>qfXZ e a f c m d
def qaWZ (a:Env)(b:Heap)(c:Post)(m:List Nat):Prop:=ov (binV BinOp.eql 2 true (a 135) (Value.int IntKind.i64 9)) fun d=>cdM d (qfYZ a b c m d) (c (.exit 3) m (puts a [(196,d),(195,d)]) b)
def qaXZ (a:Env)(b:Heap)(c:Post)(m:List Nat):Prop:=cdM (a 155) (qcZZ a b c m) (qaWZ a b c m)
def qfZZ (a:Env)(m:List Nat)(b:Heap)(c:Post):Prop:=seqM (fun d=>qfOZ a d m b) (fun m e f=>qaXZ e f c m) (blkM 4 c)
def qaaZ (a:Env)(b:Heap)(c:Post)(m:List Nat):Prop:=cdM (a 136) (qcYZ a b c m) (qfZZ a m b c)
def qgaZ (a:Value)(b:Heap)(m:List Nat)(c:Env)(d e f g h i j k l n o p q r s t u v w x y z aa ab ac ad ae af ag ah ai aj ak:Value)(al:Post):Prop:=ov (faV (some 2) a) fun am=>ov (faV (some 0) am) fun an=>ov (ldV (some none) an b) fun ao=>seqM (fun ap=>qfJZ ao ap m c d e f g a h i j k l n o p q r s t u v w x y z aa ab ac ad ae af ag ah ai aj ak am an b) (fun m aq ar=>qaaZ aq ar al m) (blkM 4 al)
def qmvZ (a:Post)(m:List Nat)(b:Env)(c d e f g h i j k l n o p q r s:Value)(t:Heap):Prop:=a .ret m (puts b [(202,c),(203,d),(204,e),(205,f),(206,f),(207,g),(208,h),(209,i),(210,j),(211,k),(212,l),(213,l),(214,n),(215,o),(216,p),(217,q),(218,r),(219,s),(2,(Value.bool false))]) t
def qgbZ (a:Post)(m:List Nat)(b:Env)(c d e f g h i j k l n o p q r s:Value)(t:Heap):Prop:=a .normal m (puts b [(202,c),(203,d),(204,e),(205,f),(206,f),(207,g),(208,h),(209,i),(210,j),(211,k),(212,l),(213,l),(214,n),(215,o),(216,p),(217,q),(218,r),(219,s)]) t
def qgcZ (a:Value)(b:Env)(c:Heap)(d:Post)(m:List Nat)(e f:Value):Prop:=ov (unV UnOp.not a) fun g=>gM (isB g false) (fun h=>h (b 5) c) c fun i j=>gM (isB g false) (fun k=>callM P qiHZ #[i] j fun l n=>k l n) j fun o p=>gM (isB g false) (fun q=>q (b 7) p) p fun r s=>gM (isB g false) (fun t=>callM P qgVZ #[r] s fun u v=>t u v) s fun w x=>gM (isB g false) (fun y=>pvM P (do eqGuard BinOp.neq qpZ (Operand.tmp 208) (Operand.tmp 210) o w; binOp BinOp.neq qpZ o w) fun z=>y z x) x fun aa ab=>ov (pkV g (Value.bool true) aa) fun ac=>gM (isB ac false) (fun ad=>ad (b 5) ab) ab fun ae af=>gM (isB ac false) (fun ag=>callM P qgTZ #[ae] af fun ah ai=>ag ah ai) af fun aj ak=>gM (isB ac false) (fun al=>al (b 7) ak) ak fun am an=>gM (isB ac false) (fun ao=>callM P qfoZ #[am] an fun ap aq=>ao ap aq) an fun ar au=>gM (isB ac false) (fun av=>ov (binV BinOp.neq 2 false aj ar) fun aw=>av aw au) au fun ax ay=>ov (pkV ac (Value.bool true) ax) fun az=>cdM az (qmvZ d m b e f a g i o r w aa ac ae aj am ar ax az ay) (qgbZ d m b e f a g i o r w aa ac ae aj am ar ax az ay)
def qabZ (a:Env)(b:Heap)(c:Post)(m:List Nat):Prop:=ov (ldV (some (some 4)) (a 16) b) fun d=>ov (ldV (some (some 4)) (a 14) b) fun e=>callM P qgpZ #[d,e] b fun f g=>qgcZ f a g c m d e
def qdaZ (a:Heap)(b:Value)(m:List Nat)(c:Env)(d e f g h i j k l n o p q r s t u v w x y z aa ab ac ad ae af ag ah ai:Value)(aj:Post):Prop:=ov (bdV (binf P qcZ) []) fun ak=>nwM (zc P qcZ) qcZ a fun al am=>stM (some 4) al ak am fun an=>seqM (fun ao=>qgaZ b an m c d e f g h i j k l n o p q r s t u v w x y z aa ab ac ad ae af ag ah ai ak al ao) (fun m ap aq=>qabZ ap aq aj m) (blkM 3 aj)
def qgdZ (a:Value)(b:Heap)(c:Env)(m:List Nat)(d e f g h i j k l n o p q r s t u v w x y z aa ab ac ad ae:Value)(af:Post):Prop:=ov (faV (some 2) a) fun ag=>ov (faV (some 1) ag) fun ah=>ov (ldV (some none) ah b) fun ai=>callM P qehZ #[(c 5),ai] b fun aj ak=>qdaZ ak a m c d e f g h i j k l n o p q r s t u v w x y z aa ab ac ad ae ag ah ai aj af
def qgeZ (a b:Value)(c:Heap)(d:Post)(m:List Nat)(e:Env)(f g h i j k l n o p q r s t u v w x y z:Value):Prop:=gM (isB a false) (fun aa=>aa b c) c fun ab ac=>gM (isB a false) (fun ad=>ov (binV BinOp.lss 2 true ab (Value.int IntKind.i64 0)) fun ae=>ad ae ac) ac fun af ag=>ov (pkV a (Value.bool true) af) fun ah=>gM (isB ah false) (fun ai=>ai b ag) ag fun aj ak=>gM (isB ah false) (fun al=>ov (binV BinOp.gtr 2 true aj (Value.int IntKind.i64 7)) fun am=>al am ak) ak fun an ao=>ov (pkV ah (Value.bool true) an) fun ap=>cdM ap (qaVZ d m e f g h i j k b l n o p q r s t u v w x y z a ab af ah aj an ap ao) (qgdZ j ao e m f g h i k b l n o p q r s t u v w x y z a ab af ah aj an ap d)
def qgfZ (a:Heap)(b c d:Value)(e:Post)(m:List Nat)(f:Env)(g h i j k l n o p q r s t u v:Value):Prop:=nwM (zc P qcZ) qcZ a fun w x=>stM (some 4) w b x fun y=>ov (faV (some 2) c) fun z=>ov (ldV (some (some 7)) z y) fun aa=>callM P qjRZ #[aa] y fun ab ac=>qgeZ ab d ac e m f g h i j c k l n o p q r s t u v b w z aa
def qggZ (a:Value)(b:Heap)(c:Env)(d:Value)(e:Post)(m:List Nat)(f g h i j k l n o p q r s:Value):Prop:=ov (faV (some 2) a) fun t=>ov (ldV (some (some 7)) t b) fun u=>callM P qhRZ #[(c 7),d,u] b fun v w=>qgfZ w v a d e m c f g h i j k l n o p q r s t u
def qghZ (a:Value)(b:Heap)(c:Env)(d:Post)(m:List Nat)(e f g h i j k l n o:Value):Prop:=ov (faV (some 0) a) fun p=>ov (ldV (some none) p b) fun q=>ov (binV BinOp.rem 2 true q (Value.int IntKind.u8 3)) fun r=>ov (binV BinOp.eql 2 true r (Value.int IntKind.u8 2)) fun s=>cdM s (qfEZ a b c d m e f g h i j k l n o p q r s) (qggZ a b c j d m e f g h i k l n o p q r s)
def qdbZ (a:Env)(b:Heap)(c:Post)(m:List Nat)(d e:Value):Prop:=ov (iaV (some (none,10)) (a 0) (a 9)) fun f=>ov (ldV (some (some 10)) f b) fun g=>nwM (zc P qaYZ) qaYZ b fun h i=>stM (some 10) h g i fun j=>ov (faV (some 1) h) fun k=>ov (ldV (some none) k j) fun l=>ov (faV (some 0) h) fun n=>ov (ldV (some none) n j) fun o=>ov (binV BinOp.rem 2 true o (Value.int IntKind.u8 3)) fun p=>ov (binV BinOp.eql 2 true p (Value.int IntKind.u8 1)) fun q=>cdM q (qfzZ h j a c m d e f g k l n o p q) (qghZ h j a c m d e f g k l n o p q)
def qgiZ (a:Env)(b:Heap)(m:List Nat)(c d:Value)(e:Post):Prop:=seqM (fun f=>qdbZ a b f m c d) (fun m g h=>ov (binV BinOp.add 2 true (g 9) (Value.int IntKind.i64 1)) fun i=>e .normal m (puts g [(71,(g 9)),(72,i),(9,i)]) h) e
def qgjZ (a:Env)(b:Heap)(m:List Nat)(c:Post):Prop:=ov (lnV 7 (a 0)) fun d=>ov (binV BinOp.lss 2 false (a 9) d) fun e=>cdM e (qgiZ a b m d e c) (c (.exit 2) m (puts a [(67,(a 9)),(68,(a 0)),(69,d),(70,e)]) b)
def qgkZ (m:List Nat)(a:Env)(b c d e f g h i j k l n o p q r s t u v:Value)(w:Heap)(x:Post):Prop:=loopM (fun m y z aa=>qgjZ y z m aa) m (puts a [(42,b),(4,c),(44,d),(45,e),(43,e),(46,f),(47,g),(5,f),(6,g),(49,h),(50,i),(48,i),(51,j),(52,k),(7,j),(8,k),(53,g),(54,l),(55,l),(56,n),(57,o),(58,p),(59,p),(60,q),(61,r),(62,s),(63,s),(64,t),(65,u),(66,v),(9,(Value.int IntKind.i64 0))]) w (blkM 2 x)
def qglZ (m:List Nat)(a:Env)(b c d e f g h i j k l n o p q r s t u v:Value)(w:Heap)(K:KTy):Prop:=seqM (fun x=>qgkZ m a b c d e f g h i j k l n o p q r s t u v w x) (fun m y z=>(retM P [.tmp 2] K) .ret m (puts y [(2,(Value.bool true))]) z) (retM P [.tmp 2] K)
def qgmZ (a b:Value)(c:Heap)(d:Value)(K:KTy)(m:List Nat)(e:Env)(f g h i j:Value):Prop:=ov (exV a 0) fun k=>ov (exV a 1) fun l=>ov (binV BinOp.neq 2 true b (Value.int IntKind.i64 0)) fun n=>gM (isB n false) (fun o=>o l c) c fun p q=>gM (isB n false) (fun r=>ov (binV BinOp.neq 2 true p (Value.int IntKind.i64 0)) fun s=>r s q) q fun t u=>ov (pkV n (Value.bool true) t) fun v=>gM (isB v false) (fun w=>w d u) u fun x y=>gM (isB v false) (fun z=>ov (binV BinOp.eql 4 true x (Value.pointer none)) fun aa=>z aa y) y fun ab ac=>ov (pkV v (Value.bool true) ab) fun ad=>gM (isB ad false) (fun ae=>ae k ac) ac fun af ag=>gM (isB ad false) (fun ah=>ov (binV BinOp.eql 4 true af (Value.pointer none)) fun ai=>ah ai ag) ag fun aj ak=>ov (pkV ad (Value.bool true) aj) fun al=>cdM al (qmuZ K m e f g h i d b j a k l n p t v x ab ad af aj al ak) (qglZ m e f g h i d b j a k l n p t v x ab ad af aj al ak K)
def qgnZ (a b:Value)(c:Heap)(K:KTy)(m:List Nat)(d:Env)(e f:Value):Prop:=ov (exV a 0) fun g=>ov (exV a 1) fun h=>ov (ldV (some (some 7)) b c) fun i=>callM P qmKZ #[i] c fun j k=>qgmZ j h k g K m d e b f a i
def qgoZ (a:Heap)(b:Value)(K:KTy)(m:List Nat)(c:Env):Prop:=nwM (zc P qFZ) qFZ a fun d e=>stM (some 7) d b e fun f=>ov (ldV (some (some 7)) d f) fun g=>callM P qlTZ #[g] f fun h i=>qgnZ h d i K m c b g
def qgQZ (a:Heap)(K:KTy)(m:List Nat)(b:Env):Prop:=callM P qddZ #[] a fun c d=>qgoZ d c K m b
def qgRZ (x0 a b c d e f:Value)(g:Heap)(K:KTy):Prop:=seqM (fun h=>qgPZ x0 a b c d e f g h) (fun m i j=>qgQZ j K m i) (retM P [.tmp 2] K)
def qgSZ (a x0:Value)(b:Heap)(K:KTy):Prop:=ov (unV UnOp.not a) fun c=>gM (isB c false) (fun d=>d x0 b) b fun e f=>gM (isB c false) (fun g=>ov (lnV 7 e) fun h=>g h f) f fun i j=>gM (isB c false) (fun k=>ov (binV BinOp.gtr 2 true i (Value.int IntKind.i64 150)) fun l=>k l j) j fun m n=>ov (pkV c (Value.bool true) m) fun o=>cdM o (callM P qdeZ #[] n fun p q=>K p q) (qgRZ x0 a c e i m o n K)
def qegZ (x0:Value)(h:Heap)(K:KTy):Prop:=callM P qdeZ #[] h fun a b=>qgSZ a x0 b K
variable {K:KTy}
theorem qnbZ {x0:Value}{h:Heap}(hd:qegZ x0 h K):callM P qdxZ #[x0] h K :=
 call_of good mixed (fn:=Tryz.f16) (args:=[x0]) Tryz.func16 rfl (by kernel_rfl) (of_decide_eq_true rfl) (B:=qegZ x0 h K) (by kernel_rfl) hd
end Go.Proofs.YtcnphhhcknhhaaaGreat
namespace Go.Proofs.YtcnphhhcknhhaaaGreat
open Go Go.Den Go.MapKept
set_option linter.unusedSimpArgs false
set_option linter.unusedVariables false
set_option maxRecDepth 20000
theorem actEq {x y:Operand}{K:Value→Prop}:pvM P (do eqGuard .eql qbkZ x y (.agg (actC ⟨3,3,0⟩).toArray) (.agg (actC ⟨3,3,0⟩).toArray); binOp .eql qbkZ (.agg (actC ⟨3,3,0⟩).toArray) (.agg (actC ⟨3,3,0⟩).toArray)) K=K (.bool true):=by
 simp -implicitDefEqProofs only[actC]
 rw[pv_eql (d:=5) (b:=true) (by kernel_rfl) (by omega) (by kernel_rfl)]
theorem bdAct33:bdV (binf P qbkZ) [(0,.int .i64 3),(1,.int .i64 3)]=some (.agg (actC ⟨3,3,0⟩).toArray):=by kernel_rfl
variable {K:KTy}
set_option maxHeartbeats 1000000 in
theorem awake14_ok {h:Heap}(hk:∀ h',Ext h h'→K (.bool true) h'):callM P qdeZ #[] h K:=by
 apply qoGZ
 unfold qgAZ
 refine small_ok fun h1 e1=>?_
 unfold qipZ
 have w1:=wf_nil h1
 refine hallNew_ok small smallW w1 g1 (fun hr T2 h2 q o2 y2=>?_) (fun hr=>by simp[rightB,small] at hr)
 unfold qioZ
 have enil:binV .eql 4 true (ptr q) (.pointer none)=some (.bool false):=rfl
 simp -implicitDefEqProofs[enil]
 unfold qinZ
 refine look_ok 3 o2.wf g1 y2 (by simp[hall0]) fun T3 h3 o3 y3=>?_
 unfold qimZ
 have ha:((hall0 small small.stripes.toNat).look 3).acts=[⟨3,3,0⟩]:=rfl
 refine acts_ok o3.wf y3 (by rw[ha]; simp) fun v h4 e4 x4=>?_
 rw[ha] at x4
 have l4:=x4.len
 obtain⟨b,p,c,a1,a2,a3⟩:=x4.at (k:=.i64) (i:=0) (by omega) (by simp)
 have a3:c=actC ⟨3,3,0⟩:=a3
 subst a3
 have a2:=cels_ext (fz_ext T3 h4) a2
 unfold qilZ
 have e04:Ext h h4:=e1.trans ((ext_of_only (o2.up o3 fun _ h=>h) g1.nil).trans e4)
 simp at l4
 have a1:iaV (some (none,3)) v (.int .i64 0)=some (.pointer (some ⟨b,p,none⟩)):=a1
 simp -implicitDefEqProofs[l4,a1,ldV_n a2,bdAct33,actEq]
 refine place_ok 2 1 (by omega) ?_
 simp -implicitDefEqProofs
 exact hk _ e04
structure AcD where
 do_:Int
 who:Int
 op:OpD
 by_:Int
def acC (x:AcD)(v:Value):List Value:=[.int .u8 x.do_,.int .i64 x.who,.int .i64 x.op.kind,.string x.op.user,.int .i64 x.op.id,.int .i64 x.op.status,.int .i64 x.op.prio,.int .u64 x.op.ttl,v,.int .u64 x.by_]
def AcR (h:Heap)(c:List Value)(x:AcD):Prop:=∃ v,c=acC x v∧Sl 1 StrR h v x.op.users∧OpW x.op∧(0≤x.do_∧x.do_≤255)∧I64 x.who∧U64 x.by_
theorem AcR.ext {h h':Heap}{c:List Value}{x:AcD}(e:Ext h h')(r:AcR h c x):AcR h' c x:=let ⟨v,h1,h2,h3⟩:=r; ⟨v,h1,h2.ext (@StrR.ext) e,h3⟩
theorem acAt {F:Heap}{v:Value}{xs:List AcD}(x:Sl 10 AcR F v xs){i:Nat}(hi:i<xs.length):∃ b p u,iaV (some (none,10)) v (.int .i64 i)=some (.pointer (some ⟨b,p,none⟩))∧(∀ h',Ext F h'→cels h' b p 10=some (acC xs[i] u))∧Sl 1 StrR F u xs[i].op.users∧OpW xs[i].op∧(0≤xs[i].do_∧xs[i].do_≤255)∧I64 xs[i].who∧U64 xs[i].by_:=by
 obtain⟨b,o,c,i1,i2,i3⟩:=x.at (k:=.i64) (i:=i) (by omega) (by omega)
 obtain⟨u,h1,h2,h3⟩:=i3
 simp -implicitDefEqProofs only[Int.toNat_natCast] at h1 h2 h3
 exact⟨b,o,u,i1,fun h' e=>by rw[cels_ext e i2,h1],h2,h3⟩
end Go.Proofs.YtcnphhhcknhhaaaGreat
namespace Go.Proofs.YtcnphhhcknhhaaaGreat
open Go Go.Den Go.MapKept
set_option linter.unusedSimpArgs false
set_option linter.unusedVariables false
set_option maxRecDepth 20000
def U8 (t:Tag):Prop:=pre [1] t∨pre [4] t∨t=[6]∨t=lc
theorem U8.nil:¬ U8 []:=by
 rintro (h | h | h | h)
 ·simp -implicitDefEqProofs[pre] at h
 ·simp -implicitDefEqProofs[pre] at h
 ·cases h
 ·cases h
structure HmT (T5:Tags)(h5:Heap)(hp mp:Nat)(H:Hall)(M:Tbl)(T:Tags)(h:Heap):Prop where
 o:Only U8 T5 h5 T h
 hl:HallR T h [1] hp H
 md:MdR T h [4] mp M
structure HmP (m:Nat)(H:Hall)(M:Tbl):Prop where
 x:HmI H M
 hs:HS m H
 ts:TS m M
 n:H.n=3
 c:H.c=small
structure HmE (v:Value)(hp mp i:Nat)(s:Env):Prop where
 s0:s 0=v
 s5:s 5=ptr hp
 s7:s 7=ptr mp
 s9:s 9 = .int .i64 i
theorem HmT.ext {T5:Tags}{h5:Heap}{hp mp:Nat}{H:Hall}{M:Tbl}{T:Tags}{h h':Heap}(y:HmT T5 h5 hp mp H M T h)(e:Ext h h'):HmT T5 h5 hp mp H M T h':=by
 have o:Only non T h T h':=Only.of_ext y.o.wf e
 exact⟨y.o.up o non_up,y.hl.up o (Off.non _) (not_non _),y.md.up o (Off.non _) (not_non _)⟩
theorem hm61 {T5:Tags}{h5:Heap}{hp mp m bg bw:Nat}{H:Hall}{M:Tbl}{T:Tags}{h:Heap}(y:HmT T5 h5 hp mp H M T h)(z:HmP m H M)(hm:m≤100000){r:Reply}{vv ev wv we:Value}
  (cg:h bg=some (.cells (rplC r vv ev).toArray qcZ (0,0))) (cw:h bw=some (.cells (rplC r wv we).toArray qcZ (0,0))) (xg:RpX h r vv ev) (xw:RpX h r wv we) (l1:r.vals.length<1000000) (l2:r.evs.length<1000000)
  {v:Value} {i:Nat} {s:Env} (t:HmE v hp mp i s) (s16:s 16=ptr bg) (s14:s 14=ptr bw) {Q:Post} (hQ:∀ h' s',Ext h h'→HmE v hp mp i s'→Q .normal [] s' h'):qabZ s h Q []:=by
 obtain⟨s0,s5,s7,s9⟩:=t
 unfold qabZ
 have og:ldV (some (some 4)) (ptr bg) h=some (.agg (rplC r vv ev).toArray):=by simp[ld_at cg,rplC]
 have ow:ldV (some (some 4)) (ptr bw) h=some (.agg (rplC r wv we).toArray):=by simp[ld_at cw,rplC]
 simp -implicitDefEqProofs[s16,s14,og,ow]
 refine repSame_ok r r xg xw l1 l2 fun h1 e1=>?_
 have y1:=y.ext e1
 unfold qgcZ
 simp -implicitDefEqProofs[s5,s7]
 refine now_ok y1.hl fun h2 e2=>?_
 have y2:=y1.ext e2
 try simp
 refine mtime_ok y2.o.wf y2.md fun h3 e3=>?_
 have y3:=y2.ext e3
 simp -implicitDefEqProofs[tmNe,z.x.t]
 refine hstored_ok y3.o.wf y3.hl z.hs hm fun h4 e4=>?_
 have y4:=y3.ext e4
 try simp
 refine mstored_ok y4.o.wf y4.md z.ts hm fun h5' e5=>?_
 simp -implicitDefEqProofs[z.x.stored]
 unfold qgbZ
 exact hQ _ _ ((((e1.trans e2).trans e3).trans e4).trans e5) ⟨by simpa using s0,by simpa using s5,by simpa using s7,by simpa using s9⟩
end Go.Proofs.YtcnphhhcknhhaaaGreat
namespace Go.Proofs.YtcnphhhcknhhaaaGreat
open Go Go.Den Go.MapKept
set_option linter.unusedSimpArgs false
set_option linter.unusedVariables false
set_option maxRecDepth 20000
def HmW (T5:Tags)(h5:Heap)(hp mp m:Nat)(M:Tbl)(h':Heap):Prop:=∃ T' H,HmT T5 h5 hp mp H M T' h'∧HmP m H M
theorem badK {x:OpD}(h:badB x=false):1≤x.kind∧x.kind≤9:=by
 unfold badB at h
 by_cases c1:x.kind=1
 ·omega
 by_cases c2:x.kind=2∨x.kind=3
 ·omega
 rw[if_neg c1,if_neg c2] at h
 by_cases c3:1≤x.kind∧x.kind≤9
 ·exact c3
 ·exfalso
  split at h
  ·omega
  ·split at h
   ·omega
   ·simp at h; omega
theorem u8_1:∀ t,pre [1] t→U8 t:=fun _ h=>.inl h
theorem u8_4:∀ t,pre [4] t→U8 t:=fun _ h=>.inr (.inl h)
theorem u8_6:∀ t:Tag,t=[6]→U8 t:=fun _ h=>.inr (.inr (.inl h))
theorem u8_l:∀ t:Tag,t=lc→U8 t:=fun _ h=>.inr (.inr (.inr h))
theorem d14':Off (pre [1]) [4]:=off_pre (g:=[]) (x:=[1]) (y:=[4]) (by simp) (by simp)
theorem HmT.act {T5:Tags}{h5:Heap}{hp mp:Nat}{H H':Hall}{M:Tbl}{T T':Tags}{h h':Heap}(y:HmT T5 h5 hp mp H M T h)(o:Only (pre [1]) T h T' h')(hl:HallR T' h' [1] hp H'):HmT T5 h5 hp mp H' M T' h' :=
 ⟨y.o.up o u8_1,hl,y.md.up o d14' (by simp[pre])⟩
structure HmG (v:Value)(hp mp i bx bw bg:Nat)(who st:Int)(s:Env):Prop where
 e:HmE v hp mp i s
 s10:s 10=ptr bx
 s11:s 11 = .int .i64 who
 s14:s 14=ptr bw
 s15:s 15 = .int .i64 st
 s16:s 16=ptr bg
structure HmB (T:Tags)(h:Heap)(bx bw bg:Nat)(x:AcD)(uv:Value)(r:Reply)(wv we:Value)(g:List Value):Prop where
 cx:h bx=some (.cells (acC x uv).toArray qaYZ (0,0))
 tx:T bx=[]
 cw:h bw=some (.cells (rplC r wv we).toArray qcZ (0,0))
 tw:T bw=[]
 cg:h bg=some (.cells g.toArray qcZ (0,0))
 tg:T bg=lc
 xw:RpX (fz T h) r wv we
 xu:Sl 1 StrR (fz T h) uv x.op.users
theorem HmB.kp {T T':Tags}{h h':Heap}{bx bw bg:Nat}{x:AcD}{uv wv we:Value}{r:Reply}{g:List Value}(b:HmB T h bx bw bg x uv r wv we g){U:Tag→Prop}(k:Kp U T h T' h')(n:¬ U [])(l:¬ U lc):HmB T' h' bx bw bg x uv r wv we g :=
 ⟨(k.at b.cx b.tx n).1,(k.at b.cx b.tx n).2,(k.at b.cw b.tw n).1,(k.at b.cw b.tw n).2,(k.at b.cg b.tg l).1,(k.at b.cg b.tg l).2,b.xw.ext (k.ext n),b.xu.ext (@StrR.ext) (k.ext n)⟩
theorem HmB.st {T:Tags}{h:Heap}{bx bw bg:Nat}{x:AcD}{uv wv we:Value}{r:Reply}{g:List Value}(b:HmB T h bx bw bg x uv r wv we g)(w:Wf T h){g':List Value}{c:Array Value}(hc:c=g'.toArray) :
  Only (fun t=>t=lc) T h T (upd h bg (.cells c qcZ (0,0)))∧HmB T (upd h bg (.cells c qcZ (0,0))) bx bw bg x uv r wv we g':=by
 have o:Only (fun t=>t=lc) T h T (upd h bg (.cells c qcZ (0,0))):=Only.upd w b.cg b.tg
 have n:¬ (fun t:Tag=>t=lc) []:=by simp[lc]
 exact⟨o,(o.k.at b.cx b.tx n).1,b.tx,(o.k.at b.cw b.tw n).1,b.tw,by rw[upd_same',hc],b.tg,b.xw.ext (o.ext n),b.xu.ext (@StrR.ext) (o.ext n)⟩
def HmQ (T5:Tags)(h5:Heap)(hp mp m i bx bw bg:Nat)(v:Value)(who st:Int)(M':Tbl)(x:AcD)(uv:Value)(r:Reply)(wv we:Value)(Q:Post):Prop :=
 ∀ T' h' s' H' vv ev,HmT T5 h5 hp mp H' M' T' h'→HmP (m+30) H' M'→HmB T' h' bx bw bg x uv r wv we (rplC r vv ev)→RpX h' r vv ev→HmG v hp mp i bx bw bg who st s'→Q .normal [] s' h'
theorem HmT.lc' {T5:Tags}{h5:Heap}{hp mp:Nat}{H:Hall}{M:Tbl}{T:Tags}{h h':Heap}(y:HmT T5 h5 hp mp H M T h)(o:Only (fun t=>t=lc) T h T h'):HmT T5 h5 hp mp H M T h' :=
 ⟨y.o.up o u8_l,y.hl.up o g1.off (by simp[lc]),y.md.up o g4.off (by simp[lc])⟩
theorem HmB.hall {T T':Tags}{h h':Heap}{bx bw bg:Nat}{x:AcD}{uv wv we:Value}{r:Reply}{g:List Value}(b:HmB T h bx bw bg x uv r wv we g)(o:Only (pre [1]) T h T' h'):HmB T' h' bx bw bg x uv r wv we g:=b.kp o.k g1.nil g1.nlc
theorem HmB.ext {T:Tags}{h h':Heap}{bx bw bg:Nat}{x:AcD}{uv wv we:Value}{r:Reply}{g:List Value}(b:HmB T h bx bw bg x uv r wv we g)(w:Wf T h)(e:Ext h h'):HmB T h' bx bw bg x uv r wv we g:=b.kp (Only.of_ext (U:=non) w e).k (not_non _) (not_non _)
section
variable {T5:Tags}{h5:Heap}{hp mp m bx bw bg i:Nat}{H:Hall}{M:Tbl}{T:Tags}{h:Heap}{x:AcD}{uv v wv we:Value}{s:Env}{Q:Post}
theorem hm41 (y:HmT T5 h5 hp mp H (M.do_ x.who x.op).1 T h)(z:HmP m H M)(hm:m≤90000)(hbad:badB x.op=false)(hcl:clientB x.who=true)(c123:x.op.kind=1∨x.op.kind=2∨x.op.kind=3)(ow:OpW x.op)
  (b:HmB T h bx bw bg x uv (M.do_ x.who x.op).2 wv we (rplC rep0 (.slice none 0 0) (.slice none 0 0))) (t:HmG v hp mp i bx bw bg x.who (M.stripe x.op.user) s) (hQ:HmQ T5 h5 hp mp m i bx bw bg v x.who (M.stripe x.op.user) (M.do_ x.who x.op).1 x uv (M.do_ x.who x.op).2 wv we Q):qcYZ s h Q []:=by
 obtain⟨⟨s0,s5,s7,s9⟩,s10,s11,s14,s15,s16⟩:=t
 have hdo:M.do_ x.who x.op=M.write x.op:=by unfold Tbl.do_; rw[if_neg (by rw[hbad,hcl]; simp),if_pos c123]
 have hst:M.stripe x.op.user<H.n:=by rw[z.x.n]; exact z.ts.stripe _
 obtain⟨st,hste⟩:∃ st,M.stripe x.op.user=st:=⟨_,rfl⟩
 rw[hste] at s15 hst hQ
 have hw8:0≤x.who∧x.who<8:=by simpa [clientB] using hcl
 have ac:H.acts.length<900000:=by have:=z.hs.ac; omega
 obtain⟨z1,z2⟩:=z.x.write x.who x.op hst hste
 rw[← hdo] at z1 z2
 have ou:=b.xu.one
 unfold qcYZ
 simp -implicitDefEqProofs only[s5,s11]
 refine htake_ok x.who y.o.wf g1 y.hl z.hs.ts (by omega) fun T1 h1 o1 y1=>?_
 have b1:=b.hall o1
 have yy1:=y.act o1 y1
 have hsT:=z.hs.take x.who
 unfold qfMZ
 rw[zcTime]
 refine nw_st rfl rfl (by simp[tmC]) fun bt h2 n2 e2 c2=>?_
 simp -implicitDefEqProofs only[cells_agg] at c2
 have b2:=b1.ext o1.wf e2
 have yy2:=yy1.ext e2
 have cx:=b2.cx
 have ox:ldV (some (some 7)) (.pointer (some ⟨bx,2,none⟩)) h2=some (.agg (opC x.op uv).toArray):=by simp[ld_at cx,acC,opC]
 have ot:ldV (some (some 3)) (ptr bt) h2=some (.agg (tmC (H.take x.who).t).toArray):=by simp[ld_at c2,tmC,Hall.take]
 simp -implicitDefEqProofs[s5,s10,s11,s15,ox,ot]
 refine hwrite_ok x.who x.op ow ou (H.take x.who).t hsT.tn yy2.o.wf g1 yy2.hl hst hsT.n8.2 (by have:=hsT.ac; omega) (stG_of (hsT.st st hst) (by omega)) fun T3 h3 o3 y3=>?_
 have b3:=b2.hall o3
 have yy3:=yy2.act o3 y3
 have hsW:=hsT.write (w:=x.who) ow (H.take x.who).t hsT.tn hst
 have cg:=b3.cg
 unfold qfLZ
 obtain⟨o4,b4⟩:=b3.st (g':=rplC (repE ((H.take x.who).write x.who st x.op (H.take x.who).t).2) (.slice none 0 0) (.slice none 0 0)) yy3.o.wf (c:=_) rfl
 have yy4:=yy3.lc' o4
 simp -implicitDefEqProofs only[rplC,repE] at cg yy4 b4
 simp -implicitDefEqProofs[s5,s11,s15,s16,ld_at cg,cel_of cg,stm_at cg,stm_upd,ld_same,cel_same,over,rep0]
 have hwn:((H.take x.who).write x.who st x.op (H.take x.who).t).1.n=H.n∧((H.take x.who).write x.who st x.op (H.take x.who).t).1.c=H.c:=by unfold Hall.write; split<;>exact⟨rfl,rfl⟩
 have hst':st<((H.take x.who).write x.who st x.op (H.take x.who).t).1.n:=by rw[hwn.1]; exact hst
 refine hpub_ok x.who yy4.o.wf g1 yy4.hl hst' hsW.n8.2 (by have:=hsW.ac; omega) fun T5' h5' o5 y5=>?_
 have b5:=b4.hall o5
 have yy5:=yy4.act o5 y5
 have hsP:=hsW.pub (w:=x.who) (s:=st) hst'
 unfold qfKZ
 refine hQ _ _ _ _ (.slice none 0 0) (.slice none 0 0) yy5 ⟨z1,hsP.mono (by omega),(z.ts.do_ x.who ow).mono (by omega),hwn.1.trans z.n,hwn.2.trans z.c⟩ ?_ ?_ ?_
 ·rw[z2] at b5 ⊢; exact b5
 ·rw[z2]; exact⟨.inl ⟨rfl,_,_,rfl⟩,.inl ⟨rfl,_,_,rfl⟩⟩
 ·exact⟨⟨by simpa using s0,by simpa using s5,by simpa using s7,by simpa using s9⟩,by simpa using s10,by simpa using s11,by simpa using s14,by simpa using s15,by simpa using s16⟩
theorem shut_same {M:Tbl}(h:M.t.closed=true):({ M with t:={ M.t with closed:=true } }:Tbl)=M:=by
 obtain⟨c,⟨a,b,d⟩,n,bk,fd⟩:=M
 simp only at h
 subst h; rfl
theorem hm57 (y:HmT T5 h5 hp mp H (M.do_ x.who x.op).1 T h)(z:HmP m H M)(hm:m≤90000)(hbad:badB x.op=false)(hcl:clientB x.who=true)(c9:x.op.kind=9)(ow:OpW x.op)(s135:s 135 = .int .i64 9)
  (b:HmB T h bx bw bg x uv (M.do_ x.who x.op).2 wv we (rplC rep0 (.slice none 0 0) (.slice none 0 0))) {st:Int} (t:HmG v hp mp i bx bw bg x.who st s) (hQ:HmQ T5 h5 hp mp m i bx bw bg v x.who st (M.do_ x.who x.op).1 x uv (M.do_ x.who x.op).2 wv we Q):qaWZ s h Q []:=by
 obtain⟨⟨s0,s5,s7,s9⟩,s10,s11,s14,s15,s16⟩:=t
 have hdo:M.do_ x.who x.op=if M.t.closed then (M,repE 5) else ({ M with t:={ M.t with closed:=true } },rep0):=by
  unfold Tbl.do_
  rw[if_neg (by rw[hbad,hcl]; simp),if_neg (by omega),if_neg (by omega),if_neg (show ¬ x.op.kind=6 by omega),if_neg (show ¬ x.op.kind=7 by omega),if_pos c9]
 have ac:H.acts.length<900000:=by have:=z.hs.ac; omega
 unfold qaWZ
 simp -implicitDefEqProofs[s135]
 unfold qfYZ
 simp -implicitDefEqProofs only[s5,s11]
 refine hshut_ok x.who y.o.wf g1 y.hl (by omega) fun T1 h1 o1 y1=>?_
 have b1:=b.hall o1
 have yy1:=y.act o1 y1
 have hsS:=z.hs.shut x.who
 have xS:=z.x.shut x.who
 have tsS:TS (m+30) (M.do_ x.who x.op).1:=(z.ts.do_ x.who ow).mono (by omega)
 unfold qfXZ
 cases hc:M.t.closed with
 | true =>
  have hc':H.t.closed=true:=by rw[z.x.t]; exact hc
  rw[hc] at hdo
  simp -implicitDefEqProofs only[if_true] at hdo
  rw[shut_same hc] at xS
  simp -implicitDefEqProofs[hc']
  have cg:=b1.cg
  unfold qfWZ
  obtain⟨o4,b4⟩:=b1.st (g':=rplC (repE 5) (.slice none 0 0) (.slice none 0 0)) yy1.o.wf (c:=_) rfl
  have yy4:=yy1.lc' o4
  simp -implicitDefEqProofs only[rplC,repE] at cg yy4 b4
  simp -implicitDefEqProofs[s16,ld_at cg,cel_of cg,stm_at cg,stm_upd,ld_same,cel_same,over,rep0]
  refine hQ _ _ _ _ (.slice none 0 0) (.slice none 0 0) yy4 ⟨by rw[hdo]; exact xS,hsS.mono (by omega),tsS,z.n,z.c⟩ ?_ ?_ ?_
  ·rw[hdo] at b4 ⊢; exact b4
  ·rw[hdo]; exact⟨.inl ⟨rfl,_,_,rfl⟩,.inl ⟨rfl,_,_,rfl⟩⟩
  ·exact⟨⟨by simpa using s0,by simpa using s5,by simpa using s7,by simpa using s9⟩,by simpa using s10,by simpa using s11,by simpa using s14,by simpa using s15,by simpa using s16⟩
 | false =>
  have hc':H.t.closed=false:=by rw[z.x.t]; exact hc
  rw[hc] at hdo
  simp -implicitDefEqProofs only[Bool.false_eq_true,if_false] at hdo
  simp -implicitDefEqProofs[hc']
  refine hQ _ _ _ _ (.slice none 0 0) (.slice none 0 0) yy1 ⟨by rw[hdo]; exact xS,hsS.mono (by omega),tsS,z.n,z.c⟩ ?_ ?_ ?_
  ·rw[hdo] at b1 ⊢; exact b1
  ·rw[hdo]; exact⟨.inl ⟨rfl,_,_,rfl⟩,.inl ⟨rfl,_,_,rfl⟩⟩
  ·exact⟨⟨by simpa using s0,by simpa using s5,by simpa using s7,by simpa using s9⟩,by simpa using s10,by simpa using s11,by simpa using s14,by simpa using s15,by simpa using s16⟩
end
end Go.Proofs.YtcnphhhcknhhaaaGreat
namespace Go.Den
open Go
set_option linter.unusedVariables false
variable {K:KTy}
theorem Rw.appv {P:Program}{t ty e:TypeId}{sz bytes b2:Nat}{g:Tag}{v x:Value}{n:Nat}{xs:List Value}{T:Tags}{h1':Heap}
  (ht:P.underlying t=some (.slice e)) (hi:apC P e=some (sz,bytes,sz)) (hsz:0<sz) (hx:x.cells.size=sz) (h1:∀ u∈x.cells.toList,u.oneCell'=true) (w:Wf T h1') (hc:h1' b2=some (.cells x.cells e (0,0)))
  (hv1:Rw T h1' g sz e v n xs) (h63:n+1≤maxLen) (hby:(n+1)*bytes≤140737488355328) (hg:g≠[])
  (hk:∀ v' T' h',Only (fun t=>t=g) T h1' T' h'→Rw T' h' g sz e v' (n+1) (xs++x.cells.toList)→K v' h') :
  vvM P (Builtin.append_ #[t,t] ty #[v,.slice (some ⟨b2,0,none⟩) 1 1]) h1' K:=by
 have o1:Only (fun t=>t=g) T h1' T h1':=Only.refl w
 refine vv_al ?_
 refine app_intro ht hi hsz hv1.1 (cels_one hc hx) h1 h63 hby fun v' h' hr hkp ha hal=>?_
 have hrow:∀ k,rowOf v=some k→T k=g:=hv1.2
 rcases ha with ha | ⟨k,ha,hn⟩
 ·have o2:Only (fun t=>t=g) T h1' T h':=by
   refine⟨fun k hk0=>?_,fun _ _ _=>rfl,fun k o e=>hal k o e,fun k o e n=>hkp k o e (fun hh=>n (hrow k hh.symm))⟩
   cases hh:h1' k with
   | none=>exact o1.wf k hh
   | some o=>obtain⟨o',ho'⟩:=hal k o hh; rw[ho'] at hk0; cases hk0
  exact hk v' T h' (o1.trans o2) ⟨hr,fun k hk0=>hrow k (by rw[← ha]; exact hk0)⟩
 ·have hne:∀ j o,h1' j=some o→j≠k:=fun j o e hj=>by subst hj; rw[hn] at e; cases e
  have o2:Only (fun t=>t=g) T h1' (tset T k g) h':=by
   refine⟨fun j hj=>?_,fun j o e=>tset_ne (hne j o e),fun j o e=>hal j o e,fun j o e n=>hkp j o e (fun hh=>n (hrow j hh.symm))⟩
   have hjk:j≠k:=fun e=>by
    subst e
    obtain⟨o,ho⟩:=hr.lt j ha
    rw[ho] at hj; cases hj
   rw[tset_ne hjk]
   cases hh:h1' j with
   | none=>exact o1.wf j hh
   | some o=>obtain⟨o',ho'⟩:=hal j o hh; rw[ho'] at hj; cases hj
  refine hk v' (tset T k g) h' (o1.trans o2) ⟨hr,fun j hj=>?_⟩
  rw[ha] at hj
  simp only[Option.some.injEq] at hj
  subst hj
  simp
end Go.Den
namespace Go.Proofs.YtcnphhhcknhhaaaGreat
open Go Go.Den Go.MapKept
set_option linter.unusedSimpArgs false
set_option linter.unusedVariables false
set_option maxRecDepth 20000
def gotC (vv:Value):List Value:=[.int .i64 0,vv,.slice none 0 0,.bool false]
structure HmV (T5:Tags)(h5:Heap)(hp mp m bx bw bg bt:Nat)(M:Tbl)(x:AcD)(uv:Value)(r:Reply)(wv we:Value)(us:List ByteArray)(lv:Value)(k:Nat)(vv:Value)(T':Tags)(H':Hall)(h':Heap):Prop where
 y:HmT T5 h5 hp mp H' M T' h'
 z:HmP (m+1+k) H' M
 b:HmB T' h' bx bw bg x uv r wv we (gotC vv)
 a:Rw T' h' [6] 3 qfZ vv k (((us.take k).map M.pres).flatMap presC)
 c:h' bt=some (.cells (tmC M.t).toArray qpZ (0,0))∧T' bt=[]
 u:Sl 1 StrR (fz T' h') lv us
def HmVE (T5:Tags)(h5:Heap)(hp mp m bx bw bg bt:Nat)(M:Tbl)(x:AcD)(uv:Value)(r:Reply)(wv we:Value)(us:List ByteArray)(lv:Value)(k:Nat)(h':Heap):Prop:=∃ vv T' H',HmV T5 h5 hp mp m bx bw bg bt M x uv r wv we us lv k vv T' H' h'
section
variable {T5:Tags}{h5:Heap}{hp mp m bx bw bg i:Nat}{H:Hall}{M:Tbl}{T:Tags}{h:Heap}{x:AcD}{uv v wv we:Value}{s:Env}{Q:Post}
set_option maxHeartbeats 4000000 in
theorem hm49 (y:HmT T5 h5 hp mp H (M.do_ x.who x.op).1 T h)(z:HmP m H M)(hm:m≤90000)(hbad:badB x.op=false)(hcl:clientB x.who=true)(c45:x.op.kind=4∨x.op.kind=5)(ow:OpW x.op)(hu:x.op.users.length≤20)
  (b:HmB T h bx bw bg x uv (M.do_ x.who x.op).2 wv we (rplC rep0 (.slice none 0 0) (.slice none 0 0))) {st:Int} (t:HmG v hp mp i bx bw bg x.who st s) (hQ:HmQ T5 h5 hp mp m i bx bw bg v x.who st (M.do_ x.who x.op).1 x uv (M.do_ x.who x.op).2 wv we Q):qcZZ s h Q []:=by
 obtain⟨⟨s0,s5,s7,s9⟩,s10,s11,s14,s15,s16⟩:=t
 have hdo:M.do_ x.who x.op=if M.t.closed then (M,repE 5) else (M,⟨0,(usersOf x.op).map M.pres,[],false⟩):=by
  unfold Tbl.do_
  rw[if_neg (by rw[hbad,hcl]; simp),if_neg (by omega),if_neg (by omega),if_neg (show ¬ x.op.kind=6 by omega),if_neg (show ¬ x.op.kind=7 by omega),if_neg (show ¬ x.op.kind=9 by omega)]
 have ac:H.acts.length<900000:=by have:=z.hs.ac; omega
 unfold qcZZ
 simp -implicitDefEqProofs only[s5,s11]
 refine look_ok x.who y.o.wf g1 y.hl (by omega) fun T1 h1 o1 y1=>?_
 have b1:=b.hall o1
 have yy1:=y.act o1 y1
 have hsL:=z.hs.look x.who
 have xL:HmI (H.look x.who) M:=z.x.did _ _ _
 unfold qfVZ
 rw[zcTime]
 refine nw_st rfl rfl (by simp[tmC]) fun bt h2 n2 e2 c2=>?_
 simp -implicitDefEqProofs only[cells_agg] at c2
 have b2:=b1.ext o1.wf e2
 have yy2:=yy1.ext e2
 have tb:T1 bt=[]:=o1.wf bt n2
 have oc:cel h2 bt 2=some (.bool M.t.closed):=by rw[cel_of c2]; simp[tmC,z.x.t]
 simp -implicitDefEqProofs[oc]
 cases hc:M.t.closed with
 | true =>
  rw[hc] at hdo
  simp -implicitDefEqProofs only[if_true] at hdo
  simp -implicitDefEqProofs
  have cg:=b2.cg
  unfold qfPZ
  obtain⟨o4,b4⟩:=b2.st (g':=rplC (repE 5) (.slice none 0 0) (.slice none 0 0)) yy2.o.wf (c:=_) rfl
  have yy4:=yy2.lc' o4
  simp -implicitDefEqProofs only[rplC,repE] at cg yy4 b4
  simp -implicitDefEqProofs only[s16]
  simp -implicitDefEqProofs[ld_at cg,cel_of cg,stm_at cg,stm_upd,ld_same,cel_same,over,rep0]
  refine hQ _ _ _ _ (.slice none 0 0) (.slice none 0 0) yy4 ⟨by rw[hdo]; exact xL,hsL.mono (by omega),(z.ts.do_ x.who ow).mono (by omega),z.n,z.c⟩ ?_ ?_ ?_
  ·rw[hdo] at b4 ⊢; exact b4
  ·rw[hdo]; exact⟨.inl ⟨rfl,_,_,rfl⟩,.inl ⟨rfl,_,_,rfl⟩⟩
  ·exact⟨⟨by simpa using s0,by simpa using s5,by simpa using s7,by simpa using s9⟩,by simpa using s10,by simpa using s11,by simpa using s14,by simpa using s15,by simpa using s16⟩
 | false =>
  rw[hc] at hdo
  simp -implicitDefEqProofs only[Bool.false_eq_true,if_false] at hdo
  obtain⟨us,hus⟩:∃ us,usersOf x.op=us:=⟨_,rfl⟩
  have hul:us.length≤20:=by
   rw[← hus]; unfold usersOf
   split
   ·simp -implicitDefEqProofs
   ·split
    ·exact hu
    ·simp -implicitDefEqProofs
  rw[hus] at hdo
  have hd1:(M.do_ x.who x.op).1=M:=by rw[hdo]
  rw[hd1] at hQ yy2
  generalize hr:(M.do_ x.who x.op).2=r at *
  have hr':r=⟨0,us.map M.pres,[],false⟩:=by rw[← hr,hdo]
  simp -implicitDefEqProofs
  unfold qfUZ
  have cx:=b2.cx
  have ox:ldV (some (some 7)) (.pointer (some ⟨bx,2,none⟩)) h2=some (.agg (opC x.op uv).toArray):=by simp[ld_at cx,acC,opC]
  simp -implicitDefEqProofs[s10,ox]
  refine users_ok x.op ow yy2.o.wf (b2.xu.ext (@StrR.ext) (fz_ext _ _)) (by omega) fun lv h3 e3 x3=>?_
  rw[hus] at x3
  have b3:=b2.ext yy2.o.wf e3
  have yy3:=yy2.ext e3
  have c3:=e3 _ _ c2
  rw[z.x.t] at c3
  have ll:=x3.len
  have v0:HmV T5 h5 hp mp m bx bw bg bt M x uv r wv we us lv 0 (.slice none 0 0) T1 (H.look x.who) h3 :=
   ⟨yy3,⟨xL,hsL,z.ts.mono (by omega),z.n,z.c⟩,b3,by simpa using Rw.nil T1 h3 [6] 3 qfZ,⟨c3,tb⟩,x3⟩
  unfold qfTZ
  refine loop_on [0,5,7,9,10,11,14,15,16,18,19] (fun s' h'=>∃ k:Nat,k≤us.length∧s' 20 = .int .i64 k∧HmVE T5 h5 hp mp m bx bw bg bt M x uv r wv we us lv k h') (fun s' _=>(us.length-num (s' 20)).toNat) ⟨0,by omega,by simp,_,_,_,v0⟩ ?_
  rintro r' h6 hf ⟨k,hk,r20,vv,T6,H6,V⟩
  have r0:r' 0=v:=by simpa [s0] using hf 0 (by simp)
  have r5:r' 5=ptr hp:=by simpa [s5] using hf 5 (by simp)
  have r7:r' 7=ptr mp:=by simpa [s7] using hf 7 (by simp)
  have r9:r' 9 = .int .i64 i:=by simpa [s9] using hf 9 (by simp)
  have r10:r' 10=ptr bx:=by simpa [s10] using hf 10 (by simp)
  have r11:r' 11 = .int .i64 x.who:=by simpa [s11] using hf 11 (by simp)
  have r14:r' 14=ptr bw:=by simpa [s14] using hf 14 (by simp)
  have r15:r' 15 = .int .i64 st:=by simpa [s15] using hf 15 (by simp)
  have r16:r' 16=ptr bg:=by simpa [s16] using hf 16 (by simp)
  have r18:r' 18=ptr bt:=by simpa using hf 18 (by simp)
  have r19:r' 19=lv:=by simpa using hf 19 (by simp)
  unfold qfSZ
  simp -implicitDefEqProofs[r19,r20,ll]
  refine⟨fun hc2=>?_,fun hc2=>?_⟩
  rotate_left
  ·have hke:k=us.length:=by omega
   subst hke
   have ha:=V.a
   rw[List.take_of_length_le (Nat.le_refl _)] at ha
   refine hQ _ _ _ _ vv (.slice none 0 0) V.y ⟨V.z.x,V.z.hs.mono (by omega),V.z.ts.mono (by omega),V.z.n,V.z.c⟩ ?_ ?_ ?_
   ·rw[hr']; have:=V.b; rw[hr'] at this; exact this
   ·rw[hr']
    have ha':Rw T6 h6 [6] 3 qfZ vv (us.map M.pres).length ((us.map M.pres).flatMap presC):=by simpa using ha
    exact⟨Row.slE (enc:=presC) (fun _=>rfl) (fun _=>rfl) ha'.1,.inl ⟨rfl,_,_,rfl⟩⟩
   ·exact⟨⟨by simpa using r0,by simpa using r5,by simpa using r7,by simpa using r9⟩,by simpa using r10,by simpa using r11,by simpa using r14,by simpa using r15,by simpa using r16⟩
  ·have hlt:k<us.length:=by omega
   have hw:IntKind.i64.wrap ((k:Int)+1)=(k+1:Nat):=by rw[wrap64_id (by omega) (by omega)]; omega
   obtain⟨ub,up,uc,u1,u2,u3,u4⟩:=V.u.at (k:=.i64) (i:=k) (by omega) (by omega)
   simp -implicitDefEqProofs only[Int.toNat_natCast] at u3 u4
   subst u3
   have u2':∀ h',Ext (fz T6 h6) h'→cel h' ub up=some (.string us[k]):=fun h' e=>by
    have:=(cels_get (cels_ext e u2)).2 0 (by simp)
    simpa using this
   have cg:=V.b.cg
   simp -implicitDefEqProofs only[gotC] at cg
   have q1:=u2' h6 (fz_ext _ _)
   have q2:cel h6 bt 0=some (.int .u64 M.t.now):=by simp[cel_of V.c.1,tmC]
   have q3:cel h6 bg 1=some vv:=by simp[cel_of cg]
   have n6:=V.z.hs.n8
   have hnn:H6.c.stripes=M.c.stripes:=by rw[V.z.x.c]
   have hsl:=stripeOf_lt (u:=us[k]) (n:=M.c.stripes) (by have:=V.z.ts.rt; simp[rightB] at this; omega)
   have hst6:M.stripe us[k]<H6.n:=by rw[V.z.x.n]; exact z.ts.stripe _
   have hse:stripeOf us[k] M.c.stripes=(M.stripe us[k]:Int):=by unfold Tbl.stripe; omega
   unfold qfRZ
   simp -implicitDefEqProofs[r5,r16,r18,r19,r20,u1,q1,q2,q3]
   refine hstripe_ok us[k] u4 V.y.hl (by rw[hnn]; have:=V.z.ts.rt; simp[rightB] at this; omega) ?_
   rw[hnn,hse]
   unfold qfQZ
   simp -implicitDefEqProofs[r5,r11,q1,q2,q3]
   refine snap_ok x.who V.y.o.wf g1 V.y.hl hst6 n6.2 (by have:=V.z.hs.ac; omega) fun T7 h7 ka kb o7 y7 bk7=>?_
   have yy7:=V.y.act o7 y7
   have b7:=V.b.hall o7
   have a7:=V.a.kp o7.k (by simp[pre])
   have c7:=o7.k.at V.c.1 V.c.2 g1.nil
   have u7:=V.u.ext (@StrR.ext) (o7.ext g1.nil)
   have e7:Ext (fz T6 h6) h7:=(o7.ext g1.nil).trans (fz_ext _ _)
   have cg7:=b7.cg
   simp -implicitDefEqProofs only[gotC] at cg7
   have w1:=u2' h7 e7
   have w2:cel h7 bt 0=some (.int .u64 M.t.now):=by simp[cel_of c7.1,tmC]
   have w3:cel h7 bg 1=some vv:=by simp[cel_of cg7]
   simp -implicitDefEqProofs[w1,w2,w3]
   have sn6:=(V.z.hs.st _ hst6).sn
   refine users08_ok _ (by have:=sn6.bl; omega) yy7.o.wf bk7 fun lw h8 e8 x8=>?_
   have yy8:=yy7.ext e8
   have b8:=b7.ext yy7.o.wf e8
   have p1:=u2' h8 (e7.trans e8)
   have cg8:=e8 _ _ cg7
   have p2:cel h8 bt 0=some (.int .u64 M.t.now):=by simp[cel_of (e8 _ _ c7.1),tmC]
   have p3:cel h8 bg 1=some vv:=by simp[cel_of cg8]
   simp -implicitDefEqProofs[p1,p2,p3]
   refine rpres_ok _ us[k] M.t.now (x8.ext (@UsrR.ext) (fz_ext _ _)) (by have:=sn6.bl; omega) (fun y' hy'=>by have:=sn6.bn y' hy'; omega) fun h9 e9=>?_
   have pres:=V.z.x.pres us[k] hst6 rfl
   rw[V.z.x.t] at pres
   rw[pres]
   have yy9:=yy8.ext e9
   have b9:=b8.ext yy8.o.wf e9
   have p4:cel h9 bg 1=some vv:=by simp[cel_of (e9 _ _ cg8)]
   simp -implicitDefEqProofs[p4]
   refine bs_one bsPres (by simp[presC]) (by omega) fun b2' h10 n10 e10 c10=>?_
   have yy10:=yy9.ext e10
   have b10:=b9.ext yy9.o.wf e10
   have cg10:=e10 _ _ (e9 _ _ cg8)
   have p5:cel h10 bg 1=some vv:=by simp[cel_of cg10]
   refine⟨p5,?_⟩
   have o710:Only non T7 h7 T7 h10:=Only.of_ext yy7.o.wf ((e8.trans e9).trans e10)
   have a10:=a7.kp o710.k (not_non _)
   have c10':=o710.k.at c7.1 c7.2 (not_non _)
   have u10:=u7.ext (@StrR.ext) (o710.ext (not_non _))
   refine Rw.appv unSlPres apPres (by omega) (x:=.agg (presC (M.pres us[k])).toArray) (by simp[presC]) (by simp[presC]) yy10.o.wf c10 a10 (by unfold maxLen; omega) (by omega) (by simp) fun v' T11 h11 o11 a11=>?_
   have n11:¬ (fun t:Tag=>t=[6]) []:=by simp
   have b11:=b10.kp o11.k n11 (by simp[lc])
   have yy11:HmT T5 h5 hp mp (H6.snap x.who (M.stripe us[k])) M T11 h11:=⟨yy10.o.up o11 u8_6,yy10.hl.up o11 (fun t ht h=>by subst h; simp[pre] at ht) n11,yy10.md.up o11 (fun t ht h=>by subst h; simp[pre] at ht) n11⟩
   have c11:=o11.k.at c10'.1 c10'.2 n11
   have u11:=u10.ext (@StrR.ext) (o11.ext n11)
   have cg11:=b11.cg
   simp -implicitDefEqProofs only[gotC] at cg11
   have ov':=a11.one
   obtain⟨o12,b12⟩:=b11.st (g':=gotC v') yy11.o.wf (c:=_) rfl
   have yy12:=yy11.lc' o12
   have a12:=a11.kp o12.k (by simp[lc])
   have n12:¬ (fun t:Tag=>t=lc) []:=by simp[lc]
   have c12:=o12.k.at c11.1 c11.2 n12
   have u12:=u11.ext (@StrR.ext) (o12.ext n12)
   simp -implicitDefEqProofs only[gotC] at b12 yy12 a12 c12 u12
   simp -implicitDefEqProofs[r16,ld_at cg11,cel_of cg11,stm_at cg11,stm_upd,ld_same,cel_same,over,ov'.1,ov'.2,r0,r5,r7,r9,r10,r11,r14,r15,r18,r19,r20,s0,s5,s7,s9,s10,s11,s14,s15,s16,hw,-Int.natCast_add]
   have hflat:((us.take (k+1)).map M.pres).flatMap presC=((us.take k).map M.pres).flatMap presC++(Value.agg (presC (M.pres us[k])).toArray).cells.toList:=by
    rw[List.take_succ_eq_append_getElem hlt,List.map_append,List.flatMap_append]; simp
   refine⟨⟨k+1,by omega,rfl,v',T11,_,⟨yy12,⟨V.z.x.did _ _ _,(V.z.hs.snap _ _).mono (by omega),V.z.ts.mono (by omega),V.z.n,V.z.c⟩,b12,by rw[hflat]; exact a12,c12,u12⟩⟩,by omega⟩
end
end Go.Proofs.YtcnphhhcknhhaaaGreat
namespace Go.Proofs.YtcnphhhcknhhaaaGreat
open Go Go.Den Go.MapKept
set_option linter.unusedSimpArgs false
set_option linter.unusedVariables false
set_option maxRecDepth 20000
section
variable {T5:Tags}{h5:Heap}{hp mp m bx bw i:Nat}{H:Hall}{M:Tbl}{T:Tags}{h:Heap}{x:AcD}{uv v wv we:Value}{s76:Env}
theorem hm61q {bg:Nat}{M':Tbl}{r:Reply}{st:Int}(hm:m≤90000)(l1:r.vals.length<1000000)(l2:r.evs.length<1000000){Q:Post}(hQ:∀ h' s',HmW T5 h5 hp mp (m+30) M' h'→HmE v hp mp i s'→Q .normal [] s' h') :
  HmQ T5 h5 hp mp m i bx bw bg v x.who st M' x uv r wv we (thenM (fun m s160 h161=>qabZ s160 h161 Q m) (blkM 3 Q)):=by
 intro T' h' s' H' vv ev y z b xg t
 show qabZ s' h' Q []
 exact hm61 y z (by omega) b.cg b.cw xg (b.xw.ext (fz_ext _ _)) l1 l2 t.e t.s16 t.s14 fun h'' s'' e t'=>hQ h'' s'' ⟨T',H',y.ext e,z⟩ t'
set_option maxHeartbeats 4000000 in
theorem hm33 (y:HmT T5 h5 hp mp H (M.do_ x.who x.op).1 T h)(z:HmP m H M)(hm:m≤90000)(hbad:badB x.op=false)(hcl:clientB x.who=true)
  (cx:h bx=some (.cells (acC x uv).toArray qaYZ (0,0))) (tx:T bx=[]) (cw:h bw=some (.cells (rplC (M.do_ x.who x.op).2 wv we).toArray qcZ (0,0))) (tw:T bw=[]) (xw:RpX (fz T h) (M.do_ x.who x.op).2 wv we)
  (xu:Sl 1 StrR (fz T h) uv x.op.users) (ow:OpW x.op) (hu:x.op.users.length≤20) (l1:(M.do_ x.who x.op).2.vals.length<1000000) (l2:(M.do_ x.who x.op).2.evs.length<1000000) (t:HmE v hp mp i s76) {Q:Post} (hQ:∀ h' s',HmW T5 h5 hp mp (m+30) (M.do_ x.who x.op).1 h'→HmE v hp mp i s'→Q .normal [] s' h')
  (v79 v80 v84 v85 v89 v91 v92 v93 v94 v103 v104 v105 v106 v123 v124 v125 v130 v131 v132 v134 v137 v141 v142 v145 v149 v150 v151 v152:Value) :
  qdaZ h (ptr bx) [] s76 v79 v80 v84 v85 v89 (.int .i64 x.who) v91 v92 v93 v94 v103 v104 v105 v106 v123 v124 v125 (ptr bw) v130 v131 v132 v134 v137 v141 v142 v145 v149 v150 v151 v152 (.int .i64 (M.stripe x.op.user)) Q:=by
 obtain⟨s0,s5,s7,s9⟩:=t
 unfold qdaZ
 rw[bdRep0,zcRep]
 simp -implicitDefEqProofs only[ov_s]
 refine nw_tag y.o.wf lc fun bg T1 h1 n1 o1 t1 c1=>?_
 rw[stm_at (n:=4) (v:=.agg #[.int .i64 0,.slice none 0 0,.slice none 0 0,.bool false]) c1 rfl (by simp) rfl]
 have o1':=o1.own (o':=.cells (over #[.int .i64 0,.slice none 0 0,.slice none 0 0,.bool false] 0 (Value.agg #[.int .i64 0,.slice none 0 0,.slice none 0 0,.bool false]).cells.toList) qcZ (0,0)) n1 c1
 have c1':upd h1 bg (.cells (over #[.int .i64 0,.slice none 0 0,.slice none 0 0,.bool false] 0 (Value.agg #[.int .i64 0,.slice none 0 0,.slice none 0 0,.bool false]).cells.toList) qcZ (0,0)) bg=some (.cells #[.int .i64 0,.slice none 0 0,.slice none 0 0,.bool false] qcZ (0,0)):=by rw[upd_same']; rfl
 generalize upd h1 bg (.cells (over #[.int .i64 0,.slice none 0 0,.slice none 0 0,.bool false] 0 (Value.agg #[.int .i64 0,.slice none 0 0,.slice none 0 0,.bool false]).cells.toList) qcZ (0,0))=h1' at *
 have kx:=o1'.k.at cx tx (not_non _)
 have kw:=o1'.k.at cw tw (not_non _)
 have y1:HmT T5 h5 hp mp H (M.do_ x.who x.op).1 T1 h1':=⟨y.o.up o1' non_up,y.hl.up o1' (Off.non _) (not_non _),y.md.up o1' (Off.non _) (not_non _)⟩
 have b1:HmB T1 h1' bx bw bg x uv (M.do_ x.who x.op).2 wv we (rplC rep0 (.slice none 0 0) (.slice none 0 0)):=⟨kx.1,kx.2,kw.1,kw.2,c1',t1,xw.ext (o1'.ext (not_non _)),xu.ext (@StrR.ext) (o1'.ext (not_non _))⟩
 have kd:=badK hbad
 have ckx:cel h1' bx 2=some (.int .i64 x.op.kind):=by simp[cel_of kx.1,acC]
 rw[seqM_eq]
 unfold qgaZ
 simp -implicitDefEqProofs[ckx]
 rw[seqM_eq]
 unfold qfJZ
 by_cases k1:x.op.kind=1
 ·simp -implicitDefEqProofs[k1]
  unfold qfFZ
  simp -implicitDefEqProofs
  unfold qaaZ
  simp -implicitDefEqProofs
  exact hm41 y1 z hm hbad hcl (.inl k1) ow b1 ⟨⟨by simpa using s0,by simpa using s5,by simpa using s7,by simpa using s9⟩,by simp,by simp,by simp,by simp,by simp⟩ (hm61q hm l1 l2 hQ)
 simp -implicitDefEqProofs[k1]
 unfold qfIZ
 by_cases k2:x.op.kind=2
 ·simp -implicitDefEqProofs[k2]
  unfold qfGZ
  simp -implicitDefEqProofs
  unfold qaaZ
  simp -implicitDefEqProofs
  exact hm41 y1 z hm hbad hcl (.inr (.inl k2)) ow b1 ⟨⟨by simpa using s0,by simpa using s5,by simpa using s7,by simpa using s9⟩,by simp,by simp,by simp,by simp,by simp⟩ (hm61q hm l1 l2 hQ)
 simp -implicitDefEqProofs[k2]
 unfold qfHZ
 by_cases k3:x.op.kind=3
 ·simp -implicitDefEqProofs[k3]
  unfold qaaZ
  simp -implicitDefEqProofs
  exact hm41 y1 z hm hbad hcl (.inr (.inr k3)) ow b1 ⟨⟨by simpa using s0,by simpa using s5,by simpa using s7,by simpa using s9⟩,by simp,by simp,by simp,by simp,by simp⟩ (hm61q hm l1 l2 hQ)
 simp -implicitDefEqProofs[k3]
 unfold qaaZ
 simp -implicitDefEqProofs
 unfold qfZZ
 rw[seqM_eq]
 unfold qfOZ
 by_cases k4:x.op.kind=4
 ·simp -implicitDefEqProofs[k4]
  unfold qaXZ
  simp -implicitDefEqProofs
  exact hm49 (st:=M.stripe x.op.user) y1 z hm hbad hcl (.inl k4) ow hu b1 ⟨⟨by simpa using s0,by simpa using s5,by simpa using s7,by simpa using s9⟩,by simp,by simp,by simp,by simp,by simp⟩ (hm61q hm l1 l2 hQ)
 simp -implicitDefEqProofs[k4]
 unfold qfNZ
 by_cases k5:x.op.kind=5
 ·simp -implicitDefEqProofs[k5]
  unfold qaXZ
  simp -implicitDefEqProofs
  exact hm49 (st:=M.stripe x.op.user) y1 z hm hbad hcl (.inr k5) ow hu b1 ⟨⟨by simpa using s0,by simpa using s5,by simpa using s7,by simpa using s9⟩,by simp,by simp,by simp,by simp,by simp⟩ (hm61q hm l1 l2 hQ)
 simp -implicitDefEqProofs[k5]
 unfold qaXZ
 simp -implicitDefEqProofs
 by_cases k9:x.op.kind=9
 ·exact hm57 (st:=M.stripe x.op.user) y1 z hm hbad hcl k9 ow (by simp[k9]) b1 ⟨⟨by simpa using s0,by simpa using s5,by simpa using s7,by simpa using s9⟩,by simp,by simp,by simp,by simp,by simp⟩ (hm61q hm l1 l2 hQ)
 ·unfold qaWZ
  simp -implicitDefEqProofs[k9]
  refine hQ _ _ ⟨T1,H,y1,⟨z.x.rest x.who x.op (by omega),z.hs.mono (by omega),(z.ts.do_ x.who ow).mono (by omega),z.n,z.c⟩⟩ ⟨by simpa using s0,by simpa using s5,by simpa using s7,by simpa using s9⟩
end
end Go.Proofs.YtcnphhhcknhhaaaGreat
namespace Go.Proofs.YtcnphhhcknhhaaaGreat
open Go Go.Den Go.MapKept
set_option linter.unusedSimpArgs false
set_option linter.unusedVariables false
set_option maxRecDepth 20000
theorem rep_len14 {m:Nat}{M:Tbl}(hs:TS m M)(who:Int)(X:OpD)(hk:6≤X.kind∧X.kind≤9):(M.do_ who X).2.vals=[]∧(M.do_ who X).2.evs.length≤128:=by
 have n8:=ts_n8 hs
 have htot:∀ l:List (List Evt),(∀ x∈l,x.length≤16)→totE l≤16*l.length:=by
  intro l
  induction l with
  | nil=>intro _; simp[totE]
  | cons a l ih =>
   intro hh
   have h1:=ih fun x hx=>hh x (by simp[hx])
   have h2:=hh a (by simp)
   simp -implicitDefEqProofs[totE] at h1 ⊢; omega
 have hp:(M.poll who).2.vals=[]∧(M.poll who).2.evs.length≤128:=by
  refine⟨rfl,?_⟩
  show (mergeE (M.toldTo who M.n)).length≤128
  refine Nat.le_trans (merge_len _) ?_
  have hlen:(M.toldTo who M.n).length=M.n:=by simp[Tbl.toldTo]
  have:=htot (M.toldTo who M.n) fun l hl=>by
   obtain⟨j,hj,rfl⟩:=List.getElem_of_mem hl
   have:(M.toldTo who M.n)[j]=(M.fd j).told who:=by simp[Tbl.toldTo]
   rw[this]
   unfold Feed.told
   split
   ·rename_i hcl
    exact ((hs.fd j (by omega)).qs _ (by simp[clientB] at hcl; omega)).2.2
   ·simp -implicitDefEqProofs
  omega
 have hn:¬ (X.kind=1∨X.kind=2∨X.kind=3):=by omega
 have hw:(M.watch who X.user).2.vals=[]∧(M.watch who X.user).2.evs=[]:=by unfold Tbl.watch; split<;>exact⟨rfl,rfl⟩
 unfold Tbl.do_
 by_cases hb:badB X=true
 ·simp -implicitDefEqProofs[hb,repE]
 by_cases hc:clientB who=true
 rotate_left
 ·simp -implicitDefEqProofs[hb,hc,repE]
 by_cases h8:X.kind=8
 ·simpa [hb,hc,h8] using hp
 by_cases hcl:M.t.closed=true
 ·simp -implicitDefEqProofs[hb,hc,hn,h8,hcl,repE]
 by_cases h6:X.kind=6
 ·simp -implicitDefEqProofs[hb,hc,hn,h8,hcl,h6,hw.1,hw.2]
 by_cases h7:X.kind=7
 ·simp -implicitDefEqProofs[hb,hc,hn,h8,hcl,h6,h7,rep0]
 have h9:X.kind=9:=by omega
 simp -implicitDefEqProofs[hb,hc,hn,h8,hcl,h6,h7,h9,rep0]
theorem do_len {m:Nat}{M:Tbl}(hs:TS m M)(who:Int)(o:OpD)(hbad:badB o=false)(hu:o.users.length≤20):(M.do_ who o).2.vals.length<1000000∧(M.do_ who o).2.evs.length<1000000:=by
 have hk:=badK hbad
 by_cases h6:6≤o.kind
 ·obtain⟨h1,h2⟩:=rep_len14 hs who o ⟨h6,hk.2⟩
  rw[h1]; exact⟨by simp,by omega⟩
 ·unfold Tbl.do_
  split
  ·simp -implicitDefEqProofs[repE]
  ·split
   ·unfold Tbl.write; split<;>simp[repE]
   ·rw[if_neg (by omega)]
    split
    ·simp -implicitDefEqProofs[repE]
    ·rw[if_neg (by omega),if_neg (by omega),if_neg (by omega)]
     simp -implicitDefEqProofs only[List.length_map,List.length_nil]
     unfold usersOf
     split
     ·simp -implicitDefEqProofs
     ·split
      ·exact⟨by omega,by omega⟩
      ·simp -implicitDefEqProofs
theorem zcAc:zc P qaYZ=some #[.int .u8 0,.int .i64 0,.int .i64 0,.string ⟨#[]⟩,.int .i64 0,.int .i64 0,.int .i64 0,.int .u64 0,.slice none 0 0,.int .u64 0]:=by kernel_rfl
def HmL (T5:Tags)(h5:Heap)(hp mp m:Nat)(h':Heap):Prop:=∃ M,HmW T5 h5 hp mp m M h'
section
variable {T5:Tags}{h5:Heap}{hp mp m i:Nat}{xs:List AcD}{v:Value}{s:Env}{h:Heap}
theorem HmT.mact {H:Hall}{M M':Tbl}{T T':Tags}{h':Heap}(y:HmT T5 h5 hp mp H M T h)(o:Only (pre [4]) T h T' h')(md:MdR T' h' [4] mp M'):HmT T5 h5 hp mp H M' T' h' :=
 ⟨y.o.up o u8_4,y.hl.up o (off_pre (g:=[]) (x:=[4]) (y:=[1]) (by simp) (by simp)) (by simp[pre]),md⟩
set_option maxHeartbeats 4000000 in
theorem hm18 (x:Sl 10 AcR (fz T5 h5) v xs)(hi:i<xs.length)(hsh:shortB xs[i].op=true)(hm:m≤90000)(L:HmL T5 h5 hp mp m h)(t:HmE v hp mp i s){Q:Post}(hQ:∀ h' s',HmL T5 h5 hp mp (m+30) h'→HmE v hp mp i s'→Q .normal [] s' h')(v79 v80:Value) :
  qdbZ s h Q [] v79 v80:=by
 obtain⟨M,T,H,y,z⟩:=L
 obtain⟨s0,s5,s7,s9⟩:=t
 have n8:=z.hs.n8
 have ac:H.acts.length<900000:=by have:=z.hs.ac; omega
 have eF:Ext (fz T5 h5) h:=(y.o.ext U8.nil).trans (fz_ext _ _)
 obtain⟨ub,up,uv,i1,i2,i3,ow,hd,hwho,hby⟩:=acAt x hi
 generalize xs[i]=a at *
 have hu:a.op.users.length≤20:=by simp[shortB] at hsh; exact hsh.2.1
 have uo:=i3.one
 have i2:=i2 h eF
 unfold qdbZ
 rw[zcAc]
 simp -implicitDefEqProofs only[s0,s9,i1,ldV_n i2,ov_s]
 refine nw_st rfl (by simp[acC]) (by simp[acC,uo.1]) fun bx h1 n1 e1 c1=>?_
 simp -implicitDefEqProofs only[cells_agg] at c1
 have y1:=y.ext e1
 have tx:T bx=[]:=y.o.wf bx n1
 have q0:cel h1 bx 0=some (.int .u8 a.do_):=by simp[cel_of c1,acC]
 have q1:cel h1 bx 1=some (.int .i64 a.who):=by simp[cel_of c1,acC]
 have q9:cel h1 bx 9=some (.int .u64 a.by_):=by simp[cel_of c1,acC]
 have ed:a.do_.tmod 3=a.do_ % 3:=Int.tmod_eq_emod_of_nonneg hd.1
 simp -implicitDefEqProofs[q0,q1,ed]
 refine⟨fun h1'=>?_,fun h1'=>?_⟩
 ·unfold qfzZ
  simp -implicitDefEqProofs[q9,s7]
  refine mtick_ok a.by_ hby y1.o.wf g4 y1.md z.ts.tn fun T2 h2 o2 md2=>?_
  have y2:=y1.mact o2 md2
  have cx2:=o2.k.at c1 tx (by simp[pre])
  have q9':cel h2 bx 9=some (.int .u64 a.by_):=by simp[cel_of cx2.1,acC]
  unfold qfyZ
  simp -implicitDefEqProofs[q9',s5]
  refine hpass_ok 9 a.by_ hby y2.o.wf g1 y2.hl z.hs.tn (by omega) fun T3 h3 o3 y3=>?_
  unfold qfxZ
  exact hQ _ _ ⟨_,T3,_,y2.act o3 y3,⟨z.x.tick 9 a.by_,(z.hs.pass 9 a.by_ hby).mono (by omega),(z.ts.tick a.by_ hby).mono (by omega),z.n,z.c⟩⟩ ⟨by simpa using s0,by simpa using s5,by simpa using s7,by simpa using s9⟩
 ·unfold qghZ
  simp -implicitDefEqProofs[q0,ed]
  refine⟨fun h2'=>?_,fun h2'=>?_⟩
  ·obtain⟨st,hst⟩:∃ st:Nat,a.by_.tmod 3=st:=⟨(a.by_.tmod 3).toNat,by have:=Int.tmod_nonneg 3 hby.1; omega⟩
   have st3:st<3:=by have:=Int.tmod_lt_of_pos a.by_ (show (0:Int)<3 by omega); omega
   have hws:IntKind.i64.wrap (st:Int)=st:=by rw[wrap64_id (by omega) (by omega)]
   have hsM:st<M.n:=by have:=z.x.n; have:=z.n; omega
   have hsH:st<H.n:=by have:=z.n; omega
   unfold qfEZ
   simp -implicitDefEqProofs[q9,s7,hst,hws]
   refine msweep_ok y1.o.wf g4 y1.md hsM z.ts (by omega) fun T2 h2 o2 md2=>?_
   have y2:=y1.mact o2 md2
   unfold qfDZ
   simp -implicitDefEqProofs only[s5]
   refine htake_ok 8 y2.o.wf g1 y2.hl z.hs.ts (by omega) fun T3 h3 o3 y3=>?_
   have yy3:=y2.act o3 y3
   have hsT:=z.hs.take 8
   unfold qfCZ
   rw[zcTime]
   refine nw_st rfl rfl (by simp[tmC]) fun bt h4 n4 e4 c4=>?_
   simp -implicitDefEqProofs only[cells_agg] at c4
   have yy4:=yy3.ext e4
   have ot:ldV (some (some 3)) (ptr bt) h4=some (.agg (tmC (H.take 8).t).toArray):=by simp[ld_at c4,tmC,Hall.take]
   simp -implicitDefEqProofs only[ot,ov_s,s5]
   refine hsweep_ok 8 (H.take 8).t yy4.o.wf g1 yy4.hl hsH hsT.n8.2 (by have:=hsT.ac; omega) (stG_of (hsT.st st hsH) (by omega)) fun T5' h5' o5 y5=>?_
   have yy5:=yy4.act o5 y5
   have hsS:=hsT.sweep (w:=8) (s:=st) (H.take 8).t hsH
   unfold qfBZ
   simp -implicitDefEqProofs only[s5]
   refine hpub_ok 8 yy5.o.wf g1 yy5.hl (by exact hsH) hsS.n8.2 (by have:=hsS.ac; omega) fun T6 h6 o6 y6=>?_
   have hsP:=hsS.pub (w:=8) (s:=st) hsH
   unfold qfAZ
   exact hQ _ _ ⟨_,T6,_,yy5.act o6 y6,⟨z.x.sweep hsH,hsP.mono (by omega),(z.ts.sweep st).mono (by omega),z.n,z.c⟩⟩ ⟨by simpa using s0,by simpa using s5,by simpa using s7,by simpa using s9⟩
  ·have ox:∀ h',h' bx=some (.cells (acC a uv).toArray qaYZ (0,0))→ldV (some (some 7)) (.pointer (some ⟨bx,2,none⟩)) h'=some (.agg (opC a.op uv).toArray):=fun h' hc=>by simp[ld_at hc,acC,opC]
   have xu1:Sl 1 StrR (fz T h1) uv a.op.users:=by
    have:=i3.ext (@StrR.ext) (y.o.ext U8.nil)
    exact this.ext (@StrR.ext) (fz_of_ext e1)
   unfold qggZ
   simp -implicitDefEqProofs[ox _ c1,s7]
   refine mdo_ok a.who a.op ow (by omega) xu1 y1.o.wf g4 y1.md z.ts (by omega) fun T2 h2 vv ev o2 md2 rx2=>?_
   have y2:=y1.mact o2 md2
   have cx2:=o2.k.at c1 tx (by simp[pre])
   have xu2:=xu1.ext (@StrR.ext) (o2.ext (by simp[pre]))
   have rv:=rx2.v.one
   have re:=rx2.e.one
   unfold qgfZ
   rw[zcRep]
   refine nw_st rfl (by simp[rplC]) (by simp[rplC,rv.1,re.1]) fun bw h3 n3 e3 c3=>?_
   simp -implicitDefEqProofs only[cells_agg] at c3
   have y3:=y2.ext e3
   have tw:T2 bw=[]:=y2.o.wf bw n3
   have cx3:=e3 _ _ cx2.1
   have xu3:=xu2.ext (@StrR.ext) (fz_of_ext (T:=T2) e3)
   have rx3:=rx2.ext (fz_of_ext (T:=T2) e3)
   simp -implicitDefEqProofs[ox _ cx3]
   refine modBad_ok a.op ow (xu3.ext (@StrR.ext) (fz_ext _ _)) (by omega) fun h4 e4=>?_
   have y4:=y3.ext e4
   have cx4:=e4 _ _ cx3
   have cw4:=e4 _ _ c3
   have xu4:=xu3.ext (@StrR.ext) (fz_of_ext (T:=T2) e4)
   have rx4:=rx3.ext (fz_of_ext (T:=T2) e4)
   unfold qgeZ
   have rest:badB a.op=true∨clientB a.who=false→HmL T5 h5 hp mp (m+30) h4:=fun hh =>
    ⟨_,T2,H,y4,⟨z.x.rest a.who a.op (by rcases hh with h | h; exact .inl h; exact .inr (.inl h)),z.hs.mono (by omega),(z.ts.do_ a.who ow).mono (by omega),z.n,z.c⟩⟩
   cases hbad:badB a.op with
   | true =>
    simp -implicitDefEqProofs
    unfold qaVZ
    exact hQ _ _ (rest (.inl hbad)) ⟨by simpa using s0,by simpa using s5,by simpa using s7,by simpa using s9⟩
   | false =>
    by_cases w0:a.who<0
    ·simp -implicitDefEqProofs[w0]
     unfold qaVZ
     exact hQ _ _ (rest (.inr (by simp[clientB]; omega))) ⟨by simpa using s0,by simpa using s5,by simpa using s7,by simpa using s9⟩
    by_cases w7:7<a.who
    ·simp -implicitDefEqProofs[w0,w7]
     unfold qaVZ
     exact hQ _ _ (rest (.inr (by simp[clientB]; omega))) ⟨by simpa using s0,by simpa using s5,by simpa using s7,by simpa using s9⟩
    simp -implicitDefEqProofs[w0,w7]
    have hcl:clientB a.who=true:=by simp[clientB]; omega
    have q3:cel h4 bx 3=some (.string a.op.user):=by simp[cel_of cx4,acC]
    unfold qgdZ
    simp -implicitDefEqProofs[q3,s5]
    have hrt:=z.ts.rt
    simp -implicitDefEqProofs[rightB] at hrt
    refine hstripe_ok a.op.user ow.s1 y4.hl (by rw[z.x.c]; omega) ?_
    have hsl:=stripeOf_lt (u:=a.op.user) (n:=M.c.stripes) (by omega)
    have hse:stripeOf a.op.user H.c.stripes=(M.stripe a.op.user:Int):=by rw[z.x.c]; unfold Tbl.stripe; omega
    rw[hse]
    obtain⟨l1,l2⟩:=do_len z.ts a.who a.op hbad hu
    exact hm33 y4 z hm hbad hcl cx4 (by rw[o2.tg bx _ c1]; exact tx) cw4 tw rx4 xu4 ow hu l1 l2 ⟨s0,s5,s7,s9⟩ (fun h' s' hw ht=>hQ h' s' ⟨_,hw⟩ ht) _ _ _ _ _ _ _ _ _ _ _ _ _ _ _ _ _ _ _ _ _ _ _ _ _ _ _ _
end
end Go.Proofs.YtcnphhhcknhhaaaGreat
namespace Go.Proofs.YtcnphhhcknhhaaaGreat
open Go Go.Den Go.MapKept
set_option linter.unusedSimpArgs false
set_option linter.unusedVariables false
set_option maxRecDepth 20000
variable {K:KTy}
set_option maxHeartbeats 4000000 in
theorem hallModel_ok (xs:List AcD){h:Heap}{v:Value}(x:Sl 10 AcR h v xs)(hk:∀ h',Ext h h'→K (.bool true) h') :
  callM P qdxZ #[v] h K:=by
 apply qnbZ
 unfold qegZ
 have xl:=x.len
 refine awake14_ok fun h1 e1=>?_
 unfold qgSZ
 by_cases hl:xs.length≤150
 rotate_left
 ·have hl':(150:Int)<xs.length:=by omega
  simp -implicitDefEqProofs[xl,hl']
  exact awake14_ok fun h2 e2=>hk _ (e1.trans e2)
 have hl':¬ (150:Int)<xs.length:=by omega
 simp -implicitDefEqProofs[xl,hl']
 unfold qgRZ
 rw[seqM_eq]
 unfold qgPZ
 refine loop_on [0] (fun s h'=>Ext h1 h'∧∃ i:Nat,i≤xs.length∧s 3 = .int .i64 i∧∀ y∈xs.take i,shortB y.op=true) (fun s _=>(xs.length-num (s 3)).toNat) ⟨Ext.refl _,0,by omega,by simp,by simp⟩ ?_
 rintro s h2 hf ⟨e2,i,hi,s3,hall⟩
 have s0:s 0=v:=by simpa using hf 0 (by simp)
 have e02:=e1.trans e2
 unfold qgOZ
 simp -implicitDefEqProofs[s0,s3,xl]
 refine⟨fun hc=>?_,fun hc=>?_⟩
 ·have hlt:i<xs.length:=by omega
  have hw1:IntKind.i64.wrap ((i:Int)+1)=(i+1:Nat):=by rw[wrap64_id (by omega) (by omega)]; omega
  obtain⟨ub,up,uv,i1,i2,i3,ow,hd,hwho,hby⟩:=acAt x hlt
  have i2:=i2 h2 e02
  have io:ldV (some (some 7)) (.pointer (some ⟨ub,up+2,none⟩)) h2=some (.agg (opC xs[i].op uv).toArray):=by
   have:=cels_sub i2 (j:=2) (m:=7) (by omega)
   rw[ldV_n (l:=opC xs[i].op uv) (by simpa [acC,opC] using this)]
  unfold qgNZ
  simp -implicitDefEqProofs[s0,s3,i1,io]
  refine short_ok xs[i].op (i3.ext (@StrR.ext) e02) fun h3 e3=>?_
  unfold qgMZ
  cases hs:shortB xs[i].op with
  | false =>
   simp -implicitDefEqProofs
   unfold qgKZ
   simp -implicitDefEqProofs
   exact hk _ (e02.trans e3)
  | true =>
   simp -implicitDefEqProofs
   unfold qgLZ
   simp -implicitDefEqProofs[s0,s3,hw1,-Int.natCast_add]
   refine⟨⟨e2.trans e3,i+1,by omega,rfl,fun y hy=>?_⟩,by omega⟩
   rw[List.take_succ_eq_append_getElem hlt,List.mem_append,List.mem_singleton] at hy
   rcases hy with hy | rfl
   ·exact hall y hy
   ·exact hs
 have hie:i=xs.length:=by omega
 subst hie
 rw[List.take_of_length_le (Nat.le_refl _)] at hall
 simp -implicitDefEqProofs
 unfold qgQZ
 refine small_ok fun h3 e3=>?_
 have e03:=e02.trans e3
 unfold qgoZ
 rw[zcCfg]
 refine nw_st rfl rfl (by simp[cfgC]) fun v8 h4 n4 e4 c4=>?_
 simp -implicitDefEqProofs only[cells_agg] at c4
 have e04:=e03.trans e4
 have og:∀ h',h' v8=some (.cells (cfgC small).toArray qFZ (0,0))→ldV (some (some 7)) (ptr v8) h'=some (.agg (cfgC small).toArray):=fun h' hc=>by simp[ld_at hc,cfgC]
 simp -implicitDefEqProofs only[og _ c4,ov_s]
 refine hallNew_ok small smallW (wf_nil h4) g1 (fun hr T5 h5 hp o5 y5=>?_) (fun hr=>by simp[rightB,small] at hr)
 have hn3:small.stripes.toNat=3:=by decide
 have cb:=o5.k.at c4 rfl (by simp[pre])
 unfold qgnZ
 simp -implicitDefEqProofs[og _ cb.1]
 refine mnew_ok small smallW o5.wf g4 (fun _ T6 h6 mp o6 x6=>?_) (fun hr'=>by rw[hr] at hr'; cases hr')
 have d41:Off (pre [4]) [1]:=off_pre (g:=[]) (x:=[4]) (y:=[1]) (by simp) (by simp)
 have y6:=y5.up o6 d41 (by simp[pre])
 rw[hn3] at y6 x6
 have enil:∀ p:Nat,binV .eql 4 true (ptr p) (.pointer none)=some (.bool false):=fun _=>rfl
 unfold qgmZ
 simp -implicitDefEqProofs[enil]
 have o46:Only U8 (fun _=>[]) h4 T6 h6:=(o5.mono u8_1).trans (o6.mono u8_4)
 have xF:Sl 10 AcR (fz T6 h6) v xs:=by
  have:Sl 10 AcR (fz (fun _=>[]) h4) v xs:=by rw[fz_nil]; exact x.ext (@AcR.ext) e04
  exact this.ext (@AcR.ext) (o46.ext U8.nil)
 have kE:∀ {m:Nat} {h':Heap},HmL T6 h6 hp mp m h'→K (.bool true) h':=fun {m h'} ⟨M,T',H,y',z'⟩=>hk _ (e04.trans (ext_of_only (o46.trans y'.o) U8.nil))
 have L0:HmL T6 h6 hp mp (30*0) h6:=⟨tbl0 small 3,T6,hall0 small 3,⟨Only.refl o6.wf,y6,x6⟩,⟨HmI.init _ _,HS.new smallW hr (by decide),TS.init smallW hr (by decide),rfl,rfl⟩⟩
 unfold qglZ
 rw[seqM_eq]
 unfold qgkZ
 refine loop_on [0,5,7] (fun s h'=>∃ i:Nat,i≤xs.length∧s 9 = .int .i64 i∧HmL T6 h6 hp mp (30*i) h') (fun s _=>(xs.length-num (s 9)).toNat) ⟨0,by omega,by simp,L0⟩ ?_
 rintro r h7 hf7 ⟨i,hi,r9,L⟩
 have r0:r 0=v:=by simpa [s0] using hf7 0 (by simp)
 have r5:r 5=ptr hp:=by simpa using hf7 5 (by simp)
 have r7:r 7=ptr mp:=by simpa using hf7 7 (by simp)
 unfold qgjZ
 simp -implicitDefEqProofs[r0,r9,xl]
 refine⟨fun hc=>?_,fun hc=>?_⟩
 rotate_left
 ·exact kE L
 have hlt:i<xs.length:=by omega
 have hw1:IntKind.i64.wrap ((i:Int)+1)=(i+1:Nat):=by rw[wrap64_id (by omega) (by omega)]; omega
 unfold qgiZ
 rw[seqM_eq]
 refine hm18 xF hlt (hall _ (List.getElem_mem hlt)) (by omega) L ⟨r0,r5,r7,r9⟩ (fun h' s' L' t'=>?_) _ _
 obtain⟨t0,t5,t7,t9⟩:=t'
 simp -implicitDefEqProofs[r0,r5,r7,r9,t0,t5,t7,t9,s0,hw1,-Int.natCast_add]
 exact⟨⟨i+1,by omega,rfl,by rw[show 30*(i+1)=30*i+30 by omega]; exact L'⟩,by omega⟩
end Go.Proofs.YtcnphhhcknhhaaaGreat
namespace Go.Proofs.YtcnphhhcknhhaaaGreat
open Go Go.Den
set_option linter.unusedSimpArgs false
set_option linter.unusedVariables false
theorem rdrAc:Rdr P 136 AcR:=fun enc W base spare held fuel cs x h=>by
 have hl:cs.length=10:=(struct_fields (P:=P) Tryz.underlying136 h).1.trans (by kernel_rfl)
 obtain⟨_,_,h0⟩:=struct_field (P:=P) Tryz.underlying136 h 0 5 0 1 (by kernel_rfl)
 obtain⟨_,_,h1⟩:=struct_field (P:=P) Tryz.underlying136 h 1 3 1 1 (by kernel_rfl)
 obtain⟨_,_,h2⟩:=struct_field (P:=P) Tryz.underlying136 h 2 50 2 7 (by kernel_rfl)
 obtain⟨_,_,h3⟩:=struct_field (P:=P) Tryz.underlying136 h 3 22 9 1 (by kernel_rfl)
 obtain⟨a0,e0,_,w0⟩:=DataW.trod_int Tryz.underlying5 h0
 obtain⟨a1,e1,_,w1⟩:=DataW.trod_int Tryz.underlying3 h1
 obtain⟨a3,e3,_,w3⟩:=DataW.trod_int Tryz.underlying22 h3
 obtain⟨a2,u,e2,s2,w2⟩:=rdrOp _ _ _ _ _ _ _ _ h2
 match cs,hl with
 | [x0,x1,x2,x3,x4,x5,x6,x7,x8,x9],_ =>
  simp[opC] at e0 e1 e2 e3
  exact⟨⟨a0,a1,a2,a3⟩,u,by simp[acC,e0,e1,e2,e3],s2,w2,wf_u8 w0,wf_i64 w1,wf_u64 w3⟩
end Go.Proofs.YtcnphhhcknhhaaaGreat
namespace Go.Proofs.YtcnphhhcknhhaaaGreat
open Go Go.Den
variable {K:KTy}
theorem hallModel_row {xs:List AcD}{v:Value}{h:Heap}(hx:Sl 10 AcR h v xs)(hk:∀ h',Ext h h'→K (.bool true) h') :
  callM P qdxZ #[v] h K:=hallModel_ok xs hx hk
end Go.Proofs.YtcnphhhcknhhaaaGreat
