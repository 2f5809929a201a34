/- Words, plain data and contracts of the Go functions that this claim reaches. No condition beyond the hypotheses that each theorem states. -/
import Derived.Test.YtcnphhhcknhhaaaGreatHm4
set_option linter.unusedSimpArgs false
set_option linter.unusedVariables false
namespace Go.Proofs.YtcnphhhcknhhaaaGreat
open Go Go.Den Go.MapKept
set_option linter.unusedSimpArgs false
set_option linter.unusedVariables false
set_option maxRecDepth 20000
theorem row_ty {sz:Nat}{e e':TypeId}{h:Heap}{v:Value}{n:Nat}{xs:List Value}(r:Row sz e h v n xs){b:Nat}{c:Array Value}(hb:h b=some (.cells c e' (0,0)))(he:e≠e'):rowOf v≠some b:=fun hh=>by
 rcases r.2 with ⟨rfl,_⟩ | ⟨g,cap,cur,rfl,h1,_⟩
 ·simp -implicitDefEqProofs[rowOf] at hh
 ·simp -implicitDefEqProofs only[rowOf,Option.some.injEq] at hh
  subst hh
  rw[hb] at h1
  cases h1; exact he rfl
def swL (v5 v7 v10 l b:Nat)(av:Value):List Nat:=v5::v7::v10::l::b::(rowOf av).toList
structure SwJ (T:Tags)(h hB:Heap)(b0:Book)(now:Int)(v5 v7 v10 l b i:Nat)(h':Heap)(k v av:Value):Prop where
 kb:∀ q o,hB q=some o→q≠v7→q≠v10→h' q=some o
 c10:h' v10=some (.cells #[k,v] qaZ (0,0))
 bk:BookR (fz (tls T (swL v5 v7 v10 l b av)) h') k v (sweepTo b0 now i).1
 c7:h' v7=some (.cells #[av] qxZ (0,0))
 rw:Rf 7 qGZ h h' av (sweepTo b0 now i).2.length ((sweepTo b0 now i).2.flatMap chgC)
 nl:rowOf av≠some l
 nb:rowOf av≠some b
 nB:∀ q,rowOf av=some q→hB q=none
def SwI (T:Tags)(h hB:Heap)(b0:Book)(now:Int)(v5 v7 v10 l b i:Nat)(h':Heap):Prop:=∃ k v av,SwJ T h hB b0 now v5 v7 v10 l b i h' k v av
theorem SwJ.keep {T:Tags}{h hB:Heap}{b0:Book}{now:Int}{v5 v7 v10 l b i:Nat}{h' h'':Heap}{k v av:Value}(x:SwJ T h hB b0 now v5 v7 v10 l b i h' k v av)(hl:hB l=none)(e:Ext h hB)(b7:∃ o,hB v7=some o)(b10:∃ o,hB v10=some o)(kp:Keep (some l) h' h'') :
  SwJ T h hB b0 now v5 v7 v10 l b i h'' k v av:=by
 have ne:∀ q,(∃ o,hB q=some o)→some q≠some l:=fun q ⟨o,ho⟩ hh=>by cases hh; rw[hl] at ho; cases ho
 exact⟨fun q o ho n7 n10=>kp q o (x.kb q o ho n7 n10) (ne q ⟨o,ho⟩),kp _ _ x.c10 (ne _ b10),x.bk.ext (fz_keep (by rw[tls_in (by simp[swL])]; simp) kp),kp _ _ x.c7 (ne _ b7),
  x.rw.keep kp (fresh_of e hl) x.nl,x.nl,x.nb,x.nB⟩
structure SwC (T:Tags)(h hB:Heap)(b0:Book)(Lv:List (List Value))(now:Int)(v1 v3 v5 v7 v10 l b i:Nat)(s2:Env)(h':Heap)(xb:Nat):Prop where
 j:SwI T h hB b0 now v5 v7 v10 l b i h'
 s3:s2 3=ptr v3
 s6:s2 6=ptr v7
 s7:s2 7=ptr v10
 s8:s2 8 = .string (b0.getD i (⟨#[]⟩,ent0)).1
 s9:s2 9=ptr xb
 cx:h' xb=some (.cells (Lv.getD i []).toArray qnZ (0,0))
 nl:xb≠l
def SwE (T:Tags)(h hB:Heap)(b0:Book)(Lv:List (List Value))(now:Int)(v1 v3 v5 v7 v10 l b i:Nat)(s2:Env)(h':Heap):Prop:=∃ xb,SwC T h hB b0 Lv now v1 v3 v5 v7 v10 l b i s2 h' xb
end Go.Proofs.YtcnphhhcknhhaaaGreat
namespace Go.Proofs.YtcnphhhcknhhaaaGreat
open Go Go.Den Go.MapKept
set_option linter.unusedSimpArgs false
set_option linter.unusedVariables false
set_option maxRecDepth 20000
set_option maxHeartbeats 2000000 in
theorem sweepBody {T:Tags}{h hB:Heap}(w:Wf T h){b0:Book}(bw:BkW b0)(hl:b0.length<100000)(hsz:∀ x∈b0,x.1.size≤maxLen)(hss:∀ x∈b0,x.2.ss.length<900000){Lv:List (List Value)}{now:Int}{v1 v3 v5 v7 v10:Nat}{F:Heap}(eF:∀ q o,F q=some o→hB q=some o∧q≠v7∧q≠v10)(el:El 4 EntR F Lv (b0.map (·.2)))
  (eB:Ext h hB) (c3:hB v3=some (.cells #[.int .u64 now] qayZ (0,0))) (n37:v3≠v7) (n310:v3≠v10) (b5:∃ o,hB v5=some o) (n57:v5≠v7) (n510:v5≠v10) (hv7:h v7=none) (hv10:h v10=none) (n710:v7≠v10)
  {i:Nat} (hi:i<b0.length) {l b:Nat} (hlB:hB l=none) (hbB:hB b=none) (b7:∃ o,hB v7=some o) (b10:∃ o,hB v10=some o) {s2:Env} {h3:Heap} (hl3:∃ o,h3 l=some o) (hb3:∃ o,h3 b=some o) {xb:Nat} (C:SwC T h hB b0 Lv now v1 v3 v5 v7 v10 l b i s2 h3 xb) :
  den P gd (rfB P qaEZ 0) [] s2 h3 (fun e _ _ h4=>h4 l=h3 l∧h4 b=h3 b∧match e with
   | .normal=>SwI T h hB b0 now v5 v7 v10 l b (i+1) h4
   | .ret=>(fun _ _ _ _=>False:Nat→Nat→Exit→Heap→Prop) l b .ret h4
   | .exit id=>(fun _ _ _ _=>False:Nat→Nat→Exit→Heap→Prop) l b (.exit id) h4
   | _=>False):=by
 rw[qqBZ]
 unfold qnmZ
 obtain⟨⟨k,v,av,J⟩,s3,s6,s7,s8,s9,cx,nxl⟩:=C
 have ne:∀ q,(∃ o,hB q=some o)→∀ r,hB r=none→q≠r:=fun q ⟨o,ho⟩ r hr hh=>by subst hh; rw[hr] at ho; cases ho
 obtain⟨x,hx⟩:∃ x,b0.getD i (⟨#[]⟩,ent0)=x:=⟨_,rfl⟩
 have hxi:b0[i]=x:=by rw[← hx,List.getD_eq_getElem?_getD,List.getElem?_eq_getElem hi]; rfl
 have hxm:x∈b0:=hxi▸List.getElem_mem hi
 have hLi:i<Lv.length:=by rw[el.len]; simpa using hi
 have hLv:Lv.getD i []=Lv[i]:=by rw[List.getD_eq_getElem?_getD,List.getElem?_eq_getElem hLi]; rfl
 obtain⟨sv,hc,hsv,hsn⟩:=el.el i hLi (by simpa using hi)
 simp -implicitDefEqProofs only[List.getElem_map,hxi] at hc hsv
 rw[hLv,hc] at cx
 rw[hx] at s8
 have eF3:Ext F h3:=fun q o e=>by obtain⟨q1,q2,q3⟩:=eF q o e; exact J.kb q o q1 q2 q3
 have c33:h3 v3=_:=J.kb _ _ c3 n37 n310
 have cx':=cx
 simp -implicitDefEqProofs only[presC] at cx'
 have c10:=J.c10
 simp -implicitDefEqProofs[s7,s9,s3,ld_at c10,cel_of c10,stm_at c10,ld_at cx',cel_of cx',stm_at cx',ld_at c33,cel_of c33,stm_at c33,stm_upd,ld_same,cel_same,over]
 refine purge_ok x.2.ss now (hsv.ext (R:=SessR) (@SessR.ext) eF3) hsn (by have:=hss x hxm; omega) fun h4 pv r4=>?_
 have c10:=r4.ex _ _ c10
 have c33:=r4.ex _ _ c33
 simp -implicitDefEqProofs[s8,ld_at c10,cel_of c10,stm_at c10,ld_at c33,cel_of c33,stm_at c33,stm_upd,ld_same,cel_same,over]
 have hin:∀ q∈swL v5 v7 v10 l b av,∃ o,h3 q=some o:=fun q hq=>by
  simp -implicitDefEqProofs only[swL,List.mem_cons,Option.mem_toList] at hq
  rcases hq with rfl | rfl | rfl | rfl | rfl | hq
  ·obtain⟨o,ho⟩:=b5; exact⟨o,J.kb _ _ ho n57 n510⟩
  ·exact⟨_,J.c7⟩
  ·exact⟨_,J.c10⟩
  ·exact hl3
  ·exact hb3
  ·exact J.rw.row.lt q hq
 have w3:Wf (tls T (swL v5 v7 v10 l b av)) h3:=wf_tls (w.ext J.rw.ex) hin
 obtain⟨bu1,bu2⟩:=bw.us x hxm
 have hpl:(purgeS x.2.ss now).length≤x.2.ss.length:=List.length_filter_le _ _
 have hsl:=sweep_len bw (now:=now) (n:=i) (by omega)
 have hcl:=sweep_chg b0 now i
 have hsc:=sweep_chg b0 now (i+1)
 have hst:sweepTo b0 now (i+1)=((settleB (sweepTo b0 now i).1 x.1 (purgeS x.2.ss now) now).1,(sweepTo b0 now i).2++(settleB (sweepTo b0 now i).1 x.1 (purgeS x.2.ss now) now).2):=by simp only[sweepTo,hx]
 refine settle_ok (sweepTo b0 now i).1 (bw.sweepTo now i (by omega)) x.1 (hsz x hxm) (purgeS x.2.ss now) now (w3.ext r4.ex) (J.bk.ext (fz_of_ext r4.ex)) (rf_sl r4 w3) r4.row.sn (by omega) (by have:=hss x hxm; omega) fun h5 k' v' cv e5 hb5 hc5=>?_
 have c7:=e5 _ _ (r4.ex _ _ J.c7)
 have c10:=e5 _ _ c10
 have p1:=hb5.1.one
 have p2:=hb5.2.1.one
 have ra:=((J.rw.ext r4.ex).ext e5)
 have oav:=ra.row.one
 simp -implicitDefEqProofs[s7,s6,ld_at c10,cel_of c10,stm_at c10,ld_at c7,cel_of c7,stm_at c7,stm_skip n710,stm_skip (Ne.symm n710),ld_skip n710,ld_skip (Ne.symm n710),cel_skip n710,cel_skip (Ne.symm n710),stm_upd,ld_same,cel_same,over,p1.1,p2.1]
 -- the book lies in its variable
 have eu:∀ q o,h5 q=some o→q≠v10→upd h5 v10 (.cells #[k',v'] qaZ (0,0)) q=some o:=fun q o ho hq=>by rw[upd_ne hq]; exact ho
 have c7u:=eu _ _ c7 n710
 have c10u:=upd_same' h5 v10 (.cells #[k',v'] qaZ (0,0))
 have nr10:rowOf av≠some v10:=row_ty ra.row c10 (by decide)
 have nr7:rowOf av≠some v7:=row_ty ra.row c7 (by decide)
 have ru:=ra.skip (o:=.cells #[k',v'] qaZ (0,0)) hv10 nr10
 have hbu:BookR (fz (tls T (swL v5 v7 v10 l b av)) (upd h5 v10 (.cells #[k',v'] qaZ (0,0)))) k' v' _:=hb5.ext (fz_of fun q hq=>⟨hq,fun o ho=>eu q o ho fun hh=>(tls_nil hq).1 (by simp[swL,hh])⟩)
 have hcu:Sl 7 ChgR (upd h5 v10 (.cells #[k',v'] qaZ (0,0))) cv _:=(hc5.ext (R:=ChgR) (@ChgR.ext) (h':=fz (tls T (swL v5 v7 v10 l b av)) (upd h5 v10 (.cells #[k',v'] qaZ (0,0)))) (fz_of fun q hq=>⟨hq,fun o ho=>eu q o ho fun hh=>(tls_nil hq).1 (by simp[swL,hh])⟩)).ext (R:=ChgR) (@ChgR.ext) (fz_ext _ _)
 have old:∀ q o,h3 q=some o→q≠v10→upd h5 v10 (.cells #[k',v'] qaZ (0,0)) q=some o:=fun q o ho hq=>eu q o (e5 _ _ (r4.ex _ _ ho)) hq
 generalize upd h5 v10 _=h6 at *
 have hlen2:(sweepTo b0 now i).2.length+(settleB (sweepTo b0 now i).1 x.1 (purgeS x.2.ss now) now).2.length≤i+1:=by
  have:=hsc; rw[hst] at this; simpa using this
 refine Rf.app2 unSlChg apChg (by omega) ru (chg_els hcu) (flatC_one _) (by unfold maxLen; omega) (by omega) fun av' h7 r7 kp7 ha=>?_
 have c7':=kp7 _ _ c7u nr7
 have c10':=kp7 _ _ c10u nr10
 have oav':=r7.row.one
 have exi:∀ q,(∃ o,h3 q=some o)→q≠v10→rowOf av≠some q→rowOf av'≠some q:=fun q ⟨o,ho⟩ hq hn hh=>by
  rcases ha with ha | ⟨r,ha,hr⟩
  ·exact hn (by rw[← ha]; exact hh)
  ·rw[ha] at hh; cases hh; rw[old q o ho hq] at hr; cases hr
 have nl':=exi l hl3 (fun hh=>ne v10 b10 l hlB hh.symm) J.nl
 have nb':=exi b hb3 (fun hh=>ne v10 b10 b hbB hh.symm) J.nb
 have n7':rowOf av'≠some v7:=row_ty r7.row c7' (by decide)
 simp -implicitDefEqProofs[s6,ld_at c7',cel_of c7',stm_at c7',stm_upd,ld_same,cel_same,over,oav'.1,oav'.2]
 obtain⟨ol,hol⟩:=hl3
 obtain⟨ob,hob⟩:=hb3
 have l7:l≠v7:=fun hh=>ne v7 b7 l hlB hh.symm
 have l10:l≠v10:=fun hh=>ne v10 b10 l hlB hh.symm
 have bb7:b≠v7:=fun hh=>ne v7 b7 b hbB hh.symm
 have bb10:b≠v10:=fun hh=>ne v10 b10 b hbB hh.symm
 have keep:∀ q o,h3 q=some o→q≠v10→q≠v7→rowOf av≠some q→upd h7 v7 (.cells #[av'] qxZ (0,0)) q=some o:=fun q o ho h10 h7' hn=>by
  rw[upd_ne h7']; exact kp7 q o (old q o ho h10) hn
 refine⟨by rw[hol]; exact keep l ol hol l10 l7 J.nl,by rw[hob]; exact keep b ob hob bb10 bb7 J.nb,k',v',av',⟨fun q o ho q7 q10=>?_,by rw[upd_ne (Ne.symm n710)]; exact c10',?_,upd_same' _ _ _,?_,nl',nb',fun q hq=>?_⟩⟩
 ·exact keep q o (J.kb q o ho q7 q10) q10 q7 (fun hh=>by rw[J.nB q hh] at ho; cases ho)
 ·rw[hst]
  refine hbu.ext (fz_of2 fun q o hq ho=>?_)
  obtain⟨q1,q2⟩:=tls_nil hq
  simp -implicitDefEqProofs only[swL,List.mem_cons,Option.mem_toList,not_or] at q1
  obtain⟨n1,n2,n3,n4,n5,n6⟩:=q1
  have hn:rowOf av≠some q:=n6
  refine⟨?_,by rw[upd_ne n2]; exact kp7 q o ho hn⟩
  rw[tls_out,q2]
  simp -implicitDefEqProofs only[swL,List.mem_cons,Option.mem_toList,not_or]
  refine⟨n1,n2,n3,n4,n5,fun hh=>?_⟩
  rcases ha with ha | ⟨r,ha,hr⟩
  ·exact hn (by rw[← ha]; exact hh)
  ·rw[ha] at hh; cases hh; rw[hr] at ho; cases ho
 ·rw[hst]
  have:=r7.skip (o:=.cells #[av'] qxZ (0,0)) hv7 n7'
  rw[List.length_append,List.flatMap_append]
  exact this
 ·cases hq0:hB q with
  | none=>rfl
  | some o =>
   exfalso
   rcases ha with ha | ⟨r,ha,hr⟩
   ·rw[J.nB q (by rw[← ha]; exact hq)] at hq0; cases hq0
   ·rw[ha] at hq; cases hq
    by_cases h1:q=v7
    ·subst h1; rw[hr] at c7u; cases c7u
    ·by_cases h2:q=v10
     ·subst h2; rw[hr] at c10u; cases c10u
     ·rw[old q o (J.kb q o hq0 h1 h2) h2] at hr; cases hr
end Go.Proofs.YtcnphhhcknhhaaaGreat
namespace Go.Proofs.YtcnphhhcknhhaaaGreat
open Go Go.Den Go.MapKept
set_option linter.unusedSimpArgs false
set_option linter.unusedVariables false
set_option maxRecDepth 20000
theorem zcSlChg:zc P qxZ=some #[.slice none 0 0]:=by kernel_rfl
theorem tgSlChg:tagg P qxZ=some none:=by kernel_rfl
variable {K:KTy}
set_option maxHeartbeats 2000000 in
theorem bsweep_ok (b0:Book)(bw:BkW b0)(hl:b0.length<100000)(hsz:∀ x∈b0,x.1.size≤maxLen)(hss:∀ x∈b0,x.2.ss.length<900000)(now:Int){T:Tags}{h:Heap}(w:Wf T h){kw vw:Value}(x:BookR (fz T h) kw vw b0)
  (hk:∀ h' k v cv,Ext h h'→BookR (fz T h') k v (sweepB b0 now).1→Sl 7 ChgR (fz T h') cv (sweepB b0 now).2→K (.tuple #[.agg #[k,v],cv]) h'):callM P qaEZ #[.agg #[kw,vw],.int .u64 now] h K:=by
 apply qqWZ
 unfold qmSZ
 rw[zcMap,zcSlChg]
 refine nw_agg fun v1 h1 n1 e1 c1=>?_
 simp -implicitDefEqProofs only[nwM_s,cells_i]
 intro v3 n3
 have e3:Ext h1 (upd h1 v3 _):=Ext.upd n3 (.cells #[.int .u64 now] qayZ (0,0))
 have c3:=upd_same' h1 v3 (.cells #[.int .u64 now] qayZ (0,0))
 generalize upd h1 v3 _=h3 at *
 intro v5 n5
 have e5:Ext h3 (upd h3 v5 _):=Ext.upd n5 (.cells #[.slice none 0 0,.slice none 0 0] qaZ (0,0))
 have c5:=upd_same' h3 v5 (.cells #[.slice none 0 0,.slice none 0 0] qaZ (0,0))
 generalize upd h3 v5 _=h5 at *
 intro v7 n7
 have e7:Ext h5 (upd h5 v7 _):=Ext.upd n7 (.cells #[.slice none 0 0] qxZ (0,0))
 have c7:=upd_same' h5 v7 (.cells #[.slice none 0 0] qxZ (0,0))
 generalize upd h5 v7 _=h7 at *
 have c1:=e7 _ _ (e5 _ _ (e3 _ _ c1))
 have c3:=e7 _ _ (e5 _ _ c3)
 have n37:v3≠v7:=ne_fresh (e5 _ _ ‹_›) n7
 have n57:v5≠v7:=ne_fresh c5 n7
 have c5:=e7 _ _ c5
 have e0:=((e1.trans e3).trans e5).trans e7
 have hv7:h v7=none:=fresh_of ((e1.trans e3).trans e5) n7
 have hv5:h v5=none:=fresh_of (e1.trans e3) n5
 have o1:=x.1.one
 have o2:=x.2.1.one
 have hag:ldV (some (some 2)) (ptr v1) h7=some (.agg #[kw,vw]):=by simp[ld_at c1]
 simp -implicitDefEqProofs only[hag,ov_s]
 intro v10 n10
 simp -implicitDefEqProofs[stm_upd,ld_same,cel_same,over,o1.1,o2.1]
 have e10:Ext h7 (upd h7 v10 _):=Ext.upd n10 (.cells #[kw,vw] qaZ (0,0))
 have c10:=upd_same' h7 v10 (.cells #[kw,vw] qaZ (0,0))
 generalize upd h7 v10 _=h10 at *
 have n710:v7≠v10:=ne_fresh c7 n10
 have n310:v3≠v10:=ne_fresh c3 n10
 have n510:v5≠v10:=ne_fresh c5 n10
 have c1:=e10 _ _ c1
 have c3:=e10 _ _ c3
 have c5:=e10 _ _ c5
 have c7:=e10 _ _ c7
 have hv10:h v10=none:=fresh_of e0 n10
 have e0:=e0.trans e10
 rw[seqM_eq]
 unfold qolZ
 have hag:ldV (some (some 2)) (ptr v1) h10=some (.agg #[kw,vw]):=by simp[ld_at c1]
 simp -implicitDefEqProofs only[hag,ov_s]
 refine all_ok b0 ((fz_ext T h).trans e0) x fun pA hB nA eA cA=>?_
 have nA7:v7≠pA:=ne_fresh c7 nA
 have nA10:v10≠pA:=ne_fresh c10 nA
 have nA5:v5≠pA:=ne_fresh c5 nA
 have c3:=eA _ _ c3
 have c5:=eA _ _ c5
 have c7:=eA _ _ c7
 have c10:=eA _ _ c10
 have e0:=e0.trans eA
 -- what nobody changes
 obtain⟨Lv,l1,l2⟩:=x.2.1.els EntR.one
 simp -implicitDefEqProofs only[List.length_map] at l1
 have wB:=w.ext e0
 have hall:∀ q∈[v5,v7,v10],h q=none:=fun q hq=>by
  simp -implicitDefEqProofs only[List.mem_cons,List.not_mem_nil,or_false] at hq
  rcases hq with rfl | rfl | rfl
  ·exact hv5
  ·exact hv7
  ·exact hv10
 have tA:T pA=[]:=w pA (fresh_of ‹Ext h h10› nA)
 have F1:Ext (fz T h) (fz (tls T [v5,v7,v10]) hB):=fz_tls hall e0
 have FA:fz (tls T [v5,v7,v10]) hB pA=some (.cells #[kw,vw] qaZ (0,0)):=by
  refine fz_at cA ?_
  rw[tls_out (by simp; exact⟨Ne.symm nA5,Ne.symm nA7,Ne.symm nA10⟩)]
  exact tA
 unfold qokZ
 refine rf_go good mixed rfl (by kernel_rfl) (all_it b0 (hA:=fz (tls T [v5,v7,v10]) hB) (p:=pA) (kw:=kw) (vw:=vw) (Lv:=Lv) FA (x.ext F1) (l1.ext F1) l2.size (by simpa using l2.len))
  (fun l b i h'=>SwI T h hB b0 now v5 v7 v10 l b i h') (fun _ _ _ _=>False) (fun l b i s2 h'=>SwE T h hB b0 Lv now v1 v3 v5 v7 v10 l b i s2 h') ?_ ?_ ?_ (fun _ _ _ _ _ _ _ h _=>h) ?_ ?_ ?_ ?_ ?_ (fun _ _ _ _ _ _ _ h=>h.elim) (fun _ _ _ _ _ _ _ _ h=>h.elim)
 ·intro l b hl hb
  refine⟨kw,vw,.slice none 0 0,fun q o ho _ _=>ho,c10,?_,c7,Rf.nil e0,by simp[rowOf],by simp[rowOf],fun q hq=>by simp[rowOf] at hq⟩
  refine x.ext (fz_tls (fun q hq=>?_) e0)
  simp -implicitDefEqProofs only[swL,rowOf,Option.toList,List.mem_cons,List.not_mem_nil,or_false] at hq
  rcases hq with rfl | rfl | rfl | rfl | rfl
  ·exact hv5
  ·exact hv7
  ·exact hv10
  ·exact fresh_of e0 hl
  ·exact fresh_of e0 hb
 ·rintro l b i h' ⟨k,v,av,J⟩ q o hq
  have hq':hB q=some o:=fz_ext _ _ _ _ hq
  have hn:q ∉ [v5,v7,v10]:=fun hm=>by
   unfold fz at hq; rw[tls_in hm] at hq; simp at hq
  simp -implicitDefEqProofs only[List.mem_cons,List.not_mem_nil,or_false,not_or] at hn
  exact J.kb q o hq' hn.2.1 hn.2.2
 ·rintro l b hl hb i h' h'' ⟨k,v,av,J⟩ kp
  exact⟨k,v,av,J.keep hl e0 ⟨_,c7⟩ ⟨_,c10⟩ kp⟩
 ·rintro l b i s2 ha hb' hl hb ⟨xb,C⟩ kp
  obtain⟨⟨k,v,av,J⟩,q3,q6,q7,q8,q9,qx,qn⟩:=C
  exact⟨xb,⟨k,v,av,J.keep hl e0 ⟨_,c7⟩ ⟨_,c10⟩ kp⟩,q3,q6,q7,q8,q9,kp _ _ qx (by simpa using qn),qn⟩
 ·intro i hi; simp[allX]
 ·rintro i hi l b h2 hl hb ⟨ol,hol⟩ ⟨ob,hob⟩ ⟨k,v,av,J⟩
  rw[qqAZ]
  unfold qnlZ
  rw[zcEnt]
  have hi':i<b0.length:=by simpa [allX] using hi
  have hLi:i<Lv.length:=by rw[l2.len]; simpa using hi'
  have hxi:(allX b0 Lv)[i]=#[.string (b0.getD i (⟨#[]⟩,ent0)).1,.agg (Lv.getD i []).toArray]:=by simp[allX]
  have hLv:Lv.getD i []=Lv[i]:=by rw[List.getD_eq_getElem?_getD,List.getElem?_eq_getElem hLi]; rfl
  have hsz4:(Lv.getD i []).length=4:=by rw[hLv]; exact l2.size _ (List.getElem_mem _)
  have hone:∀ u∈Lv.getD i [],u.oneCell'=true:=by rw[hLv]; exact l2.one _ (List.getElem_mem hLi)
  rw[hxi]
  obtain⟨c0,hc0⟩:∃ c,Lv.getD i []=c:=⟨_,rfl⟩
  obtain⟨k0,hk0⟩:∃ k,(b0.getD i (⟨#[]⟩,ent0)).1=k:=⟨_,rfl⟩
  rw[hc0,hk0]
  rw[hc0] at hsz4 hone
  simp -implicitDefEqProofs
  refine nw_st rfl (by simpa using hsz4) (by simpa using hone) fun xb h4 n4 e4 c4=>?_
  have nx:xb≠l:=fun hh=>by subst hh; rw[hol] at n4; cases n4
  refine⟨⟨xb,⟨k,v,av,?_⟩,?_,?_,?_,?_,?_,?_,nx⟩,by rw[hol,e4 _ _ hol],by rw[hob,e4 _ _ hob]⟩
  ·exact⟨fun q o ho n7 n10=>e4 _ _ (J.kb q o ho n7 n10),e4 _ _ J.c10,J.bk.ext (fz_of_ext e4),e4 _ _ J.c7,J.rw.ext e4,J.nl,J.nb,J.nB⟩
  ·simp -implicitDefEqProofs
  ·simp -implicitDefEqProofs
  ·simp -implicitDefEqProofs
  ·rw[hk0]; simp
  ·simp -implicitDefEqProofs
  ·rw[c4,hc0,cells_agg]
 ·rintro i hi l b s2 h3 hl9 hb hl3 hb3 ⟨xb,C⟩
  have hi':i<b0.length:=by simpa [allX] using hi
  refine sweepBody w bw hl hsz hss (F:=fz (tls T [v5,v7,v10]) hB) ?_ (l2.ext (@EntR.ext) F1) e0 c3 n37 n310 ⟨_,c5⟩ n57 n510 hv7 hv10 n710 hi' hl9 hb ⟨_,c7⟩ ⟨_,c10⟩ hl3 hb3 C
  intro q o hq
  have hn:q ∉ [v5,v7,v10]:=fun hm=>by
   unfold fz at hq; rw[tls_in hm] at hq; simp at hq
  simp -implicitDefEqProofs only[List.mem_cons,List.not_mem_nil,or_false,not_or] at hn
  exact⟨fz_ext _ _ _ _ hq,hn.2.1,hn.2.2⟩
 ·intro l b h' hl9 hlb hb hd hJ
  obtain⟨k,v,av,J⟩:=hJ
  have hlen:(allX b0 Lv).length=b0.length:=by simp[allX]
  rw[hlen] at J
  have c5':=J.kb _ _ c5 n57 n510
  have c7':=J.c7
  have c10':=J.c10
  have p1:=J.bk.1.one
  have p2:=J.bk.2.1.one
  have oav:=J.rw.row.one
  have nb5:v5≠b:=fun hh=>by subst hh; rw[c5] at hb; cases hb
  have nr5:rowOf av≠some v5:=row_ty J.rw.row c5' (by decide)
  have hbh:h b=none:=fresh_of e0 hb
  simp -implicitDefEqProofs only[blkM_n,thenM_n]
  unfold qomZ
  simp -implicitDefEqProofs[ld_at c10',cel_of c10',stm_at c10',ld_at c7',cel_of c7',stm_at c7',ld_at c5',cel_of c5',stm_at c5',stm_skip n57,stm_skip (Ne.symm n57),ld_skip n57,ld_skip (Ne.symm n57),cel_skip n57,cel_skip (Ne.symm n57),stm_skip n510,stm_skip (Ne.symm n510),ld_skip n510,ld_skip (Ne.symm n510),cel_skip n510,cel_skip (Ne.symm n510),stm_upd,ld_same,cel_same,over,p1.1,p2.1,hd,tgMap,tgSlChg,upd_ne (Ne.symm nb5),ld_skip nb5]
  refine hk _ k v av (ext_upd hbh (ext_upd hv5 J.rw.ex)) (J.bk.ext ?_) ?_
  ·refine fz_untls fun q o hq ho=>?_
   simp -implicitDefEqProofs only[swL,List.mem_cons,Option.mem_toList,not_or] at hq
   rw[upd_ne hq.2.2.2.2.1,upd_ne hq.1]; exact ho
  ·have r:=(J.rw.skip (o:=.cells #[k,v] qaZ (0,0)) hv5 nr5).skip (o:=.deferred none) hbh J.nb
   have e7:(sweepB b0 now).2.flatMap chgC=((sweepB b0 now).2.map chgC).flatten:=List.flatMap_def
   have r:Rf 7 qGZ h _ av (sweepB b0 now).2.length ((sweepB b0 now).2.flatMap chgC):=r
   rw[e7] at r
   exact r.sl w (by simp) (El.enc (by simp[chgC,presC]) (fun y=>chgC_one y) (fun _ _=>rfl))
end Go.Proofs.YtcnphhhcknhhaaaGreat
namespace Go.Den
open Go
set_option linter.unusedVariables false
def Ring.put (r:Ring)(x:Evt):Ring:=if r.room≤r.l.length then { r with lost:=true } else { r with l:=r.l++[x] }
def qset (q:Nat→Ring)(i:Nat)(r:Ring):Nat→Ring:=fun k=>if k=i then r else q k
def clientB (who:Int):Bool:=decide (0≤who∧who<8)
def mbit (m who:Int):Bool:=m / 2 ^ who.toNat % 2 == 1
def Feed.watching (f:Feed)(who:Int)(u:ByteArray):Bool:=clientB who && mbit (valL 0 f.ws u) who
def Feed.tell1 (f:Feed)(c:Chg)(seq:Int):Nat→Feed
 | 0=>f
 | n+1=>let g:=f.tell1 c seq n; if f.watching n c.user then { g with qs:=qset g.qs n ((g.qs n).put ⟨c.user,c.old,c.new,seq⟩) } else g
def Feed.tell (f:Feed)(l:List Chg)(seq:Int):Feed:=l.foldl (fun f c=>f.tell1 c seq 8) f
theorem tell1_ws (f:Feed)(c:Chg)(seq:Int):∀ n,(f.tell1 c seq n).ws=f.ws
 | 0=>rfl
 | n+1=>by
  have ih:=tell1_ws f c seq n
  simp only[Feed.tell1]
  split<;>exact ih
def RiG (r:Ring):Prop:=0≤r.room∧r.room≤16∧r.l.length≤16
structure FdG (f:Feed):Prop where
 so:SrtK (keysL f.ws)
 len:f.ws.length<1000000
 ms:∀ x∈f.ws,0≤x.2∧x.2<4294967296
 qs:∀ j,j<8→RiG (f.qs j)
theorem RiG.put {r:Ring}(g:RiG r)(x:Evt):RiG (r.put x):=by
 obtain⟨h1,h2,h3⟩:=g
 unfold Ring.put
 split
 ·exact⟨h1,h2,h3⟩
 ·refine⟨h1,h2,?_⟩
  simp only[List.length_append,List.length_cons,List.length_nil]; omega
theorem FdG.tell1 {f:Feed}(g:FdG f)(c:Chg)(seq:Int):∀ n,FdG (f.tell1 c seq n)
 | 0=>g
 | n+1=>by
  have ih:=FdG.tell1 g c seq n
  simp only[Feed.tell1]
  split
  ·refine⟨ih.so,ih.len,ih.ms,fun j hj=>?_⟩
   simp only[qset]
   split
   ·rename_i h; subst h; exact (ih.qs _ hj).put _
   ·exact ih.qs j hj
  ·exact ih
theorem FdG.tell {f:Feed}(g:FdG f)(seq:Int):∀ l:List Chg,FdG (f.tell l seq):=by
 intro l
 unfold Feed.tell
 induction l generalizing f with
 | nil=>exact g
 | cons c l ih=>exact ih (g.tell1 c seq 8)
end Go.Den
namespace Go.Den
open Go
theorem bin_shr32 (t:Nat)(c:Bool){m n:Int}(h0:0≤n)(h1:n<8)(hm:0≤m):binV .shr t c (.int .u32 m) (.int .i64 n)=some (.int .u32 (m / 2 ^ n.toNat)):=by
 have:m.fdiv (2 ^ n.toNat)=m / 2 ^ n.toNat:=Int.fdiv_eq_ediv_of_nonneg _ (Int.pow_nonneg (by omega))
 simp[binV,intV,IntKind.bits,this]
 exact⟨h0,by rw[Nat.min_eq_left (by omega),this]⟩
theorem wrapU32_id {n:Int}(h0:0≤n)(h1:n<4294967296):IntKind.u32.wrap n=n:=by
 simp only[IntKind.wrap,IntKind.bits,IntKind.signed]
 simp
 omega
theorem bin_and32 (t:Nat)(c:Bool){b:Int}(hb:0≤b)(h2:b<4294967296):binV .and t c (.int .u32 b) (.int .u32 1)=some (.int .u32 (b % 2)):=by
 have h:binV .and t c (.int .u32 b) (.int .u32 1)=some (.int .u32 (IntKind.u32.wrap (BitVec.ofInt 32 b &&& BitVec.ofInt 32 1).toNat)):=rfl
 obtain⟨n,rfl⟩:∃ n:Nat,b=n:=⟨b.toNat,by omega⟩
 have e:(BitVec.ofInt 32 (n:Int) &&& BitVec.ofInt 32 1).toNat=n % 2:=by
  rw[BitVec.toNat_and]
  have:(BitVec.ofInt 32 (n:Int)).toNat=n:=by simp; omega
  rw[this]
  have:(BitVec.ofInt 32 1).toNat=1:=by rfl
  rw[this,Nat.and_one_is_mod]
 rw[h,e,wrapU32_id (by omega) (by omega)]
 congr 2
theorem valL_rng {b:List (ByteArray × Int)}{u:ByteArray}(h:∀ x∈b,0≤x.2∧x.2<4294967296):0≤valL 0 b u∧valL 0 b u<4294967296:=by
 induction b with
 | nil=>simp[valL]
 | cons x b ih =>
  obtain⟨k,e⟩:=x
  simp only[valL]
  split
  ·exact h (k,e) (by simp)
  ·exact ih fun x hx=>h x (by simp[hx])
end Go.Den
namespace Go.Proofs.YtcnphhhcknhhaaaGreat
open Go Go.Den Go.MapKept
set_option linter.unusedSimpArgs false
set_option linter.unusedVariables false
set_option maxRecDepth 20000
theorem bsEv:bsI P qrZ=some (quZ,8,#[.string ⟨#[]⟩,.int .i64 0,.int .i64 0,.int .i64 0,.int .i64 0,.int .i64 0,.int .i64 0,.int .u64 0]):=by kernel_rfl
theorem unSlEv:P.underlying qrZ=some (.slice quZ):=by kernel_rfl
theorem apEv:apC P quZ=some (8,72,8):=by kernel_rfl
theorem evC_one (e:Evt):∀ u∈evC e,u.oneCell'=true:=fun u hu=>EvR.one (h:=fun _=>none) _ e rfl u hu
variable {K:KTy}
theorem put_ok (x:Evt){T:Tags}{h:Heap}{g:Tag}{p:Nat}{r:Ring}(w:Wf T h)(gg:Gd g)(xr:RingR T h g p r)(rg:RiG r)
  (hk:∀ T' h' b,Only (pre g) T h T' h'→RingR T' h' g p (r.put x)→K (.bool b) h'):callM P qdpZ #[ptr p,.agg (evC x).toArray] h K:=by
 apply qmIZ
 unfold qdBZ
 refine nw_agg fun v1 h1 n1 e1 c1=>?_
 have o1:Only non T h T h1:=Only.of_ext w e1
 obtain⟨lv,cp,tp,rl⟩:=xr.kp o1.k (Off.non _)
 have cp0:=cp
 simp -implicitDefEqProofs only[ringC] at cp
 have hlen:=rl.len
 have hone:=rl.one
 simp -implicitDefEqProofs[ld_at cp,cel_of cp,stm_at cp,stm_upd,ld_same,cel_same,over,hlen]
 have od:∀ o',Only (pre g) T h T (upd h1 p o'):=fun o'=>(o1.mono non_up).st cp0 (tp▸pre_app _ _)
 refine⟨fun hc=>?_,fun hc=>?_⟩
 ·have e:r.put x={ r with lost:=true }:=by simp[Ring.put,hc]
  rw[e] at hk
  refine hk T _ false (od _) ⟨lv,by rw[upd_same']; rfl,tp,rl.kp (Only.upd (U:=fun t=>t=g++[0]) o1.wf cp0 tp).k (ne_tag (by simp))⟩
 ·have hc':¬ r.room≤(r.l.length:Int):=by omega
  have e:r.put x={ r with l:=r.l++[x] }:=by simp[Ring.put,hc']
  rw[e] at hk
  unfold qfwZ
  have hld:ldV (some (some 8)) (ptr v1) h1=some (.agg (evC x).toArray):=by simp[ld_at c1,evC,presC]
  simp -implicitDefEqProofs[ld_at cp,cel_of cp,stm_at cp,stm_upd,ld_same,cel_same,over,hld]
  refine bs_one bsEv (by simp[evC,presC]) (by omega) fun b h2 n2 e2 c2=>?_
  have o2:Only non T h1 T h2:=Only.of_ext o1.wf e2
  have cp2:=e2 _ _ cp
  refine⟨by simp[ld_at cp2,cel_of cp2,stm_at cp2,stm_upd,ld_same,cel_same,over],?_⟩
  refine Rw.app1 (m:=1) (news:=_) unSlEv apEv (by omega) o2.wf (rl.kp o2.k (not_non _)) (cels_one c2 (by simp[evC,presC])) (by simpa using evC_one x) (by unfold maxLen; have:=rg.2.2; omega) (by have:=rg.2.2; omega) fun lv' T3 h3 o3 r3=>?_
  have b3:=o3.k.at (e2 _ _ cp0) tp (ne_tag (by simp))
  have c3:=b3.1
  simp -implicitDefEqProofs only[ringC] at c3
  have ho:=r3.one
  simp -implicitDefEqProofs[ld_at c3,cel_of c3,stm_at c3,stm_upd,ld_same,cel_same,over,ho.1,ho.2]
  have oe:∀ o',Only (pre g) T h T3 (upd h3 p o'):=fun o'=>(((o1.mono non_up).up o2 non_up).up o3 fun t=>eq_pre).st b3.1 (b3.2▸pre_app _ _)
  refine hk T3 _ true (oe _) ⟨lv',by rw[upd_same']; simp[ringC],b3.2,?_⟩
  have:=r3.kp (Only.upd (U:=fun t=>t=g++[0]) (o':=.cells #[.int .i64 r.room,lv',.bool r.lost] qyZ (0,0)) o3.wf b3.1 b3.2).k (ne_tag (by simp))
  simpa using this
theorem client_ok (who:Int){h:Heap}(hk:K (.bool (clientB who)) h):callM P qclZ #[.int .i64 who] h K:=by
 apply qqNZ
 unfold qmEZ
 simp +contextual -implicitDefEqProofs
 exact kb hk (by unfold clientB; rw[Bool.decide_and])
theorem watching_ok (who:Int)(u:ByteArray){T:Tags}{h:Heap}{g:Tag}{p:Nat}{f:Feed}(x:FeedR T h g p f)(fg:FdG f)
  (hk:∀ h',Ext h h'→K (.bool (f.watching who u)) h'):callM P qdfZ #[ptr p,.int .i64 who,.string u] h K:=by
 apply qoMZ
 unfold qgCZ
 obtain⟨kw,vw,q,cp,tp,x1,x2,xq,s1,s2⟩:=x
 have hag:ldV (some (some 2)) (ptr p) h=some (.agg #[kw,vw]):=by simp[ld_at cp,feedC,feedG,List.range_succ]
 simp -implicitDefEqProofs[hag]
 refine mget_ok f.ws fg.so u (fz_ext T h) ⟨x1,x2,s1,s2⟩ fg.len fun h1 e1=>?_
 unfold qivZ
 simp -implicitDefEqProofs only[exV_0,exV_1,ov_s]
 refine client_ok who ?_
 unfold qiuZ
 obtain⟨m0,m1⟩:=valL_rng (u:=u) fg.ms
 cases hc:clientB who with
 | false =>
  simp -implicitDefEqProofs
  exact kb (hk _ e1) (by simp[Feed.watching,hc])
 | true =>
  have hc':0≤who∧who<8:=by simpa [clientB] using hc
  have m2:0≤valL 0 f.ws u / 2 ^ who.toNat:=Int.ediv_nonneg m0 (Int.pow_nonneg (by omega))
  have m3:valL 0 f.ws u / 2 ^ who.toNat<4294967296:=Int.lt_of_le_of_lt (Int.ediv_le_self _ m0) m1
  simp -implicitDefEqProofs[bin_shr32 _ _ hc'.1 hc'.2 m0,bin_and32 _ _ m2 m3]
  exact kb (hk _ e1) (by simp[Feed.watching,hc,mbit])
end Go.Proofs.YtcnphhhcknhhaaaGreat
namespace Go.Proofs.YtcnphhhcknhhaaaGreat
open Go Go.Den Go.MapKept
set_option linter.unusedSimpArgs false
set_option linter.unusedVariables false
set_option maxRecDepth 20000
structure FeedX (T:Tags)(h:Heap)(g:Tag)(p:Nat)(f:Feed)(kw vw:Value)(q:Nat→Nat):Prop where
 hp:h p=some (.cells (feedC kw vw fun j=>ptr (q j)).toArray qafZ (0,0))
 tp:T p=g++[0]
 x1:Sl 1 StrR (fz T h) kw (f.ws.map (·.1))
 x2:Sl 1 MaskR (fz T h) vw (f.ws.map (·.2))
 xq:∀ j,j<8→RingR T h (g++[1,j]) (q j) (f.qs j)
 s1:Sn kw
 s2:Sn vw
theorem FeedX.r {T:Tags}{h:Heap}{g:Tag}{p:Nat}{f:Feed}{kw vw:Value}{q:Nat→Nat}(x:FeedX T h g p f kw vw q):FeedR T h g p f:=⟨kw,vw,q,x.hp,x.tp,x.x1,x.x2,x.xq,x.s1,x.s2⟩
theorem FeedX.kp {U:Tag→Prop}{T T':Tags}{h h':Heap}{g:Tag}{p:Nat}{f:Feed}{kw vw:Value}{q:Nat→Nat}(x:FeedX T h g p f kw vw q)(k:Kp U T h T' h')(o:Off U g)(n:¬ U []):FeedX T' h' g p f kw vw q :=
 ⟨(k.at x.hp x.tp (o.at _)).1,(k.at x.hp x.tp (o.at _)).2,x.x1.ext (@StrR.ext) (k.ext n),x.x2.ext (@MaskR.ext) (k.ext n),fun j hj=>(x.xq j hj).kp k (o.app _),x.s1,x.s2⟩
theorem chg_ld {F:Heap}{v:Value}{l:List Chg}(x:Sl 7 ChgR F v l){i:Nat}(hi:i<l.length){k:IntKind}:∃ b p,iaV (some (none,7)) v (.int k i)=some (.pointer (some ⟨b,p,none⟩))∧∀ h',Ext F h'→cels h' b p 7=some (chgC l[i]):=by
 obtain⟨b,p,c,h1,h2,h3⟩:=x.at (k:=k) (i:=i) (by omega) (by omega)
 refine⟨b,p,h1,fun h' e=>?_⟩
 have hc:c=chgC l[i]:=h3
 subst hc
 exact cels_ext e h2
theorem zcChg:zc P qGZ=some #[.string ⟨#[]⟩,.int .i64 0,.int .i64 0,.int .i64 0,.int .i64 0,.int .i64 0,.int .i64 0]:=by kernel_rfl
theorem bdEv (u:ByteArray)(a b c d e f s:Int):bdV (binf P quZ) [(0,.string u),(1,.agg #[.int .i64 a,.int .i64 b,.int .i64 c]),(2,.agg #[.int .i64 d,.int .i64 e,.int .i64 f]),(3,.int .u64 s)] =
 some (.agg #[.string u,.int .i64 a,.int .i64 b,.int .i64 c,.int .i64 d,.int .i64 e,.int .i64 f,.int .u64 s]):=by kernel_rfl
theorem xa_q {q:Nat→Value}{n:Nat}(hn:n<8){k:IntKind}:xaV (some (none,8,1)) (.agg ((List.range 8).map q).toArray) (.int k n)=some (q n):=by
 have:(0:Int)≤n∧(n:Int)<8:=by omega
 simp -implicitDefEqProofs[xaV,this,fdV,hn]
def TellO (T:Tags)(h:Heap)(g:Tag)(p:Nat)(f:Feed)(l:List Chg)(seq:Int)(v:Value)(h':Heap):Prop :=
 ∃ (T':Tags) (i:Nat),Only (pre g) T h T' h'∧FeedR T' h' g p (f.tell (l.take i) seq)∧i≤l.length∧v = .int .i64 i
def TellI (T:Tags)(h:Heap)(g:Tag)(p:Nat)(f:Feed)(c:Chg)(seq:Int)(kw vw:Value)(q:Nat→Nat)(cb:Nat)(v:Value)(h':Heap):Prop :=
 ∃ (T':Tags) (n:Nat),Only (pre g) T h T' h'∧FeedX T' h' g p (f.tell1 c seq n) kw vw q∧T' cb=[]∧h' cb=some (.cells (chgC c).toArray qGZ (0,0))∧n≤8∧v = .int .i64 n
theorem tell_succ (f:Feed)(l:List Chg)(seq:Int){i:Nat}(hi:i<l.length):f.tell (l.take (i+1)) seq=(f.tell (l.take i) seq).tell1 l[i] seq 8:=by
 rw[List.take_succ_eq_append_getElem hi]
 simp -implicitDefEqProofs only[Feed.tell,List.foldl_append,List.foldl_cons,List.foldl_nil]
variable {K:KTy}
set_option maxHeartbeats 2000000 in
theorem tell_ok (l : List Chg) (seq : Int) {T : Tags} {h : Heap} {g : Tag} {p : Nat} {f : Feed} (w : Wf T h) (gg : Gd g) (x : FeedR T h g p f) (fg : FdG f) {cv : Value} (cx : Sl 7 ChgR (fz T h) cv l) (hl : l.length < 1000000)
    (hk : ∀ T' h', Only (pre g) T h T' h' → FeedR T' h' g p (f.tell l seq) → K (.tuple #[]) h') : callM P qakZ #[ptr p, cv, .int .u64 seq] h K := by
  apply qqxZ
  unfold qiTZ
  have hlen := cx.len
  simp -implicitDefEqProofs only [hlen, ov_s]
  refine loop_on [0, 2, 10, 11] (fun s h' => TellO T h g p f l seq (s 12) h') (fun s _ => (l.length - num (s 12)).toNat) ⟨T, 0, Only.refl w, by simpa [Feed.tell] using x, by omega, rfl⟩ ?_
  rintro s h1 hf ⟨T1, i, o1, x1, hi, s12⟩
  have s0 : s 0 = ptr p := by simpa using hf 0 (by simp)
  have s2 : s 2 = .int .u64 seq := by simpa using hf 2 (by simp)
  have s10 : s 10 = cv := by simpa using hf 10 (by simp)
  have s11 : s 11 = .int .i64 l.length := by simpa using hf 11 (by simp)
  unfold qmsZ
  simp -implicitDefEqProofs only [s12, s11, bin_lss, ov_s, cd_b]
  refine ⟨fun hc => ?_, fun hc => ?_⟩
  rotate_left
  · have : i = l.length := by have : ¬ ((i : Int) < l.length) := by simpa using hc
                              omega
    subst this
    rw [List.take_length] at x1
    simp -implicitDefEqProofs
    exact hk T1 h1 o1 x1
  have hlt : i < l.length := by have : ((i : Int) < l.length) := by simpa using hc
                                omega
  have hw : IntKind.i64.wrap ((i : Int) + 1) = (i + 1 : Nat) := by rw [wrap64_id (by omega) (by omega)]; omega
  unfold qmrZ
  rw [seqM_eq]
  unfold qmqZ
  obtain ⟨b, o, i1, i2⟩ := chg_ld cx (k := .i64) hlt
  simp -implicitDefEqProofs only [s10, s12, i1, ov_s, ldV_n (i2 _ ((o1.ext gg.nil).trans (fz_ext _ _))), zcChg]
  obtain ⟨c, hcc⟩ : ∃ c, l[i] = c := ⟨_, rfl⟩
  have hs1 := tell_succ f l seq hlt
  obtain ⟨f1, hf1⟩ : ∃ f1, f.tell (l.take i) seq = f1 := ⟨_, rfl⟩
  have fg1 : FdG f1 := hf1 ▸ fg.tell seq _
  rw [hf1] at x1 hs1
  rw [hcc] at hs1 ⊢
  simp -implicitDefEqProofs only [chgC, presC, List.cons_append, List.nil_append]
  refine nw_st (by simp) (by simp) (by simp) fun cb h2 n2 e2 c2 => ?_
  simp -implicitDefEqProofs only [cells_agg] at c2
  have o2 : Only non T1 h1 T1 h2 := Only.of_ext o1.wf e2
  have tcb : T1 cb = [] := o1.wf cb n2
  obtain ⟨kw, vw, q, y1, y2, y3, y4, y5, y6, y7⟩ := x1.kp o2.k (Off.non _) (not_non _)
  have X : FeedX T1 h2 g p f1 kw vw q := ⟨y1, y2, y3, y4, y5, y6, y7⟩
  have hag : ldV (some (some 8)) (.pointer (some ⟨p, 2, none⟩)) h2 = some (.agg ((List.range 8).map fun j => ptr (q j)).toArray) := by simp [ld_at y1, feedC, feedG, List.range_succ]
  simp -implicitDefEqProofs only [s0, ncV_p, faV_p, ov_s, Nat.zero_add, hag]
  refine loop_on [0, 2, 7, 10, 11, 12, 19] (fun s' h' => TellI T h g p f1 c seq kw vw q cb (s' 20) h') (fun s' _ => (8 - num (s' 20)).toNat) ⟨T1, 0, o1.up o2 non_up, X, tcb, c2, by omega, rfl⟩ ?_
  rintro s' h3 hf' ⟨T3, n, o3, X3, tc3, c3, hn, s20⟩
  have t0 : s' 0 = ptr p := by simpa [s0] using hf' 0 (by simp)
  have t2 : s' 2 = .int .u64 seq := by simpa [s2] using hf' 2 (by simp)
  have t7 : s' 7 = ptr cb := by simpa using hf' 7 (by simp)
  have t10 : s' 10 = cv := by simpa [s10] using hf' 10 (by simp)
  have t11 : s' 11 = .int .i64 l.length := by simpa [s11] using hf' 11 (by simp)
  have t12 : s' 12 = .int .i64 i := by simpa [s12] using hf' 12 (by simp)
  have t19 : s' 19 = .agg ((List.range 8).map fun j => ptr (q j)).toArray := by simpa using hf' 19 (by simp)
  unfold qmpZ
  simp -implicitDefEqProofs only [s20, bin_lss, ov_s, cd_b]
  refine ⟨fun hc8 => ?_, fun hc8 => ?_⟩
  rotate_left
  · have : n = 8 := by have : ¬ ((n : Int) < 8) := by simpa using hc8
                       omega
    subst this
    simp -implicitDefEqProofs [t12, hw, t0, t2, t10, t11, s0, s2, s10, s11, s12, -Int.natCast_add]
    exact ⟨⟨T3, i + 1, o3, by rw [hs1]; exact X3.r, by omega, rfl⟩, by omega⟩
  have hn8 : n < 8 := by have : ((n : Int) < 8) := by simpa using hc8
                         omega
  have hw8 : IntKind.i64.wrap ((n : Int) + 1) = (n + 1 : Nat) := by rw [wrap64_id (by omega) (by omega)]; omega
  have fg3 : FdG (f1.tell1 c seq n) := fg1.tell1 c seq n
  have c3' := c3
  simp -implicitDefEqProofs only [chgC, presC, List.cons_append, List.nil_append] at c3
  unfold qmoZ
  rw [seqM_eq]
  unfold qmnZ
  simp -implicitDefEqProofs [t0, t7, t19, s20, xa_q hn8, ld_at c3, cel_of c3, stm_at c3, stm_upd, ld_same, cel_same, over]
  refine watching_ok n c.user X3.r fg3 fun h4 e4 => ?_
  have o4 : Only non T3 h3 T3 h4 := Only.of_ext o3.wf e4
  have X4 := X3.kp o4.k (Off.non _) (not_non _)
  have c4 := e4 _ _ c3
  have hwt : (f1.tell1 c seq n).watching n c.user = f1.watching n c.user := by unfold Feed.watching; rw [tell1_ws]
  rw [hwt]
  unfold qmmZ
  cases hwa : f1.watching n c.user with
  | false =>
    have e : f1.tell1 c seq (n + 1) = f1.tell1 c seq n := by simp [Feed.tell1, hwa]
    simp -implicitDefEqProofs [hw8, t0, t2, t7, t10, t11, t12, t19, s20, s0, s2, s10, s11, s12, -Int.natCast_add]
    exact ⟨⟨T3, n + 1, o3.up o4 non_up, by rw [e]; exact X4, tc3, e4 _ _ c3', by omega, rfl⟩, by omega⟩
  | true =>
    have e : f1.tell1 c seq (n + 1) = { f1.tell1 c seq n with qs := qset (f1.tell1 c seq n).qs n (((f1.tell1 c seq n).qs n).put ⟨c.user, c.old, c.new, seq⟩) } := by simp [Feed.tell1, hwa]
    simp -implicitDefEqProofs only [cd_b, true_implies]
    refine ⟨?_, fun h => (by cases h)⟩
    unfold qmlZ
    simp -implicitDefEqProofs [t7, t2, ld_at c4, cel_of c4, stm_at c4, stm_upd, ld_same, cel_same, over, bdEv]
    refine put_ok ⟨c.user, c.old, c.new, seq⟩ o4.wf (gg.app [1, n]) (X4.xq n hn8) (fg3.qs n hn8) fun T5 h5 b5 o5 r5 => ?_
    unfold qmkZ
    simp -implicitDefEqProofs [hw8, t0, t2, t7, t10, t11, t12, t19, s20, s0, s2, s10, s11, s12, -Int.natCast_add]
    have gn : ¬ pre (g ++ [1, n]) [] := (gg.app _).nil
    have bc := o5.k.at (e4 _ _ c3') tc3 gn
    refine ⟨⟨T5, n + 1, (o3.up o4 non_up).up o5 fun t => pre_trans, ?_, bc.2, bc.1, by omega, rfl⟩, by omega⟩
    rw [e]
    have bp := o5.k.at X4.hp X4.tp (not_pre (by simp))
    refine ⟨bp.1, bp.2, X4.x1.ext (@StrR.ext) (o5.ext gn), X4.x2.ext (@MaskR.ext) (o5.ext gn), fun j hj => ?_, X4.s1, X4.s2⟩
    simp -implicitDefEqProofs only [qset]
    by_cases hjn : j = n
    · subst hjn; rw [if_pos rfl]; exact r5
    · rw [if_neg hjn]; exact (X4.xq j hj).kp o5.k (off_pre (by simp; omega) (by simp; omega))
end Go.Proofs.YtcnphhhcknhhaaaGreat
namespace Go.Den
open Go
set_option linter.unusedVariables false
def Hall.pub (H:Hall)(who:Int)(s:Nat):Hall:=((H.did who 1 (4*s+4)).did who 4 (4*s+3)).put s { H.ss s with snap:=(H.ss s).book }
def Hall.take (H:Hall)(who:Int):Hall:={ H.did who 4 0 with t:={ H.t with seq:=addU H.t.seq 1 } }
def Hall.pass (H:Hall)(who by_:Int):Hall:={ H.did who 4 0 with t:={ H.t with now:=addU H.t.now by_ } }
def Hall.shut (H:Hall)(who:Int):Hall:={ H.did who 4 0 with t:={ H.t with closed:=true } }
def Hall.wr (H:Hall)(who:Int)(s:Nat):Hall:=H.did who 2 (4*s+4)
def Hall.sweep (H:Hall)(who:Int)(s:Nat)(t:Tm):Hall :=
 (H.wr who s).put s { H.ss s with book:=(sweepB (H.ss s).book t.now).1,feed:=(H.ss s).feed.tell (sweepB (H.ss s).book t.now).2 t.seq }
def Hall.write (H:Hall)(who:Int)(s:Nat)(x:OpD)(t:Tm):Hall × Int :=
 if t.closed then (H.wr who s,5) else
  ((H.wr who s).put s { H.ss s with book:=(writeB (H.ss s).book x t.now H.c.sessions).1,feed:=(H.ss s).feed.tell (writeB (H.ss s).book x t.now H.c.sessions).2.1 t.seq },(writeB (H.ss s).book x t.now H.c.sessions).2.2)
end Go.Den
namespace Go.Proofs.YtcnphhhcknhhaaaGreat
open Go Go.Den Go.MapKept
set_option linter.unusedSimpArgs false
set_option linter.unusedVariables false
set_option maxRecDepth 20000
variable {K:KTy}
theorem hpub_ok (who:Int){s:Nat}{T:Tags}{h:Heap}{g:Tag}{p:Nat}{H:Hall}(w:Wf T h)(gg:Gd g)(x:HallR T h g p H)(hs:s<H.n)(h8:H.n≤8)(hl:H.acts.length<999999)
  (hk:∀ T' h',Only (pre g) T h T' h'→HallR T' h' g p (H.pub who s)→K (.tuple #[]) h'):callM P qdyZ #[ptr p,.int .i64 who,.int .i64 s] h K:=by
 apply qppZ
 unfold qhaZ
 refine place_ok s 4 (by omega) ?_
 unfold qjiZ
 obtain⟨sv,av,Y,x⟩:=x
 refine did_ok who 1 _ w gg x (by omega) fun T1 h1 av1 o1 x1=>?_
 unfold qjhZ
 refine place_ok s 3 (by omega) ?_
 unfold qjgZ
 refine did_ok who 4 _ o1.wf gg x1 (by simp[Hall.did]; omega) fun T2 h2 av2 o2 x2=>?_
 have cp:=x2.hp
 simp -implicitDefEqProofs only[hallC] at cp
 obtain⟨b,ob,rb,hb1,tb,ia,l1,l2,l3,l4,l5,l6⟩:=x2.lds (s:=s) (k:=.i64) hs
 have hsr:=x2.sr s hs
 have u1:=hsr.2.1.1.one
 have u2:=hsr.2.1.2.1.one
 unfold qjfZ
 simp -implicitDefEqProofs[ld_at cp,cel_of cp,stm_at cp,stm_upd,ld_same,cel_same,over,ia,l4]
 refine x2.stw o2.wf (off:=3) (X':={ H.ss s with snap:=(H.ss s).book }) (y':={ Y s with sk:=(Y s).bk,sv:=(Y s).bv }) hs rb rfl (by rfl) (by omega) (by simp[u1.1,u2.1]) (by simp[spl,strC,Hall.did]) ⟨hsr.2.1,hsr.2.1,hsr.2.2⟩ fun h4 o4 x4=>?_
 exact hk T2 h4 (((o1.mono fun _=>U02.pre).up o2 fun _=>U02.pre).up o4 fun t=>eq_pre) ⟨sv,av2,_,x4⟩
theorem HallX.tst {T:Tags}{h:Heap}{g:Tag}{p:Nat}{H:Hall}{sv av:Value}{Y:Nat→SV}(x:HallX T h g p H sv av Y)(w:Wf T h)(t:Tm) :
  Only (fun u=>u=g++[0]) T h T (upd h p (.cells (hallC { H with t:=t } sv av).toArray qazZ (0,0)))∧HallX T (upd h p (.cells (hallC { H with t:=t } sv av).toArray qazZ (0,0))) g p { H with t:=t } sv av Y:=by
 have o:Only (fun u=>u=g++[0]) T h T (upd h p (.cells (hallC { H with t:=t } sv av).toArray qazZ (0,0))):=Only.upd w x.hp x.tp
 exact⟨o,upd_same' _ _ _,x.tp,x.st.kp o.k (ne_tag (by simp)),x.ac.kp o.k (ne_tag (by simp)),fun i hi=>(x.sr i hi).kp o.k (off_eq (by simp)) (by simp)⟩
theorem hpass_ok (who by_:Int)(hb:U64 by_){T:Tags}{h:Heap}{g:Tag}{p:Nat}{H:Hall}(w:Wf T h)(gg:Gd g)(x:HallR T h g p H)(ht:U64 H.t.now)(hl:H.acts.length<1000000)
  (hk:∀ T' h',Only (pre g) T h T' h'→HallR T' h' g p (H.pass who by_)→K (.tuple #[]) h'):callM P qhQZ #[ptr p,.int .i64 who,.int .u64 by_] h K:=by
 apply qqqZ
 unfold qiMZ
 obtain⟨sv,av,Y,x⟩:=x
 refine did_ok who 4 0 w gg x hl fun T2 h2 av2 o2 x2=>?_
 have cp:=x2.hp
 simp -implicitDefEqProofs only[hallC] at cp
 unfold qlXZ
 have hld:ldV (some (some 3)) (.pointer (some ⟨p,7,none⟩)) h2=some (.agg (tmC H.t).toArray):=by simp[ld_at cp,tmC,Hall.did]
 simp -implicitDefEqProofs only[ncV_p,faV_p,ov_s,Nat.zero_add,hld]
 refine tickPass_ok H.t ht hb fun h3 e3=>?_
 have o3:Only non T2 h2 T2 h3:=Only.of_ext o2.wf e3
 have x3:HallX T2 h3 g p (H.did who 4 0) sv av2 Y:=⟨e3 _ _ x2.hp,x2.tp,x2.st.kp o3.k (not_non _),x2.ac.kp o3.k (not_non _),fun i hi=>(x2.sr i hi).kp o3.k (Off.non _) (not_non _)⟩
 have cp:=x3.hp
 simp -implicitDefEqProofs only[hallC] at cp
 obtain⟨o4,x4⟩:=x3.tst o3.wf { H.t with now:=addU H.t.now by_ }
 simp -implicitDefEqProofs[ld_at cp,cel_of cp,stm_at cp,stm_upd,ld_same,cel_same,over,tmC]
 exact hk T2 _ (((o2.mono fun _=>U02.pre).up o3 non_up).up o4 fun t=>eq_pre) ⟨sv,av2,Y,x4⟩
theorem htake_ok (who:Int){T:Tags}{h:Heap}{g:Tag}{p:Nat}{H:Hall}(w:Wf T h)(gg:Gd g)(x:HallR T h g p H)(ht:U64 H.t.seq)(hl:H.acts.length<1000000)
  (hk:∀ T' h',Only (pre g) T h T' h'→HallR T' h' g p (H.take who)→K (.agg (tmC { H.t with seq:=addU H.t.seq 1 }).toArray) h'):callM P qfkZ #[ptr p,.int .i64 who] h K:=by
 apply qqrZ
 unfold qiOZ
 rw[zcTime]
 refine nw_tag w lc fun v1 T1 h1 n1 o1 t1 c1=>?_
 obtain⟨sv,av,Y,x1⟩:=x.up o1 (Off.non _) (not_non _)
 have b1:h1 v1=_∧T1 v1=lc:=⟨c1,t1⟩
 refine did_ok who 4 0 o1.wf gg x1 hl fun T2 h2 av2 o2 x2=>?_
 have b1:=o2.see b1 (lc_U02 gg)
 have cp:=x2.hp
 simp -implicitDefEqProofs only[hallC] at cp
 unfold qlZZ
 have hld:ldV (some (some 3)) (.pointer (some ⟨p,7,none⟩)) h2=some (.agg (tmC H.t).toArray):=by simp[ld_at cp,tmC,Hall.did]
 simp -implicitDefEqProofs only[ncV_p,faV_p,ov_s,Nat.zero_add,hld]
 refine tickTake_ok H.t ht fun h3 e3=>?_
 have o3:Only non T2 h2 T2 h3:=Only.of_ext o2.wf e3
 have b1:=o3.see b1 (not_non _)
 have x3:HallX T2 h3 g p (H.did who 4 0) sv av2 Y:=⟨e3 _ _ x2.hp,x2.tp,x2.st.kp o3.k (not_non _),x2.ac.kp o3.k (not_non _),fun i hi=>(x2.sr i hi).kp o3.k (Off.non _) (not_non _)⟩
 have cp:=x3.hp
 simp -implicitDefEqProofs only[hallC] at cp
 obtain⟨o4,x4⟩:=x3.tst o3.wf { H.t with seq:=addU H.t.seq 1 }
 have b1:=o4.see b1 (lc_ne g gg _)
 have c1:=b1.1
 have cp4:=x4.hp
 have oo:Only (pre g) T h T2 _:=(((o1.mono fun _=>non_up _).up o2 fun _=>U02.pre).up o3 non_up).up o4 fun t=>eq_pre
 unfold qlYZ
 simp -implicitDefEqProofs[ld_at cp,cel_of cp,stm_at cp,stm_upd,ld_same,cel_same,over,tmC,Hall.did]
 simp -implicitDefEqProofs only[hallC,Hall.did] at c1 cp4 x4 oo b1
 generalize upd h3 p _=h4 at *
 simp -implicitDefEqProofs[ld_at cp4,cel_of cp4,stm_at cp4,ld_at c1,cel_of c1,stm_at c1,stm_upd,ld_same,cel_same,over]
 exact hk T2 _ (oo.own n1 c1) (HallR.lst ⟨sv,av2,Y,x4⟩ gg oo.wf b1)
theorem hshut_ok (who:Int){T:Tags}{h:Heap}{g:Tag}{p:Nat}{H:Hall}(w:Wf T h)(gg:Gd g)(x:HallR T h g p H)(hl:H.acts.length<1000000)
  (hk:∀ T' h',Only (pre g) T h T' h'→HallR T' h' g p (H.shut who)→K (.bool (!H.t.closed)) h'):callM P qhSZ #[ptr p,.int .i64 who] h K:=by
 apply qquZ
 unfold qiRZ
 obtain⟨sv,av,Y,x⟩:=x
 refine did_ok who 4 0 w gg x hl fun T2 h2 av2 o2 x2=>?_
 have cp:=x2.hp
 simp -implicitDefEqProofs only[hallC,Hall.did] at cp
 unfold qmjZ
 have hld:ldV (some (some 3)) (.pointer (some ⟨p,7,none⟩)) h2=some (.agg (tmC H.t).toArray):=by simp[ld_at cp,tmC]
 have hcl:cel h2 p 9=some (.bool H.t.closed):=by simp[cel_of cp]
 simp -implicitDefEqProofs only[ncV_p,faV_p,ov_s,Nat.zero_add,ldV_c,hcl,hld]
 refine tickShut_ok H.t fun h3 e3=>?_
 have o3:Only non T2 h2 T2 h3:=Only.of_ext o2.wf e3
 have x3:HallX T2 h3 g p (H.did who 4 0) sv av2 Y:=⟨e3 _ _ x2.hp,x2.tp,x2.st.kp o3.k (not_non _),x2.ac.kp o3.k (not_non _),fun i hi=>(x2.sr i hi).kp o3.k (Off.non _) (not_non _)⟩
 have cp:=x3.hp
 simp -implicitDefEqProofs only[hallC] at cp
 obtain⟨o4,x4⟩:=x3.tst o3.wf { H.t with closed:=true }
 simp -implicitDefEqProofs[ld_at cp,cel_of cp,stm_at cp,stm_upd,ld_same,cel_same,over,tmC]
 exact hk T2 _ (((o2.mono fun _=>U02.pre).up o3 non_up).up o4 fun t=>eq_pre) ⟨sv,av2,Y,x4⟩
end Go.Proofs.YtcnphhhcknhhaaaGreat
namespace Go.Proofs.YtcnphhhcknhhaaaGreat
open Go Go.Den Go.MapKept
set_option linter.unusedSimpArgs false
set_option linter.unusedVariables false
set_option maxRecDepth 20000
variable {K:KTy}
theorem hwr_ok (who:Int){s:Nat}{T:Tags}{h:Heap}{g:Tag}{p:Nat}{H:Hall}(w:Wf T h)(gg:Gd g){sv av:Value}{Y:Nat→SV}(x:HallX T h g p H sv av Y)(hs:s<H.n)(h8:H.n≤8)(hl:H.acts.length<1000000)
  (hk:∀ T' h' av' b,Only (U02 g) T h T' h'→HallX T' h' g p (H.wr who s) sv av' Y→rowOf sv=some b→K (.pointer (some ⟨b,s*8,none⟩)) h'):callM P qeUZ #[ptr p,.int .i64 who,.int .i64 s] h K:=by
 apply qqdZ
 unfold qhWZ
 refine place_ok s 4 (by omega) ?_
 unfold qllZ
 refine did_ok who 2 _ w gg x hl fun T2 h2 av2 o2 x2=>?_
 have cp:=x2.hp
 simp -implicitDefEqProofs only[hallC] at cp
 obtain⟨b,ob,rb,hb1,tb,ia,l1,l2,l3,l4,l5,l6⟩:=x2.lds (s:=s) (k:=.i64) hs
 simp -implicitDefEqProofs[ld_at cp,cel_of cp,stm_at cp,stm_upd,ld_same,cel_same,over,ia]
 exact hk T2 h2 av2 b o2 x2 rb
theorem HallX.fed {T T':Tags}{h h':Heap}{g:Tag}{p:Nat}{H:Hall}{sv av:Value}{Y:Nat→SV}(x:HallX T h g p H sv av Y){s:Nat}(hs:s<H.n){f:Feed}(o:Only (pre (g++[3,s])) T h T' h')(gg:Gd g)(r:FeedR T' h' (g++[3,s]) (Y s).fp f) :
  HallX T' h' g p (H.put s { H.ss s with feed:=f }) sv av Y:=by
 have b:=o.k.at x.hp x.tp (not_pre (by simp))
 have n:¬ pre (g++[3,s]) []:=(gg.app _).nil
 refine⟨b.1,b.2,?_,x.ac.kp o.k (not_pre (by simp)),fun i hi=>?_⟩
 ·have:=x.st.kp o.k (not_pre (by simp))
  have e:seqF H.n (fun i=>strC (H.ss i) (Y i))=seqF H.n fun i=>strC ((H.put s { H.ss s with feed:=f }).ss i) (Y i):=seqF_congr fun i hi=>by
   simp -implicitDefEqProofs only[Hall.put,sput]
   by_cases his:i=s
   ·subst his; rw[if_pos rfl]; rfl
   ·rw[if_neg his]
  rw[e] at this
  exact this
 ·simp -implicitDefEqProofs only[Hall.put,sput]
  by_cases his:i=s
  ·subst his
   rw[if_pos rfl]
   have y:=x.sr i hi
   exact⟨y.1.ext (o.ext n),y.2.1.ext (o.ext n),r⟩
  ·rw[if_neg his]; exact (x.sr i hi).kp o.k (off_pre (by simp; omega) (by simp; omega)) n
end Go.Proofs.YtcnphhhcknhhaaaGreat
namespace Go.Den
open Go
set_option linter.unusedVariables false
def mor (m who:Int):Int:=((BitVec.ofInt 32 m ||| BitVec.ofInt 32 (2 ^ who.toNat)).toNat:Int)
def mclr (m who:Int):Int:=((BitVec.ofInt 32 m &&& ~~~ BitVec.ofInt 32 (2 ^ who.toNat)).toNat:Int)
theorem mor_rng (m who:Int):0≤mor m who∧mor m who<4294967296:=by
 have:=(BitVec.ofInt 32 m ||| BitVec.ofInt 32 (2 ^ who.toNat)).isLt
 unfold mor; omega
theorem mclr_rng (m who:Int):0≤mclr m who∧mclr m who<4294967296:=by
 have:=(BitVec.ofInt 32 m &&& ~~~ BitVec.ofInt 32 (2 ^ who.toNat)).isLt
 unfold mclr; omega
theorem mem_putB' {α:Type}{u:ByteArray}{e:α}{x:ByteArray × α}:∀ {b:List (ByteArray × α)},x∈putB b u e→x=(u,e)∨x∈b
 | [],h=>by simp[putB] at h; exact .inl h
 | (k,y)::r,h=>by
  simp only[putB] at h
  split at h
  ·rcases List.mem_cons.1 h with h | h
   ·exact .inr (by simp[h])
   ·rcases mem_putB' h with h | h
    ·exact .inl h
    ·exact .inr (by simp[h])
  ·split at h
   ·rcases List.mem_cons.1 h with h | h
    ·exact .inl h
    ·exact .inr (by simp[h])
   ·rcases List.mem_cons.1 h with h | h
    ·exact .inl h
    ·exact .inr h
def Feed.watch (f:Feed)(who:Int)(u:ByteArray):Feed:=if clientB who then { f with ws:=putB f.ws u (mor (valL 0 f.ws u) who) } else f
def Feed.unwatch (f:Feed)(who:Int)(u:ByteArray):Feed :=
 if clientB who=true∧valL 0 f.ws u≠0 then (if mclr (valL 0 f.ws u) who=0 then { f with ws:=delB f.ws u } else { f with ws:=putB f.ws u (mclr (valL 0 f.ws u) who) }) else f
def Feed.count (f:Feed)(who:Int):Nat:=(f.ws.filter fun x=>clientB who && mbit x.2 who).length
def Feed.drain (f:Feed)(who:Int):Feed:=if clientB who then { f with qs:=qset f.qs who.toNat ⟨(f.qs who.toNat).room,[],false⟩ } else f
def Feed.told (f:Feed)(who:Int):List Evt:=if clientB who then (f.qs who.toNat).l else []
def Feed.lost (f:Feed)(who:Int):Bool:=clientB who && (f.qs who.toNat).lost
end Go.Den
namespace Go.Den
open Go
set_option linter.unusedVariables false
set_option linter.unusedSimpArgs false
structure BkM (m:Nat)(b:Book):Prop where
 bw:BkW b
 bl:b.length≤m
 bs:∀ y∈b,y.1.size≤maxLen
 bn:∀ y∈b,y.2.ss.length≤m
structure FdM (m:Nat)(f:Feed):Prop where
 so:SrtK (keysL f.ws)
 len:f.ws.length≤m
 ms:∀ x∈f.ws,0≤x.2∧x.2<4294967296
 ks:∀ x∈f.ws,x.1.size≤maxLen
 qs:∀ j,j<8→RiG (f.qs j)
structure StM (m:Nat)(x:Strp):Prop where
 sn:BkM m x.snap
 bk:BkM m x.book
 v0:0≤x.v∧x.v≤x.bound
 vb:x.bound % 2=0∧x.bound≤18446744073709551615
 wh:0≤x.who∧x.who≤1000
 fd:FdM m x.feed
structure HS (m:Nat)(H:Hall):Prop where
 rt:rightB H.c=true
 cw:CfgW H.c
 nn:(H.n:Int)=H.c.stripes
 ac:H.acts.length≤2*m
 st:∀ s,s<H.n→StM m (H.ss s)
 tn:U64 H.t.now
 ts:U64 H.t.seq
theorem HS.n8 {m:Nat}{H:Hall}(x:HS m H):1≤H.n∧H.n≤8:=by
 have h1:=x.rt; have h2:=x.nn
 simp only[rightB,decide_eq_true_eq] at h1; omega
theorem BkM.mono {m k:Nat}{b:Book}(x:BkM m b)(h:m≤k):BkM k b:=⟨x.bw,Nat.le_trans x.bl h,x.bs,fun y hy=>Nat.le_trans (x.bn y hy) h⟩
theorem FdM.mono {m k:Nat}{f:Feed}(x:FdM m f)(h:m≤k):FdM k f:=⟨x.so,Nat.le_trans x.len h,x.ms,x.ks,x.qs⟩
theorem StM.mono {m k:Nat}{s:Strp}(x:StM m s)(h:m≤k):StM k s:=⟨x.sn.mono h,x.bk.mono h,x.v0,x.vb,x.wh,x.fd.mono h⟩
theorem HS.mono {m k:Nat}{H:Hall}(x:HS m H)(h:m≤k):HS k H:=⟨x.rt,x.cw,x.nn,Nat.le_trans x.ac (by omega),fun s hs=>(x.st s hs).mono h,x.tn,x.ts⟩
theorem FdM.g {m:Nat}{f:Feed}(x:FdM m f)(h:m<100000):FdG f:=⟨x.so,by have:=x.len; omega,x.ms,x.qs⟩
theorem BkM.g {m:Nat}{b:Book}(x:BkM m b)(h:m<100000):BkG b:=by
 refine⟨x.bw.so,by have:=x.bl; omega,fun u=>?_⟩
 rcases entOf_cases b u with e | ⟨y,h1,h2,h3⟩
 ·rw[e]; simp[ent0]
 ·rw[h3]; have:=x.bn y h1; omega
theorem BkM.ent {m:Nat}{b:Book}(x:BkM m b)(u:ByteArray):(entOf b u).ss.length≤m:=by
 rcases entOf_cases b u with e | ⟨y,h1,h2,h3⟩
 ·rw[e]; simp[ent0]
 ·rw[h3]; exact x.bn y h1
theorem HS.did {m:Nat}{H:Hall}(x:HS m H)(w k p:Int):HS (m+1) (H.did w k p) :=
 ⟨x.rt,x.cw,x.nn,by have:=x.ac; simp[Hall.did]; omega,fun s hs=>(x.st s hs).mono (by omega),x.tn,x.ts⟩
theorem HS.put {m:Nat}{H:Hall}(x:HS m H){s:Nat}{y:Strp}(h:StM m y):HS m (H.put s y) :=
 ⟨x.rt,x.cw,x.nn,x.ac,fun t ht=>by simp only[Hall.put,sput]; split; exact h; exact x.st t ht,x.tn,x.ts⟩
theorem HS.did2 {m:Nat}{H:Hall}(x:HS m H)(w k p w' k' p':Int):HS (m+1) ((H.did w k p).did w' k' p') :=
 ⟨x.rt,x.cw,x.nn,by have:=x.ac; simp[Hall.did]; omega,fun s hs=>(x.st s hs).mono (by omega),x.tn,x.ts⟩
variable {m:Nat}{H:Hall}
theorem HS.look (x:HS m H)(w:Int):HS (m+1) (H.look w):=x.did _ _ _
theorem HS.snap (x:HS m H)(w:Int)(s:Nat):HS (m+1) (H.snap w s):=x.did _ _ _
theorem HS.wr (x:HS m H)(w:Int)(s:Nat):HS (m+1) (H.wr w s):=x.did _ _ _
theorem HS.take (x:HS m H)(w:Int):HS (m+1) (H.take w) :=
 have y:=x.did w 4 0
 ⟨y.rt,y.cw,y.nn,y.ac,y.st,y.tn,addU_rng x.ts (by simp[U64])⟩
theorem HS.pass (x:HS m H)(w b:Int)(hb:U64 b):HS (m+1) (H.pass w b) :=
 have y:=x.did w 4 0
 ⟨y.rt,y.cw,y.nn,y.ac,y.st,addU_rng x.tn hb,y.ts⟩
theorem HS.shut (x:HS m H)(w:Int):HS (m+1) (H.shut w) :=
 have y:=x.did w 4 0
 ⟨y.rt,y.cw,y.nn,y.ac,y.st,y.tn,y.ts⟩
theorem HS.pub (x:HS m H){w:Int}{s:Nat}(hs:s<H.n):HS (m+1) (H.pub w s):=by
 have y:=(x.st s hs).mono (Nat.le_succ m)
 exact (x.did2 _ _ _ _ _ _).put ⟨y.bk,y.bk,y.v0,y.vb,y.wh,y.fd⟩
theorem FdM.tell1 {f:Feed}(g:FdM m f)(c:Chg)(seq:Int):∀ n,FdM m (f.tell1 c seq n)
 | 0=>g
 | n+1=>by
  have ih:=FdM.tell1 g c seq n
  simp only[Feed.tell1]
  split
  ·refine⟨ih.so,ih.len,ih.ms,ih.ks,fun j hj=>?_⟩
   simp only[qset]
   split
   ·rename_i h; subst h; exact (ih.qs _ hj).put _
   ·exact ih.qs j hj
  ·exact ih
theorem FdM.tell {f:Feed}(g:FdM m f)(seq:Int):∀ l:List Chg,FdM m (f.tell l seq):=by
 intro l
 unfold Feed.tell
 induction l generalizing f with
 | nil=>exact g
 | cons c l ih=>exact ih (g.tell1 c seq 8)
theorem settle_mem {b:Book}{u:ByteArray}{ss:List Sess}{now:Int}{y:ByteArray × Ent}(h:y∈(settleB b u ss now).1):y=(u,⟨ss,presOf ss now⟩)∨y∈b:=by
 unfold settleB at h
 dsimp only at h
 split at h
 ·exact .inr (List.mem_filter.1 h).1
 ·exact mem_putB' h
theorem BkM.settle {b:Book}(x:BkM m b){k:Nat}(hk:m≤k){u:ByteArray}(hu:u.size≤maxLen){ss:List Sess}(now:Int)(h1:SrtI ss)(h2:∀ s∈ss,U64 s.un)(h3:ss.length≤k)(h4:(settleB b u ss now).1.length≤k):BkM k (settleB b u ss now).1:=by
 refine⟨x.bw.settle u now h1 h2,h4,fun y hy=>?_,fun y hy=>?_⟩
 ·rcases settle_mem hy with rfl | hy
  ·exact hu
  ·exact x.bs y hy
 ·rcases settle_mem hy with rfl | hy
  ·exact h3
  ·exact Nat.le_trans (x.bn y hy) hk
theorem BkM.write {b:Book}(x:BkM m b){o:OpD}(ow:OpW o){now:Int}(hn:U64 now)(most:Int):BkM (m+1) (writeB b o now most).1:=by
 obtain⟨h1,h2⟩:=x.bw.ent o.user
 obtain⟨h3,h4⟩:=BkW.purge h1 h2 now
 have hp:(purgeS (entOf b o.user).ss now).length≤m:=Nat.le_trans (List.length_filter_le _ _) (x.ent o.user)
 have hw:=work_len (ss:=purgeS (entOf b o.user).ss now) o now most
 refine x.settle (k:=m+1) (by omega) ow.s1 now (work_srt h3 o now most) (work_un h4 o most hn ow.u1) (by omega) ?_
 have:=settle_len b o.user (workS (purgeS (entOf b o.user).ss now) o now most).1 now
 have:=x.bl; omega
theorem BkM.sweepTo {b:Book}(x:BkM m b)(now:Int):∀ n,n≤b.length→BkM m (sweepTo b now n).1
 | 0,_=>x
 | n+1,hn=>by
  have ih:=BkM.sweepTo x now n (by omega)
  have hm:b.getD n (⟨#[]⟩,ent0)∈b:=by rw[List.getD_eq_getElem?_getD,List.getElem?_eq_getElem (by omega)]; exact List.getElem_mem _
  obtain⟨h1,h2⟩:=x.bw.us _ hm
  obtain⟨h3,h4⟩:=BkW.purge h1 h2 now
  exact ih.settle (Nat.le_refl _) (x.bs _ hm) now h3 h4 (Nat.le_trans (List.length_filter_le _ _) (x.bn _ hm)) (Nat.le_trans (sweep_len x.bw (now:=now) hn) x.bl)
theorem HS.sweep (x:HS m H){w:Int}{s:Nat}(t:Tm)(hs:s<H.n):HS (m+1) (H.sweep w s t):=by
 have y:=(x.st s hs).mono (Nat.le_succ m)
 exact (x.wr w s).put ⟨y.sn,y.bk.sweepTo t.now _ (Nat.le_refl _),y.v0,y.vb,y.wh,y.fd.tell _ _⟩
theorem HS.write (x:HS m H){w:Int}{s:Nat}{o:OpD}(ow:OpW o)(t:Tm)(ht:U64 t.now)(hs:s<H.n):HS (m+1) (H.write w s o t).1:=by
 have y:=x.st s hs
 have y':=y.mono (Nat.le_succ m)
 unfold Hall.write
 split
 ·exact x.wr w s
 ·exact (x.wr w s).put ⟨y'.sn,y.bk.write ow ht _,y.v0,y.vb,y.wh,y'.fd.tell _ _⟩
theorem FdM.watch {f:Feed}(g:FdM m f)(who:Int)(u:ByteArray)(hu:u.size≤maxLen):FdM (m+1) (f.watch who u):=by
 have g':=g.mono (Nat.le_succ m)
 unfold Feed.watch
 split
 ·refine⟨putB_srt g.so,?_,fun x hx=>?_,fun x hx=>?_,g.qs⟩
  ·have:=putB_len (u:=u) (e:=mor (valL 0 f.ws u) who) (b:=f.ws); have:=g.len; show (putB _ _ _).length≤_; omega
  ·rcases mem_putB' (b:=f.ws) hx with rfl | hx
   ·exact mor_rng _ _
   ·exact g.ms x hx
  ·rcases mem_putB' (b:=f.ws) hx with rfl | hx
   ·exact hu
   ·exact g.ks x hx
 ·exact g'
theorem FdM.unwatch {f:Feed}(g:FdM m f)(who:Int)(u:ByteArray)(hu:u.size≤maxLen):FdM (m+1) (f.unwatch who u):=by
 have g':=g.mono (Nat.le_succ m)
 unfold Feed.unwatch
 split
 ·split
  ·refine⟨delB_srt g.so,?_,fun x hx=>g.ms x (List.mem_filter.1 hx).1,fun x hx=>g.ks x (List.mem_filter.1 hx).1,g.qs⟩
   have:=delB_len (u:=u) (b:=f.ws); have:=g.len; show (delB _ _).length≤_; omega
  ·refine⟨putB_srt g.so,?_,fun x hx=>?_,fun x hx=>?_,g.qs⟩
   ·have:=putB_len (u:=u) (e:=mclr (valL 0 f.ws u) who) (b:=f.ws); have:=g.len; show (putB _ _ _).length≤_; omega
   ·rcases mem_putB' (b:=f.ws) hx with rfl | hx
    ·exact mclr_rng _ _
    ·exact g.ms x hx
   ·rcases mem_putB' (b:=f.ws) hx with rfl | hx
    ·exact hu
    ·exact g.ks x hx
 ·exact g'
theorem FdM.drain {f:Feed}(g:FdM m f)(who:Int):FdM m (f.drain who):=by
 unfold Feed.drain
 split
 ·refine⟨g.so,g.len,g.ms,g.ks,fun j hj=>?_⟩
  simp only[qset]
  split
  ·rename_i h; subst h; exact⟨(g.qs _ hj).1,(g.qs _ hj).2.1,by simp⟩
  ·exact g.qs j hj
 ·exact g
theorem HS.new {c:Cfg}(cw:CfgW c)(hr:rightB c=true){n:Nat}(hn:(n:Int)=c.stripes):HS 0 (hall0 c n):=by
 have hr':=hr
 simp only[rightB,decide_eq_true_eq] at hr'
 have h1:=cw.u1
 have he:0≤evn c.epochs∧evn c.epochs % 2=0∧evn c.epochs≤18446744073709551615:=by unfold evn U64 at *; omega
 have bk:BkM 0 []:=⟨⟨List.Pairwise.nil,by simp⟩,by simp,by simp,by simp⟩
 refine⟨hr,cw,hn,by simp[hall0],fun s hs=>⟨bk,bk,⟨by show (0:Int)≤0; omega,he.1⟩,he.2,by simp[hall0,strp0],⟨List.Pairwise.nil,by simp[hall0,strp0,feed0],by simp[hall0,strp0,feed0],by simp[hall0,strp0,feed0],fun j hj=>?_⟩⟩,cw.u2,by simp[hall0,U64]⟩
 simp only[hall0,strp0,feed0,ring0,RiG,List.length_nil]
 omega
end Go.Den
namespace Go.Proofs.YtcnphhhcknhhaaaGreat
open Go Go.Den Go.MapKept
set_option linter.unusedSimpArgs false
set_option linter.unusedVariables false
set_option maxRecDepth 20000
structure StG (x:Strp):Prop where
 bw:BkW x.book
 bl:x.book.length<100000
 bs:∀ y∈x.book,y.1.size≤maxLen
 bn:∀ y∈x.book,y.2.ss.length<900000
 fg:FdG x.feed
theorem stG_of {m:Nat}{x:Strp}(s:StM m x)(h:m<100000):StG x:=⟨s.bk.bw,by have:=s.bk.bl; omega,s.bk.bs,fun y hy=>by have:=s.bk.bn y hy; omega,s.fd.g h⟩
theorem HallX.own {T T':Tags}{h h':Heap}{g:Tag}{p:Nat}{H:Hall}{sv av:Value}{Y:Nat→SV}(x:HallX T h g p H sv av Y)(k:Kp non T h T' h'):HallX T' h' g p H sv av Y :=
 ⟨(k.at x.hp x.tp (not_non _)).1,(k.at x.hp x.tp (not_non _)).2,x.st.kp k (not_non _),x.ac.kp k (not_non _),fun i hi=>(x.sr i hi).kp k (Off.non _) (not_non _)⟩
theorem put_put (H:Hall)(s:Nat)(y z:Strp):(H.put s y).put s z=H.put s z:=by
 unfold Hall.put
 congr 1
 funext k
 simp -implicitDefEqProofs only[sput]
 split<;>rfl
theorem put_at (H:Hall)(s:Nat)(y:Strp):(H.put s y).ss s=y:=by simp[Hall.put,sput]
theorem book_tell {T:Tags}{h:Heap}{g:Tag}{p b s:Nat}{H:Hall}{sv av k v cv:Value}{Y:Nat→SV}(w:Wf T h)(gg:Gd g)(x:HallX T h g p H sv av Y)(hs:s<H.n)(rb:rowOf sv=some b){B:Book}{l:List Chg}{seq:Int}
  (hb:BookR (fz T h) k v B) (hc:Sl 7 ChgR (fz T h) cv l) (hl:l.length<1000000) (fg:FdG (H.ss s).feed) {K:Heap→Prop}
  (hk:∀ h3,Only (fun t=>t=g++[1]) T h T h3→cel h3 b (s*8+7)=some (ptr (Y s).fp)→(∀ K':Value→Heap→Prop,(∀ T' h',Only (pre g) T h T' h'→HallR T' h' g p (H.put s { H.ss s with book:=B,feed:=(H.ss s).feed.tell l seq })→K' (.tuple #[]) h')→callM P qakZ #[ptr (Y s).fp,cv,.int .u64 seq] h3 K')→K h3) :
  stM (some 2) (.pointer (some ⟨b,s*8+5,none⟩)) (.agg #[k,v]) h K:=by
 have hsr:=x.sr s hs
 have u1:=hb.1.one
 have u2:=hb.2.1.one
 refine x.stw w (off:=5) (X':={ H.ss s with book:=B }) (y':={ Y s with bk:=k,bv:=v }) hs rb rfl (by rfl) (by omega) (by simp[u1.1,u2.1]) (by simp[spl,strC]) ⟨hsr.1,hb,hsr.2.2⟩ fun h3 o3 x3=>?_
 obtain⟨b',ob,rb',hb1,tb,ia,l1,l2,l3,l4,l5,l6⟩:=x3.lds (s:=s) (k:=.i64) hs
 have hbb:b'=b:=by rw[rb] at rb'; cases rb'; rfl
 subst hbb
 rw[if_pos rfl] at l5
 refine hk h3 o3 l5 fun K' hk'=>?_
 have hf:=(x3.sr s hs).2.2
 rw[if_pos rfl,put_at] at hf
 refine tell_ok l seq o3.wf (gg.app [3,s]) hf fg (hc.ext (R:=ChgR) (@ChgR.ext) (o3.ext (by simp))) hl fun T4 h4 o4 r4=>?_
 have x4:=x3.fed hs o4 gg (f:=(H.ss s).feed.tell l seq) (by rw[if_pos rfl]; exact r4)
 rw[put_put,put_at] at x4
 exact hk' T4 h4 ((o3.mono fun t=>eq_pre).up o4 fun t=>pre_trans) ⟨sv,av,_,x4⟩
variable {K:KTy}
set_option maxHeartbeats 2000000 in
theorem hsweep_ok (who:Int){s:Nat}(t:Tm){T:Tags}{h:Heap}{g:Tag}{p:Nat}{H:Hall}(w:Wf T h)(gg:Gd g)(x:HallR T h g p H)(hs:s<H.n)(h8:H.n≤8)(hl:H.acts.length<1000000)(sg:StG (H.ss s))
  (hk:∀ T' h',Only (pre g) T h T' h'→HallR T' h' g p (H.sweep who s t)→K (.tuple #[]) h'):callM P qhoZ #[ptr p,.int .i64 who,.int .i64 s,.agg (tmC t).toArray] h K:=by
 apply qqaZ
 unfold qhTZ
 refine nw_agg fun v1 h1 n1 e1 c1=>?_
 simp -implicitDefEqProofs only[tmC] at c1
 have o1:Only non T h T h1:=Only.of_ext w e1
 have t1:T v1=[]:=w v1 n1
 obtain⟨sv,av,Y,x1⟩:=x.up o1 (Off.non _) (not_non _)
 refine hwr_ok who o1.wf gg x1 hs h8 hl fun T2 h2 av2 b o2 x2 rb=>?_
 have b1:=o2.k.at c1 t1 (fun h=>U012.nil g h.up)
 unfold qkHZ
 rw[seqM_eq]
 unfold qkFZ
 obtain⟨b',ob,rb',hb1,tb,ia,l1,l2,l3,l4,l5,l6⟩:=x2.lds (s:=s) (k:=.i64) hs
 have hbb:b'=b:=by rw[rb] at rb'; cases rb'; rfl
 subst hbb
 have hsr:=x2.sr s hs
 have c1':=b1.1
 have hlen:(sweepB (H.ss s).book t.now).2.length<100000:=Nat.lt_of_le_of_lt (sweep_chg (H.ss s).book t.now (H.ss s).book.length) sg.bl
 have fin:∀ (h5:Heap) (s6:Env) (k v cv:Value) (vb:Nat),Ext h2 h5→BookR (fz T2 h5) k v (sweepB (H.ss s).book t.now).1→Sl 7 ChgR (fz T2 h5) cv (sweepB (H.ss s).book t.now).2→h5 vb=some (.cells #[k,v] qaZ (0,0))→s6 7=ptr v1→s6 8 = .pointer (some ⟨b',s*8,none⟩)→s6 9=ptr vb→s6 10=cv→qgZZ s6 h5 K []:=by
  intro h5 s6 k v cv vb e5 hb hc cvb s7 s8 s9 s10
  have o5:Only non T2 h2 T2 h5:=Only.of_ext o2.wf e5
  have x5:=x2.own o5.k
  have c1:=e5 _ _ c1'
  unfold qgZZ
  simp -implicitDefEqProofs[s7,s8,s9,s10,ld_at cvb,cel_of cvb,stm_at cvb,stm_upd,ld_same,cel_same,over]
  refine book_tell (seq:=t.seq) o5.wf gg x5 hs rb hb hc (by omega) sg.fg fun h6 o6 l6 hT=>?_
  have c1:=(o6.k.at c1 b1.2 (by simp)).1
  simp -implicitDefEqProofs[l6,ld_at c1,cel_of c1,stm_at c1,stm_upd,ld_same,cel_same,over]
  refine hT _ fun T7 h7 o7 x7=>?_
  unfold qkGZ
  simp -implicitDefEqProofs
  exact hk T7 h7 ((((o1.mono non_up).up o2 fun _=>U02.pre).up o5 non_up).up o7 fun t h=>h) x7
 simp -implicitDefEqProofs[ld_at c1',cel_of c1',stm_at c1',stm_upd,ld_same,cel_same,over,l4]
 refine⟨?_,?_⟩
 ·unfold qkDZ
  refine bsweep_ok _ sg.bw sg.bl sg.bs sg.bn t.now o2.wf hsr.2.1 fun h5 k v cv e5 hb hc=>?_
  unfold qkCZ
  have p1:=hb.1.one
  have p2:=hb.2.1.one
  simp -implicitDefEqProofs only[exV_0,exV_1,ov_s,zcMap]
  refine nw_st (by simp) (by simp) (by simp[p1.1,p2.1]) fun vb h6 n6 e6 c6=>?_
  simp -implicitDefEqProofs only[cells_agg] at c6
  try simp only[thenM_n]
  refine fin h6 _ k v cv vb (e5.trans e6) (hb.ext (fz_of_ext e6)) (hc.ext (R:=ChgR) (@ChgR.ext) (fz_of_ext e6)) c6 ?_ ?_ ?_ ?_<;>simp
 ·unfold qkEZ
  rw[zcMap]
  refine nw_intro fun vb h5 n5 e5 c5=>?_
  have o5:Only non T2 h2 T2 h5:=Only.of_ext o2.wf e5
  have x5:=x2.own o5.k
  obtain⟨b'',ob',rb'',hb1',tb',ia',l1',l2',l3',l4',l5',l6'⟩:=x5.lds (s:=s) (k:=.i64) hs
  have hbb:b''=b':=by rw[rb] at rb''; cases rb''; rfl
  subst hbb
  have c1:=e5 _ _ c1'
  refine⟨l4',by simp[ld_at c1,cel_of c1,stm_at c1,stm_upd,ld_same,cel_same,over],?_⟩
  have wt:Wf (tset T2 vb lc) h5:=wf_loc o5.wf c5
  refine bsweep_ok _ sg.bw sg.bl sg.bs sg.bn t.now wt (hsr.2.1.ext (fz_in n5 e5)) fun h6 k v cv e6 hb hc=>?_
  have p1:=hb.1.one
  have p2:=hb.2.1.one
  have c6:=e6 _ _ c5
  simp -implicitDefEqProofs[ld_at c6,cel_of c6,stm_at c6,stm_upd,ld_same,cel_same,over,p1.1,p2.1]
  try simp only[thenM_n]
  refine fin _ _ k v cv vb (ext_upd n5 (e5.trans e6)) (hb.ext fz_loc) (hc.ext (R:=ChgR) (@ChgR.ext) fz_loc) (upd_same' _ _ _) ?_ ?_ ?_ ?_<;>simp
theorem settle_chg (b:Book)(u:ByteArray)(ss:List Sess)(now:Int):(settleB b u ss now).2.length≤1:=by unfold settleB; dsimp only; split<;>simp
set_option maxHeartbeats 2000000 in
theorem hwrite_ok (who:Int){s:Nat}(o:OpD)(ow:OpW o){uv:Value}(ou:One uv)(t:Tm)(ht:U64 t.now){T:Tags}{h:Heap}{g:Tag}{p:Nat}{H:Hall}(w:Wf T h)(gg:Gd g)(x:HallR T h g p H)(hs:s<H.n)(h8:H.n≤8)(hl:H.acts.length<1000000)(sg:StG (H.ss s))
  (hk:∀ T' h',Only (pre g) T h T' h'→HallR T' h' g p (H.write who s o t).1→K (.int .i64 (H.write who s o t).2) h'):callM P qhpZ #[ptr p,.int .i64 who,.int .i64 s,.agg (opC o uv).toArray,.agg (tmC t).toArray] h K:=by
 apply qqbZ
 unfold qhUZ
 refine nw_agg fun v1 h0 n0 e0 c0=>?_
 refine nw_agg fun v3 h1 n1 e1 c3=>?_
 simp -implicitDefEqProofs only[tmC] at c3
 simp -implicitDefEqProofs only[opC] at c0
 have o1:Only non T h T h1:=Only.of_ext w (e0.trans e1)
 have c0:=e1 _ _ c0
 have t1:T v1=[]:=w v1 n0
 have t3:T v3=[]:=w v3 (fresh_of e0 n1)
 obtain⟨sv,av,Y,x1⟩:=x.up o1 (Off.non _) (not_non _)
 refine hwr_ok who o1.wf gg x1 hs h8 hl fun T2 h2 av2 b o2 x2 rb=>?_
 have b1:=o2.k.at c0 t1 (fun h=>U012.nil g h.up)
 have b3:=o2.k.at c3 t3 (fun h=>U012.nil g h.up)
 have c1':=b1.1
 have c3':=b3.1
 have oh:Only (pre g) T h T2 h2:=(o1.mono non_up).up o2 fun _=>U02.pre
 unfold qliZ
 cases htc:t.closed with
 | true =>
  rw[htc] at c3'
  have e:H.write who s o t=(H.wr who s,5):=by simp[Hall.write,htc]
  rw[e] at hk
  simp -implicitDefEqProofs[ld_at c3',cel_of c3',stm_at c3',stm_upd,ld_same,cel_same,over]
  exact hk T2 h2 oh ⟨sv,av2,Y,x2⟩
 | false =>
 rw[htc] at c3'
 obtain⟨r,hr⟩:∃ r,writeB (H.ss s).book o t.now H.c.sessions=r:=⟨_,rfl⟩
 have e:H.write who s o t=((H.wr who s).put s { H.ss s with book:=r.1,feed:=(H.ss s).feed.tell r.2.1 t.seq },r.2.2):=by simp[Hall.write,htc,hr]
 rw[e] at hk
 simp -implicitDefEqProofs[ld_at c3',cel_of c3',stm_at c3',stm_upd,ld_same,cel_same,over]
 unfold qlhZ
 rw[seqM_eq]
 unfold qlfZ
 obtain⟨b',ob,rb',hb1,tb,ia,l1,l2,l3,l4,l5,l6⟩:=x2.lds (s:=s) (k:=.i64) hs
 have hbb:b'=b:=by rw[rb] at rb'; cases rb'; rfl
 subst hbb
 have hsr:=x2.sr s hs
 have cp:=x2.hp
 simp -implicitDefEqProofs only[hallC] at cp
 have hlen:r.2.1.length≤1:=by rw[← hr]; exact settle_chg _ _ _ _
 have fin:∀ (h5:Heap) (s6:Env) (k v cv:Value) (vb:Nat),Ext h2 h5→BookR (fz T2 h5) k v r.1→Sl 7 ChgR (fz T2 h5) cv r.2.1→h5 vb=some (.cells #[k,v] qaZ (0,0))→s6 9=ptr v3→s6 11 = .pointer (some ⟨b',s*8,none⟩)→s6 12=ptr vb→s6 13=cv→s6 14 = .int .i64 r.2.2→qhcZ s6 h5 K []:=by
  intro h5 s6 k v cv vb e5 hb hc cvb s9 s11 s12 s13 s14
  have o5:Only non T2 h2 T2 h5:=Only.of_ext o2.wf e5
  have x5:=x2.own o5.k
  have c3:=e5 _ _ c3'
  unfold qhcZ
  simp -implicitDefEqProofs[s9,s11,s12,s13,ld_at cvb,cel_of cvb,stm_at cvb,stm_upd,ld_same,cel_same,over]
  refine book_tell (seq:=t.seq) o5.wf gg x5 hs rb hb hc (by omega) sg.fg fun h6 o6 l6 hT=>?_
  have c3:=(o6.k.at c3 b3.2 (by simp)).1
  simp -implicitDefEqProofs[l6,ld_at c3,cel_of c3,stm_at c3,stm_upd,ld_same,cel_same,over]
  refine hT _ fun T7 h7 o7 x7=>?_
  unfold qlgZ
  simp -implicitDefEqProofs[s14]
  exact hk T7 h7 ((oh.up o5 non_up).up o7 fun t h=>h) x7
 have oa:ldV (some (some 7)) (ptr v1) h2=some (.agg (opC o uv).toArray):=by simp[ld_at c1',opC]
 have hse:(Hall.wr H who s).c.sessions=H.c.sessions:=rfl
 simp -implicitDefEqProofs[ld_at c3',cel_of c3',stm_at c3',ld_at cp,cel_of cp,stm_at cp,stm_upd,ld_same,cel_same,over,l4,oa,hse]
 refine⟨?_,?_⟩
 ·unfold qldZ
  refine bwrite_ok _ sg.bw o ow ou ht H.c.sessions o2.wf hsr.2.1 (by have:=sg.bl; omega) ?_ fun h5 k v cv e5 hb hc=>?_
  ·rcases entOf_cases (H.ss s).book o.user with h | ⟨y,h1,h2,h3⟩
   ·show (entOf (H.ss s).book o.user).ss.length<_
    rw[h]; simp[ent0]
   ·show (entOf (H.ss s).book o.user).ss.length<_
    rw[h3]; exact sg.bn y h1
  have hb:BookR (fz T2 h5) k v r.1:=by rw[← hr]; exact hb
  have hc:Sl 7 ChgR (fz T2 h5) cv r.2.1:=by rw[← hr]; exact hc
  have hrr:(writeB ((H.wr who s).ss s).book o t.now H.c.sessions).2.2=r.2.2:=by rw[← hr]; rfl
  unfold qlcZ
  have p1:=hb.1.one
  have p2:=hb.2.1.one
  simp -implicitDefEqProofs only[exV_0,exV_1,exV_2,ov_s,zcMap,hrr]
  refine nw_st (by simp) (by simp) (by simp[p1.1,p2.1]) fun vb h6 n6 e6 c6=>?_
  simp -implicitDefEqProofs only[cells_agg] at c6
  try simp only[thenM_n]
  refine fin h6 _ k v cv vb (e5.trans e6) (hb.ext (fz_of_ext e6)) (hc.ext (R:=ChgR) (@ChgR.ext) (fz_of_ext e6)) c6 ?_ ?_ ?_ ?_ ?_<;>simp[hr]
 ·unfold qleZ
  rw[zcMap]
  refine nw_intro fun vb h5 n5 e5 c5=>?_
  have o5:Only non T2 h2 T2 h5:=Only.of_ext o2.wf e5
  have x5:=x2.own o5.k
  obtain⟨b'',ob',rb'',hb1',tb',ia',l1',l2',l3',l4',l5',l6'⟩:=x5.lds (s:=s) (k:=.i64) hs
  have hbb:b''=b':=by rw[rb] at rb''; cases rb''; rfl
  subst hbb
  have c3:=e5 _ _ c3'
  have c1:=e5 _ _ c1'
  have cp:=x5.hp
  simp -implicitDefEqProofs only[hallC] at cp
  have oa:ldV (some (some 7)) (ptr v1) h5=some (.agg (opC o uv).toArray):=by simp[ld_at c1,opC]
  refine⟨l4',oa,by simp[ld_at c3,cel_of c3,stm_at c3,stm_upd,ld_same,cel_same,over],by simp[ld_at cp,cel_of cp,stm_at cp,stm_upd,ld_same,cel_same,over,hse],?_⟩
  have wt:Wf (tset T2 vb lc) h5:=wf_loc o5.wf c5
  refine bwrite_ok _ sg.bw o ow ou ht H.c.sessions wt (hsr.2.1.ext (fz_in n5 e5)) (by have:=sg.bl; omega) ?_ fun h6 k v cv e6 hb hc=>?_
  ·rcases entOf_cases (H.ss s).book o.user with h | ⟨y,h1,h2,h3⟩
   ·show (entOf (H.ss s).book o.user).ss.length<_
    rw[h]; simp[ent0]
   ·show (entOf (H.ss s).book o.user).ss.length<_
    rw[h3]; exact sg.bn y h1
  have hb:BookR (fz (tset T2 vb lc) h6) k v r.1:=by rw[← hr]; exact hb
  have hc:Sl 7 ChgR (fz (tset T2 vb lc) h6) cv r.2.1:=by rw[← hr]; exact hc
  have hrr:(writeB ((H.wr who s).ss s).book o t.now H.c.sessions).2.2=r.2.2:=by rw[← hr]; rfl
  have p1:=hb.1.one
  have p2:=hb.2.1.one
  have c6:=e6 _ _ c5
  try simp only[hrr]
  simp -implicitDefEqProofs[ld_at c6,cel_of c6,stm_at c6,stm_upd,ld_same,cel_same,over,p1.1,p2.1]
  try simp only[thenM_n]
  refine fin _ _ k v cv vb (ext_upd n5 (e5.trans e6)) (hb.ext fz_loc) (hc.ext (R:=ChgR) (@ChgR.ext) fz_loc) (upd_same' _ _ _) ?_ ?_ ?_ ?_ ?_<;>simp[hr]
end Go.Proofs.YtcnphhhcknhhaaaGreat
namespace Go.Proofs.YtcnphhhcknhhaaaGreat
open Go Go.Den Go.MapKept
set_option linter.unusedSimpArgs false
set_option linter.unusedVariables false
set_option maxRecDepth 20000
def repC (e:Int):List Value:=[.int .i64 e,.slice none 0 0,.slice none 0 0,.bool false]
theorem zcRep:zc P qcZ=some #[.int .i64 0,.slice none 0 0,.slice none 0 0,.bool false]:=by kernel_rfl
theorem bdRepE (e:Int):bdV (binf P qcZ) [(0,.int .i64 e)]=some (.agg #[.int .i64 e,.slice none 0 0,.slice none 0 0,.bool false]):=by kernel_rfl
theorem bdRep0:bdV (binf P qcZ) []=some (.agg #[.int .i64 0,.slice none 0 0,.slice none 0 0,.bool false]):=by kernel_rfl
end Go.Proofs.YtcnphhhcknhhaaaGreat
namespace Go.Den
open Go
set_option linter.unusedVariables false
set_option linter.unusedSimpArgs false
deriving instance DecidableEq for Ent
deriving instance DecidableEq for Evt
end Go.Den
namespace Go.Den
open Go
set_option linter.unusedVariables false
set_option linter.unusedSimpArgs false
def evt0:Evt:=⟨⟨#[]⟩,⟨0,0,0⟩,⟨0,0,0⟩,0⟩
def hdE (l:List Evt):Evt:=l.headD evt0
def nth (r:List (List Evt))(i:Nat):List Evt:=r.getD i []
def bestE (r:List (List Evt)):Nat→Option Nat
 | 0=>none
 | k+1=>match bestE r k with
  | none=>if nth r k=[] then none else some k
  | some b=>if nth r k≠[]∧(hdE (nth r k)).seq<(hdE (nth r b)).seq then some k else some b
def mergeF:Nat→List (List Evt)→List Evt
 | 0,_=>[]
 | f+1,r=>match bestE r r.length with
  | none=>[]
  | some b=>hdE (nth r b)::mergeF f (r.set b (nth r b).tail)
def totE (r:List (List Evt)):Nat:=(r.map (·.length)).sum
def mergeE (r:List (List Evt)):List Evt:=mergeF (totE r) r
structure IsBest (r:List (List Evt))(lo hi b:Nat):Prop where
 l:lo≤b
 h:b<hi
 ne:nth r b≠[]
 lt:∀ i,lo≤i→i<b→nth r i≠[]→(hdE (nth r b)).seq<(hdE (nth r i)).seq
 le:∀ i,b≤i→i<hi→nth r i≠[]→(hdE (nth r b)).seq≤(hdE (nth r i)).seq
theorem best_none {r:List (List Evt)}:∀ {k:Nat},bestE r k=none↔∀ i,i<k→nth r i=[]
 | 0=>by simp[bestE]
 | k+1=>by
  have ih:=best_none (r:=r) (k:=k)
  simp only[bestE]
  cases h:bestE r k with
  | none =>
   have h':=ih.1 h
   dsimp only
   by_cases hk:nth r k=[]
   ·simp only[hk,if_true,true_iff]
    intro i hi
    by_cases hik:i=k
    ·subst hik; exact hk
    ·exact h' i (by omega)
   ·simp only[hk,if_false,reduceCtorEq,false_iff]
    intro hh; exact hk (hh k (by omega))
  | some b =>
   dsimp only
   constructor
   ·intro hh; split at hh<;>cases hh
   ·intro hh
    have:=ih.2 fun i hi=>hh i (by omega)
    rw[h] at this; cases this
theorem best_some {r:List (List Evt)}:∀ {k b:Nat},bestE r k=some b→IsBest r 0 k b
 | 0,b,h=>by simp[bestE] at h
 | k+1,b,h=>by
  simp only[bestE] at h
  cases hb:bestE r k with
  | none =>
   rw[hb] at h
   have hn:=best_none.1 hb
   dsimp only at h
   split at h
   ·cases h
   ·rename_i hk
    simp only[Option.some.injEq] at h; subst h
    refine⟨by omega,by omega,hk,fun i _ hi hne=>absurd (hn i hi) hne,fun i h1 h2 _=>?_⟩
    have:i=k:=by omega
    subst this; omega
  | some c =>
   rw[hb] at h
   have x:=best_some hb
   dsimp only at h
   split at h
   ·rename_i hk
    simp only[Option.some.injEq] at h; subst h
    refine⟨by omega,by omega,hk.1,fun i _ hi hne=>?_,fun i h1 h2 _=>?_⟩
    ·by_cases hic:i<c
     ·have:=x.lt i (by omega) hic hne; omega
     ·have:=x.le i (by omega) hi hne; omega
    ·have:i=k:=by omega
     subst this; omega
   ·rename_i hk
    simp only[Option.some.injEq] at h; subst h
    have:=x.h
    refine⟨by omega,by omega,x.ne,x.lt,fun i h1 h2 hne=>?_⟩
    by_cases hik:i=k
    ·subst hik
     have:¬ (hdE (nth r i)).seq<(hdE (nth r c)).seq:=fun hh=>hk ⟨hne,hh⟩
     omega
    ·exact x.le i h1 (by omega) hne
theorem tot_set {b:Nat}:∀ {r:List (List Evt)},b<r.length→nth r b≠[]→totE (r.set b (nth r b).tail)+1=totE r:=by
 induction b with
 | zero =>
  intro r hb hn
  cases r with
  | nil=>simp at hb
  | cons l r =>
   simp only[nth,List.getD_cons_zero] at hn ⊢
   cases l with
   | nil=>exact absurd rfl hn
   | cons x l=>simp[totE]; omega
 | succ b ih =>
  intro r hb hn
  cases r with
  | nil=>simp at hb
  | cons l r =>
   simp only[nth,List.getD_cons_succ,List.set_cons_succ] at hn ⊢
   have:=ih (r:=r) (by simpa using hb) hn
   simp only[nth] at this
   simp[totE] at this ⊢; omega
theorem merge_none {r:List (List Evt)}(h:bestE r r.length=none):mergeE r=[]:=by
 unfold mergeE
 cases totE r with
 | zero=>rfl
 | succ n=>simp[mergeF,h]
theorem merge_some {r:List (List Evt)}{b:Nat}(h:bestE r r.length=some b):mergeE r=hdE (nth r b)::mergeE (r.set b (nth r b).tail):=by
 have x:=best_some h
 have ht:=tot_set x.h x.ne
 unfold mergeE
 rw[← ht]
 simp only[mergeF,h]
theorem tot_zero {r:List (List Evt)}:totE r=0↔∀ i,nth r i=[]:=by
 unfold totE nth
 induction r with
 | nil=>simp
 | cons l r ih =>
  simp only[List.map_cons,List.sum_cons]
  constructor
  ·intro h i
   have h1:l.length=0:=by omega
   cases i with
   | zero=>simpa using h1
   | succ i=>simpa using (ih.1 (by omega)) i
  ·intro h
   have h1:=h 0
   have h2:=ih.2 fun i=>by simpa using h (i+1)
   simp at h1; simp[h1]; omega
theorem merge_len (r:List (List Evt)):(mergeE r).length≤totE r:=by
 unfold mergeE
 generalize totE r=n
 induction n generalizing r with
 | zero=>simp[mergeF]
 | succ n ih =>
  simp only[mergeF]
  split
  ·simp
  ·simpa using ih _
structure Tbl where
 c:Cfg
 t:Tm
 n:Nat
 bk:Nat→Book
 fd:Nat→Feed
def rep0:Reply:=⟨0,[],[],false⟩
def repE (e:Int):Reply:=⟨e,[],[],false⟩
def bset {α:Type}(f:Nat→α)(i:Nat)(x:α):Nat→α:=fun k=>if k=i then x else f k
def Tbl.stripe (M:Tbl)(u:ByteArray):Nat:=(stripeOf u M.c.stripes).toNat
def Tbl.take (M:Tbl):Tbl:={ M with t:={ M.t with seq:=addU M.t.seq 1 } }
def Tbl.tick (M:Tbl)(b:Int):Tbl:={ M with t:={ M.t with now:=addU M.t.now b } }
def Tbl.sweepAt (M:Tbl)(s:Nat)(t:Tm):Tbl:={ M with bk:=bset M.bk s (sweepB (M.bk s) t.now).1,fd:=bset M.fd s ((M.fd s).tell (sweepB (M.bk s) t.now).2 t.seq) }
def Tbl.sweep (M:Tbl)(s:Int):Tbl:=if 0≤s∧s<M.n then M.take.sweepAt s.toNat M.take.t else M
def Tbl.writeAt (M:Tbl)(s:Nat)(x:OpD)(t:Tm):Tbl:={ M with bk:=bset M.bk s (writeB (M.bk s) x t.now M.c.sessions).1,fd:=bset M.fd s ((M.fd s).tell (writeB (M.bk s) x t.now M.c.sessions).2.1 t.seq) }
def Tbl.write (M:Tbl)(x:OpD):Tbl × Reply :=
 if M.t.closed then (M.take,repE 5) else (M.take.writeAt (M.stripe x.user) x M.take.t,repE (writeB (M.bk (M.stripe x.user)) x M.t.now M.c.sessions).2.2)
def Tbl.count (M:Tbl)(who:Int):Nat:=((List.range M.n).map fun s=>(M.fd s).count who).sum
def Tbl.fed (M:Tbl)(s:Nat)(f:Feed):Tbl:={ M with fd:=bset M.fd s f }
def Tbl.watch (M:Tbl)(who:Int)(u:ByteArray):Tbl × Reply :=
 if (M.fd (M.stripe u)).watching who u=false∧M.c.watches≤M.count who then (M,repE 4) else (M.fed (M.stripe u) ((M.fd (M.stripe u)).watch who u),rep0)
def Tbl.drainTo (M:Tbl)(who:Int)(k:Nat):Tbl:={ M with fd:=fun s=>if s<k then (M.fd s).drain who else M.fd s }
def Tbl.lostTo (M:Tbl)(who:Int)(k:Nat):Bool:=(List.range k).any fun s=>(M.fd s).lost who
def Tbl.toldTo (M:Tbl)(who:Int)(k:Nat):List (List Evt):=(List.range k).map fun s=>(M.fd s).told who
def Tbl.poll (M:Tbl)(who:Int):Tbl × Reply:=(M.drainTo who M.n,⟨0,[],mergeE (M.toldTo who M.n),M.lostTo who M.n⟩)
def Tbl.pres (M:Tbl)(u:ByteArray):Pres:=presB (M.bk (M.stripe u)) u M.t.now
def Tbl.do_ (M:Tbl)(who:Int)(x:OpD):Tbl × Reply :=
 if badB x=true∨clientB who=false then (M,repE 1)
 else if x.kind=1∨x.kind=2∨x.kind=3 then M.write x
 else if x.kind=8 then M.poll who
 else if M.t.closed then (M,repE 5)
 else if x.kind=6 then M.watch who x.user
 else if x.kind=7 then (M.fed (M.stripe x.user) ((M.fd (M.stripe x.user)).unwatch who x.user),rep0)
 else if x.kind=9 then ({ M with t:={ M.t with closed:=true } },rep0)
 else (M,⟨0,(usersOf x).map M.pres,[],false⟩)
def Tbl.stored (M:Tbl):Nat:=((List.range M.n).map fun s=>storedB (M.bk s)).sum
def tbl0 (c:Cfg)(n:Nat):Tbl:=⟨c,⟨c.start,0,false⟩,n,fun _=>[],fun _=>feed0 c.queue⟩
def Hall.tbl (H:Hall):Tbl:=⟨H.c,H.t,H.n,fun s=>(H.ss s).book,fun s=>(H.ss s).feed⟩
def Hall.stored (H:Hall):Nat:=H.tbl.stored
structure TS (m:Nat)(M:Tbl):Prop where
 rt:rightB M.c=true
 cw:CfgW M.c
 nn:(M.n:Int)=M.c.stripes
 bk:∀ s,s<M.n→BkM m (M.bk s)
 fd:∀ s,s<M.n→FdM m (M.fd s)
 tn:U64 M.t.now
 ts:U64 M.t.seq
theorem TS.mono {m k:Nat}{M:Tbl}(x:TS m M)(h:m≤k):TS k M:=⟨x.rt,x.cw,x.nn,fun s hs=>(x.bk s hs).mono h,fun s hs=>(x.fd s hs).mono h,x.tn,x.ts⟩
theorem stripeOf_lt {u:ByteArray}{n:Int}(h:1≤n):0≤stripeOf u n∧stripeOf u n<n:=by
 have:=fnv_rng u
 unfold stripeOf
 rw[if_neg (by omega)]
 exact⟨Int.emod_nonneg _ (by omega),Int.emod_lt_of_pos _ (by omega)⟩
theorem TS.stripe {m:Nat}{M:Tbl}(x:TS m M)(u:ByteArray):M.stripe u<M.n:=by
 have h1:=x.rt; have h2:=x.nn
 simp only[rightB,decide_eq_true_eq] at h1
 have:=stripeOf_lt (u:=u) (n:=M.c.stripes) (by omega)
 unfold Tbl.stripe; omega
theorem HS.tbl {m:Nat}{H:Hall}(x:HS m H):TS m H.tbl:=⟨x.rt,x.cw,x.nn,fun s hs=>(x.st s hs).bk,fun s hs=>(x.st s hs).fd,x.tn,x.ts⟩
end Go.Den
namespace Go.Den
open Go
set_option linter.unusedVariables false
set_option linter.unusedSimpArgs false
def Lv (b:Book)(now:Int):Prop:=∀ x∈b,∀ s∈x.2.ss,now<s.un
end Go.Den
namespace Go.Den
open Go
set_option linter.unusedVariables false
set_option linter.unusedSimpArgs false
theorem TS.take {m:Nat}{M:Tbl}(x:TS m M):TS m M.take:=⟨x.rt,x.cw,x.nn,x.bk,x.fd,x.tn,addU_rng x.ts (by simp[U64])⟩
theorem TS.set {m:Nat}{M:Tbl}(x:TS m M){s:Nat}{b:Book}{f:Feed}(hb:BkM m b)(hf:FdM m f):TS m { M with bk:=bset M.bk s b,fd:=bset M.fd s f } :=
 ⟨x.rt,x.cw,x.nn,fun t ht=>by simp only[bset]; split; exact hb; exact x.bk t ht,fun t ht=>by simp only[bset]; split; exact hf; exact x.fd t ht,x.tn,x.ts⟩
theorem TS.fed {m:Nat}{M:Tbl}(x:TS m M){s:Nat}{f:Feed}(hf:FdM m f):TS m (M.fed s f) :=
 ⟨x.rt,x.cw,x.nn,x.bk,fun t ht=>by simp only[Tbl.fed,bset]; split; exact hf; exact x.fd t ht,x.tn,x.ts⟩
theorem TS.sweep {m:Nat}{M:Tbl}(x:TS m M)(s:Int):TS m (M.sweep s):=by
 unfold Tbl.sweep
 split
 ·rename_i h
  have hs:s.toNat<M.n:=by omega
  exact x.take.set ((x.bk _ hs).sweepTo _ _ (Nat.le_refl _)) ((x.fd _ hs).tell _ _)
 ·exact x
theorem TS.write {m:Nat}{M:Tbl}(x:TS m M){o:OpD}(ow:OpW o):TS (m+1) (M.write o).1:=by
 have y:=x.mono (Nat.le_succ m)
 have hs:=x.stripe o.user
 unfold Tbl.write
 split
 ·exact y.take
 ·exact y.take.set ((x.bk _ hs).write ow x.tn _) ((y.fd _ hs).tell _ _)
theorem TS.tick {m:Nat}{M:Tbl}(x:TS m M)(b:Int)(hb:U64 b):TS m (M.tick b):=⟨x.rt,x.cw,x.nn,x.bk,x.fd,addU_rng x.tn hb,x.ts⟩
theorem TS.do_ {m:Nat}{M:Tbl}(x:TS m M)(who:Int){o:OpD}(ow:OpW o):TS (m+1) (M.do_ who o).1:=by
 have y:=x.mono (Nat.le_succ m)
 have hs:=x.stripe o.user
 unfold Tbl.do_
 split
 ·exact y
 split
 ·exact x.write ow
 split
 ·exact⟨y.rt,y.cw,y.nn,y.bk,fun t ht=>by simp only[Tbl.poll,Tbl.drainTo]; split; exact (y.fd t ht).drain _; exact y.fd t ht,y.tn,y.ts⟩
 split
 ·exact y
 split
 ·unfold Tbl.watch
  split
  ·exact y
  ·exact y.fed ((x.fd _ hs).watch _ _ ow.s1)
 split
 ·exact y.fed ((x.fd _ hs).unwatch _ _ ow.s1)
 split
 ·exact⟨y.rt,y.cw,y.nn,y.bk,y.fd,y.tn,y.ts⟩
 ·exact y
end Go.Den
namespace Go.Den
open Go
set_option linter.unusedVariables false
set_option linter.unusedSimpArgs false
theorem bset_same {α:Type}(f:Nat→α)(i:Nat)(x:α):bset f i x i=x:=by simp[bset]
theorem bset_ne {α:Type}{f:Nat→α}{i j:Nat}{x:α}(h:j≠i):bset f i x j=f j:=by simp[bset,h]
end Go.Den
namespace Go.Den
open Go
set_option linter.unusedVariables false
def wo (h:Heap)(l:List Nat):Heap:=fun q=>if q∈l then none else h q
theorem wo_out {h:Heap}{l:List Nat}{q:Nat}(hq:q ∉ l):wo h l q=h q:=if_neg hq
theorem wo_ext {F h:Heap}{l:List Nat}(e:Ext F h)(hl:∀ q∈l,F q=none):Ext F (wo h l):=fun b o hb=>by
 rw[wo_out (fun hm=>by rw[hl b hm] at hb; cases hb)]; exact e b o hb
theorem wo_get {h:Heap}{l:List Nat}{q:Nat}{o:Obj}(e:wo h l q=some o):q ∉ l∧h q=some o:=by
 unfold wo at e
 split at e
 ·cases e
 ·rename_i hq; exact⟨hq,e⟩
theorem wo_keep {h h' h'':Heap}{l:List Nat}{b:Nat}(e:Ext (wo h l) h')(hb:h b=none)(k:Keep (some b) h' h''):Ext (wo h l) h'':=fun q o hq=>by
 refine k q o (e q o hq) fun hh=>?_
 cases hh
 rw[(wo_get hq).2] at hb; cases hb
theorem wo_upd {h h':Heap}{l:List Nat}{b:Nat}{o:Obj}(e:Ext (wo h l) h')(hb:b∈l):Ext (wo h l) (upd h' b o):=fun q x hq=>by
 rw[upd_ne (fun hh=>(wo_get hq).1 (by rw[hh]; exact hb))]; exact e q x hq
theorem ext_wo {h0 h h':Heap}{l:List Nat}(e0:Ext h0 h)(hl:∀ q∈l,h0 q=none)(e:Ext (wo h l) h'):Ext h0 h':=(wo_ext e0 hl).trans e
def stoTo (b:Book)(i:Nat):Nat:=storedB (b.take i)
theorem stoTo_s {b:Book}{i:Nat}(hi:i<b.length):stoTo b (i+1)=stoTo b i+b[i].2.ss.length:=by
 unfold stoTo storedB
 rw[List.take_succ_eq_append_getElem hi,List.map_append,List.sum_append_nat,List.map_cons,List.map_nil,List.sum_cons,List.sum_nil,Nat.add_zero]
theorem stored_le {m k:Nat}{b:Book}(h1:b.length≤m)(h2:∀ y∈b,y.2.ss.length≤k):storedB b≤m*k:=by
 unfold storedB
 have:∀ (l:Book),(∀ y∈l,y.2.ss.length≤k)→(l.map fun x=>x.2.ss.length).sum≤l.length*k:=by
  intro l hl
  induction l with
  | nil=>simp
  | cons a l ih =>
   have h3:=hl a (by simp)
   have h4:=ih fun y hy=>hl y (by simp[hy])
   simp only[List.map_cons,List.sum_cons,List.length_cons,Nat.add_mul]; omega
 exact Nat.le_trans (this b h2) (Nat.mul_le_mul_right _ h1)
theorem stoTo_le {b:Book}(i:Nat):stoTo b i≤storedB b:=by
 unfold stoTo storedB
 have:(b.map fun x=>x.2.ss.length).sum=((b.take i).map fun x=>x.2.ss.length).sum+((b.drop i).map fun x=>x.2.ss.length).sum:=by
  rw[← List.sum_append_nat,← List.map_append,List.take_append_drop]
 omega
def stoH (H:Hall)(i:Nat):Nat:=((List.range i).map fun s=>storedB (H.ss s).book).sum
theorem stoH_s (H:Hall)(i:Nat):stoH H (i+1)=stoH H i+storedB (H.ss i).book:=by
 unfold stoH
 rw[List.range_succ,List.map_append,List.sum_append_nat,List.map_cons,List.map_nil,List.sum_cons,List.sum_nil,Nat.add_zero]
theorem stoH_all (H:Hall):stoH H H.n=H.stored:=rfl
theorem stoH_le {m:Nat}{H:Hall}(x:HS m H):∀ i,i≤H.n→stoH H i≤i*(m*m)
 | 0,_=>by simp[stoH]
 | i+1,hi=>by
  have ih:=stoH_le x i (by omega)
  have b:=(x.st i (by omega)).bk
  have:=stored_le b.bl b.bn
  rw[stoH_s,Nat.add_mul]; omega
end Go.Den
namespace Go.Proofs.YtcnphhhcknhhaaaGreat
open Go Go.Den Go.MapKept
set_option linter.unusedSimpArgs false
set_option linter.unusedVariables false
set_option maxRecDepth 20000
theorem allX_at {b:Book}{Lv:List (List Value)}{F:Heap}(l2:El 4 EntR F Lv (b.map (·.2))){i:Nat}(hi:i<(allX b Lv).length):∃ (hb:i<b.length) (v:Value),(allX b Lv)[i]=#[.string b[i].1,.agg (v::presC b[i].2.told).toArray]∧Sl 4 SessR F v b[i].2.ss∧Sn v:=by
 have hb:i<b.length:=by simpa [allX] using hi
 have hL:i<Lv.length:=by rw[l2.len]; simpa using hb
 have he:=l2.el i hL (by simpa using hb)
 obtain⟨v,h1,h2,h3⟩:=he
 simp -implicitDefEqProofs only[List.getElem_map] at h1 h2
 refine⟨hb,v,?_,h2,h3⟩
 simp -implicitDefEqProofs only[allX,List.getElem_map,List.getElem_range]
 have e1:b.getD i (⟨#[]⟩,ent0)=b[i]:=by rw[List.getD_eq_getElem?_getD,List.getElem?_eq_getElem hb]; rfl
 have e2:Lv.getD i []=Lv[i]:=by rw[List.getD_eq_getElem?_getD,List.getElem?_eq_getElem hL]; rfl
 rw[e1,e2,h1]
def StoJ (hB:Heap)(v3:Nat)(b:Book)(i:Nat)(h':Heap):Prop:=Ext (wo hB [v3]) h'∧h' v3=some (.cells #[.int .i64 (stoTo b i)] qsZ (0,0))
def StoC (hB F:Heap)(v3:Nat)(b:Book)(l i:Nat)(s2:Env)(h':Heap):Prop:=StoJ hB v3 b i h'∧s2 3=ptr v3∧∃ (hi:i<b.length) (xb:Nat) (sv:Value),s2 5=ptr xb∧xb≠l∧h' xb=some (.cells (sv::presC b[i].2.told).toArray qnZ (0,0))∧Sl 4 SessR F sv b[i].2.ss
variable {K:KTy}
theorem stored_ok (b:Book)(hl:b.length≤100000)(hn:∀ y∈b,y.2.ss.length≤900000){F h:Heap}(eF:Ext F h){kw vw:Value}(x:BookR F kw vw b)(hk:∀ h',Ext h h'→K (.int .i64 (storedB b)) h'):callM P qbpZ #[.agg #[kw,vw]] h K:=by
 apply qqMZ
 unfold qmDZ
 refine nw_agg fun v1 h1 n1 e1 c1=>?_
 rw[zcInt]
 refine nw_intro fun v3 h3 n3 e3 c3=>?_
 have c1:=e3 _ _ c1
 have e0:=e1.trans e3
 have n3':h v3=none:=fresh_of e1 n3
 have o1:=x.1.one
 have o2:=x.2.1.one
 have ec3:upd h3 v3 (.cells #[.int .i64 0] qsZ (0,0))=h3:=(upd_of (fun _ _=>rfl) c3).symm
 simp -implicitDefEqProofs[ld_at c3,cel_of c3,stm_at c3,stm_upd,ld_same,cel_same,over]
 rw[ec3,seqM_eq]
 unfold qnkZ
 simp -implicitDefEqProofs[ld_at c1,cel_of c1,stm_at c1,stm_upd,ld_same,cel_same,over]
 refine all_ok b (eF.trans e0) x fun pA hB nA eA cA=>?_
 have nA3:v3≠pA:=ne_fresh c3 nA
 have c3:=eA _ _ c3
 have e0B:=e0.trans eA
 obtain⟨Lv,l1,l2⟩:=x.2.1.els EntR.one
 simp -implicitDefEqProofs only[List.length_map] at l1
 have hF3:F v3=none:=by
  cases hh:F v3 with
  | none=>rfl
  | some o=>rw[eF _ _ hh] at n3'; cases n3'
 have F1:Ext F (wo hB [v3]):=wo_ext (eF.trans e0B) (by simpa using hF3)
 have hsb:stoTo b b.length=storedB b:=by simp[stoTo]
 have hbound:storedB b≤90000000000:=Nat.le_trans (stored_le hl hn) (by decide)
 unfold qnjZ
 refine rf_go good mixed rfl (by kernel_rfl) (all_it b (hA:=wo hB [v3]) (p:=pA) (kw:=kw) (vw:=vw) (Lv:=Lv) (by rw[wo_out (by simpa using Ne.symm nA3)]; exact cA) (x.ext F1) (l1.ext F1) l2.size (by simpa using l2.len))
  (fun l b' i h'=>StoJ hB v3 b i h') (fun _ _ _ _=>False) (fun l b' i s2 h'=>StoC hB F v3 b l i s2 h') ?_ ?_ ?_ (fun _ _ _ _ _ _ _ h _=>h) ?_ ?_ ?_ ?_ ?_ (fun _ _ _ _ _ _ _ h=>h.elim) (fun _ _ _ _ _ _ _ _ h=>h.elim)
 ·intro l b' hl' hb'
  exact⟨fun q o hq=>(wo_get hq).2,by simpa [stoTo,storedB] using c3⟩
 ·intro l b' i h' J; exact J.1
 ·intro l b' hl' hb' i h' h'' J k
  exact⟨wo_keep J.1 hl' k,k _ _ J.2 (fun hh=>by cases hh; rw[hl'] at c3; cases c3)⟩
 ·rintro l b' i s2 ha hb hl' hb' ⟨J,s3,hi,xb,sv,s5,nx,cx,sx⟩ k
  exact⟨⟨wo_keep J.1 hl' k,k _ _ J.2 (fun hh=>by cases hh; rw[hl'] at c3; cases c3)⟩,s3,hi,xb,sv,s5,nx,k _ _ cx (fun hh=>nx (by cases hh; rfl)),sx⟩
 ·intro i hi; simp[allX]
 ·rintro i hi l b' h2 hl' hb' ⟨ol,hol⟩ ⟨ob,hob⟩ J
  rw[qqvZ]
  unfold qmQZ
  rw[zcEnt]
  obtain⟨hib,sv,hx,hsv,hsn⟩:=allX_at l2 hi
  rw[hx]
  have hso:=hsv.one
  simp -implicitDefEqProofs
  refine nw_st rfl (by simp[presC]) (by simp[presC,hso.1]) fun xb h4 n4 e4 c4=>?_
  refine⟨⟨⟨J.1.trans e4,e4 _ _ J.2⟩,by simp,hib,xb,sv,by simp,fun hh=>(by subst hh; rw[hol] at n4; cases n4),?_,hsv⟩,by rw[hol,e4 _ _ hol],by rw[hob,e4 _ _ hob]⟩
  simpa using c4
 ·rintro i hi l b' s2 h3 hl' hb' ⟨ol,hol⟩ ⟨ob,hob⟩ ⟨J,s3,hib,xb,sv,s5,nx,cx,sx⟩
  rw[qqwZ]
  unfold qmRZ
  have cv:=J.2
  have hlen:=sx.len
  simp -implicitDefEqProofs only[presC] at cx
  have hw:IntKind.i64.wrap ((stoTo b i:Int)+b[i].2.ss.length)=(stoTo b (i+1):Nat):=by
   have h1:=stoTo_le (b:=b) (i+1)
   rw[stoTo_s hib] at h1 ⊢
   rw[wrap64_id (by omega) (by omega)]; omega
  have hl3:l≠v3:=fun hh=>by subst hh; rw[hl'] at c3; cases c3
  have hb3:b'≠v3:=fun hh=>by subst hh; rw[hb'] at c3; cases c3
  simp -implicitDefEqProofs[s3,s5,ld_at cv,cel_of cv,stm_at cv,ld_at cx,cel_of cx,stm_at cx,stm_upd,ld_same,cel_same,over,hlen,hw]
  refine⟨by rw[upd_ne hl3],by rw[upd_ne hb3],wo_upd J.1 (by simp),upd_same' _ _ _⟩
 ·intro l b' h' hl' hlb hb' hd J
  have hlx:(allX b Lv).length=b.length:=by simp[allX]
  rw[hlx] at J
  have cv:=J.2
  rw[hsb] at cv
  have nb3:v3≠b':=fun hh=>by subst hh; rw[hb'] at c3; cases c3
  simp -implicitDefEqProofs only[blkM_n,thenM_n]
  simp -implicitDefEqProofs[ld_at cv,cel_of cv,stm_at cv,stm_upd,ld_same,cel_same,over,hd,ld_skip nb3,cel_skip nb3]
  refine hk _ ?_
  exact ext_upd (o:=.deferred none) (fresh_of e0B hb') (ext_wo e0B (by simpa using n3') J.1)
theorem zcStripe:zc P qaiZ=some #[.int .i64 0,.int .u64 0,.int .u64 0,.slice none 0 0,.slice none 0 0,.slice none 0 0,.slice none 0 0,.pointer none]:=by kernel_rfl
theorem hstored_ok {T : Tags} {h : Heap} {g : Tag} {p m : Nat} {H : Hall} (w : Wf T h) (x : HallR T h g p H) (hs : HS m H) (hm : m ≤ 100000) (hk : ∀ h', Ext h h' → K (.int .i64 H.stored) h') : callM P qgTZ #[ptr p] h K := by
  apply qpDZ
  unfold qhyZ
  rw [seqM_eq]
  unfold qkbZ
  obtain ⟨sv, av, Y, x⟩ := x
  have cp := x.hp
  simp -implicitDefEqProofs only [hallC] at cp
  have hlen := x.st.len
  have h8 := hs.n8.2
  have hmm : m * m ≤ 10000000000 := Nat.le_trans (Nat.mul_le_mul hm hm) (by decide)
  have hst : ∀ i, i ≤ H.n → stoH H i ≤ 80000000000 := fun i hi => Nat.le_trans (stoH_le hs i hi) (Nat.le_trans (Nat.mul_le_mul (Nat.le_trans hi h8) hmm) (by decide))
  simp -implicitDefEqProofs [ld_at cp, cel_of cp, stm_at cp, stm_upd, ld_same, cel_same, over, hlen]
  refine loop_on [9, 10] (fun s h' => Ext h h' ∧ ∃ i : Nat, i ≤ H.n ∧ s 11 = .int .i64 i ∧ s 3 = .int .i64 (stoH H i)) (fun s _ => (H.n - num (s 11)).toNat) ⟨Ext.refl h, 0, by omega, rfl, rfl⟩ ?_
  rintro s h1 hf ⟨e1, i, hi, s11, s3⟩
  have s9 : s 9 = sv := by simpa using hf 9 (by simp)
  have s10 : s 10 = .int .i64 H.n := by simpa using hf 10 (by simp)
  unfold qkaZ
  simp -implicitDefEqProofs only [s11, s10, bin_lss, ov_s, cd_b]
  refine ⟨fun hc => ?_, fun hc => ?_⟩
  rotate_left
  · have : i = H.n := by have : ¬ ((i : Int) < H.n) := by simpa using hc
                         omega
    subst this
    simp -implicitDefEqProofs [s3, stoH_all]
    exact hk _ e1
  have hlt : i < H.n := by have : ((i : Int) < H.n) := by simpa using hc
                           omega
  have hw : IntKind.i64.wrap ((i : Int) + 1) = (i + 1 : Nat) := by rw [wrap64_id (by omega) (by omega)]; omega
  have hw2 : IntKind.i64.wrap ((stoH H i : Int) + storedB (H.ss i).book) = (stoH H (i + 1) : Nat) := by
    have h1 := hst (i + 1) (by omega)
    rw [stoH_s] at h1 ⊢
    rw [wrap64_id (by omega) (by omega)]; omega
  have o1 : Only non T h T h1 := Only.of_ext w e1
  have x1 := x.own o1.k
  obtain ⟨b, ob, rb, hb1, tb, ia, l1, l2, l3, l4, l5, l6⟩ := x1.lds (s := i) (k := .i64) hlt
  have hsr := x1.sr i hlt
  have st := hs.st i hlt
  have u1 := hsr.1.1.one
  have u2 := hsr.1.2.1.one
  have u3 := hsr.2.1.1.one
  have u4 := hsr.2.1.2.1.one
  unfold qjZZ
  rw [s9, s11, ia, zcStripe]
  simp -implicitDefEqProofs only [strC] at l6
  simp -implicitDefEqProofs only [ov_s, l6]
  refine nw_st (by simp) (by simp) (by simp [u1.1, u2.1, u3.1, u4.1]) fun yb h2 n2 e2 c2 => ?_
  simp -implicitDefEqProofs only [cells_agg] at c2
  simp -implicitDefEqProofs [ld_at c2, cel_of c2, stm_at c2, stm_upd, ld_same, cel_same, over]
  refine stored_ok _ (by have := st.bk.bl; omega) (fun y hy => by have := st.bk.bn y hy; omega) ((fz_ext T h1).trans e2) hsr.2.1 fun h3 e3 => ?_
  unfold qjYZ
  simp -implicitDefEqProofs [s3, s9, s10, s11, hw, hw2, -Int.natCast_add]
  exact ⟨⟨(e1.trans e2).trans e3, i + 1, by omega, rfl, rfl⟩, by omega⟩
end Go.Proofs.YtcnphhhcknhhaaaGreat
namespace Go.Proofs.YtcnphhhcknhhaaaGreat
open Go Go.Den Go.MapKept
set_option linter.unusedSimpArgs false
set_option linter.unusedVariables false
set_option maxRecDepth 20000
def small:Cfg:=⟨3,2,16,4,1,100,0⟩
theorem bdSmall:bdV (binf P qFZ) [(0,.int .i64 3),(1,.int .i64 2),(2,.int .i64 16),(3,.int .i64 4),(4,.int .i64 1),(5,.int .u64 100)]=some (.agg (cfgC small).toArray):=by kernel_rfl
theorem smallW:CfgW small:=by constructor<;>simp[small,I64,U64]
variable {K:KTy}
theorem small_ok {h:Heap}(hk:∀ h',Ext h h'→K (.agg (cfgC small).toArray) h'):callM P qddZ #[] h K:=by
 apply qoEZ
 unfold qgyZ
 rw[zcCfg,bdSmall]
 simp -implicitDefEqProofs only[nwM_s]
 intro v1 n1
 simp -implicitDefEqProofs[stm_upd,ld_same,cel_same,over,cfgC]
 exact hk _ (Ext.upd n1 _)
end Go.Proofs.YtcnphhhcknhhaaaGreat
namespace Go.Proofs.YtcnphhhcknhhaaaGreat
open Go Go.Den Go.MapKept
set_option linter.unusedSimpArgs false
set_option linter.unusedVariables false
set_option maxRecDepth 20000
theorem g1:Gd [1]:=⟨0,[],rfl⟩
theorem g2:Gd [2]:=⟨1,[],rfl⟩
end Go.Proofs.YtcnphhhcknhhaaaGreat
namespace Go.Proofs.YtcnphhhcknhhaaaGreat
open Go Go.Den Go.MapKept
set_option linter.unusedSimpArgs false
set_option linter.unusedVariables false
set_option maxRecDepth 20000
variable {K:KTy}
theorem now_ok {T:Tags}{h:Heap}{g:Tag}{p:Nat}{H:Hall}(x:HallR T h g p H)(hk:∀ h',Ext h h'→K (.agg (tmC H.t).toArray) h'):callM P qiHZ #[ptr p] h K:=by
 apply qqyZ
 unfold qjXZ
 rw[zcTime]
 refine nw_intro fun v1 h1 n1 e1 c1=>?_
 obtain⟨sv,av,Y,x⟩:=x
 have cp:=e1 _ _ x.hp
 simp -implicitDefEqProofs only[hallC] at cp
 simp -implicitDefEqProofs[ld_at c1,cel_of c1,stm_at c1,ld_at cp,cel_of cp,stm_at cp,stm_upd,ld_same,cel_same,over]
 exact kv (hk _ (ext_upd n1 e1)) (by simp[tmC])
theorem ext_of_only {U:Tag→Prop}{h:Heap}{T':Tags}{h':Heap}(o:Only U (fun _=>[]) h T' h')(u:¬ U []):Ext h h':=by
 have:=(o.ext u).trans (fz_ext _ _)
 rw[fz_nil] at this; exact this
def c2:Cfg:=⟨2,2,16,4,1,100,0⟩
end Go.Proofs.YtcnphhhcknhhaaaGreat
namespace Go.Den
open Go
set_option linter.unusedVariables false
set_option linter.unusedSimpArgs false
theorem TS.init {c:Cfg}(cw:CfgW c)(hr:rightB c=true){n:Nat}(hn:(n:Int)=c.stripes):TS 0 (tbl0 c n):=(HS.new cw hr hn).tbl
end Go.Den
namespace Go.Proofs.YtcnphhhcknhhaaaGreat
open Go Go.Den Go.MapKept
set_option linter.unusedSimpArgs false
set_option linter.unusedVariables false
set_option maxRecDepth 20000
theorem take_eq_succ {α:Type}{xs ys:List α}{i:Nat}(h:xs.take i=ys.take i)(h1:i<xs.length)(h2:i<ys.length)(e:xs[i]=ys[i]):xs.take (i+1)=ys.take (i+1):=by
 rw[List.take_succ_eq_append_getElem h1,List.take_succ_eq_append_getElem h2,h,e]
end Go.Proofs.YtcnphhhcknhhaaaGreat
namespace Go.Proofs.YtcnphhhcknhhaaaGreat
open Go Go.Den Go.MapKept
set_option linter.unusedSimpArgs false
set_option linter.unusedVariables false
set_option maxRecDepth 20000
theorem g3:Gd [3]:=⟨2,[],rfl⟩
end Go.Proofs.YtcnphhhcknhhaaaGreat
namespace Go.Proofs.YtcnphhhcknhhaaaGreat
open Go Go.Den Go.MapKept
set_option linter.unusedSimpArgs false
set_option linter.unusedVariables false
set_option maxRecDepth 20000
def mdC (c:Cfg)(t:Tm)(bv fv:Value):List Value:=[.int .i64 c.stripes,.int .i64 c.sessions,.int .i64 c.queue,.int .i64 c.watches,.int .i64 c.retries,.int .u64 c.epochs,.int .u64 c.start,.int .u64 t.now,.int .u64 t.seq,.bool t.closed,bv,fv]
structure MdX (T:Tags)(h:Heap)(g:Tag)(p:Nat)(M:Tbl)(bv fv:Value)(K V:Nat→Value)(F:Nat→Nat):Prop where
 hp:h p=some (.cells (mdC M.c M.t bv fv).toArray qajZ (0,0))
 tp:T p=g++[0]
 bk:Rw T h (g++[1]) 2 qaZ bv M.n (seqF M.n fun i=>[K i,V i])
 fd:Rw T h (g++[2]) 1 qdJZ fv M.n (seqF M.n fun i=>[ptr (F i)])
 br:∀ s,s<M.n→BookR (fz T h) (K s) (V s) (M.bk s)
 fr:∀ s,s<M.n→FeedR T h (g++[3,s]) (F s) (M.fd s)
def MdR (T:Tags)(h:Heap)(g:Tag)(p:Nat)(M:Tbl):Prop:=∃ bv fv K V F,MdX T h g p M bv fv K V F
theorem MdX.kp {U:Tag→Prop}{T T':Tags}{h h':Heap}{g:Tag}{p:Nat}{M:Tbl}{bv fv:Value}{K V:Nat→Value}{F:Nat→Nat}(x:MdX T h g p M bv fv K V F)(k:Kp U T h T' h')(o:Off U g)(n:¬ U []):MdX T' h' g p M bv fv K V F :=
 ⟨(k.at x.hp x.tp (o.at [0])).1,(k.at x.hp x.tp (o.at [0])).2,x.bk.kp k (o.at [1]),x.fd.kp k (o.at [2]),fun s hs=>(x.br s hs).ext (k.ext n),fun s hs=>(x.fr s hs).kp k (o.app [3,s]) n⟩
theorem MdR.kp {U:Tag→Prop}{T T':Tags}{h h':Heap}{g:Tag}{p:Nat}{M:Tbl}(x:MdR T h g p M)(k:Kp U T h T' h')(o:Off U g)(n:¬ U []):MdR T' h' g p M:=by
 obtain⟨bv,fv,K,V,F,x⟩:=x
 exact⟨bv,fv,K,V,F,x.kp k o n⟩
theorem MdR.up {U:Tag→Prop}{T T':Tags}{h h':Heap}{g:Tag}{p:Nat}{M:Tbl}(x:MdR T h g p M)(k:Only U T h T' h')(o:Off U g)(n:¬ U []):MdR T' h' g p M:=x.kp k.k o n
theorem MdX.st {T:Tags}{h:Heap}{g:Tag}{p:Nat}{M M':Tbl}{bv fv:Value}{K V:Nat→Value}{F:Nat→Nat}(x:MdX T h g p M bv fv K V F)(w:Wf T h)(gg:Gd g){c:Array Value}(hc:c=(mdC M'.c M'.t bv fv).toArray)(h3:M'.n=M.n)(h4:M'.bk=M.bk)(h5:M'.fd=M.fd) :
  Only (fun t=>t=g++[0]) T h T (upd h p (.cells c qajZ (0,0)))∧MdX T (upd h p (.cells c qajZ (0,0))) g p M' bv fv K V F:=by
 have o:Only (fun t=>t=g++[0]) T h T (upd h p (.cells c qajZ (0,0))):=Only.upd w x.hp x.tp
 refine⟨o,by rw[upd_same',hc],x.tp,?_,?_,fun s hs=>?_,fun s hs=>?_⟩
 ·rw[h3]; exact x.bk.kp o.k (ne_tag (by simp))
 ·rw[h3]; exact x.fd.kp o.k (ne_tag (by simp))
 ·rw[h4]; exact (x.br s (by rw[← h3]; exact hs)).ext (o.ext (by simp))
 ·rw[h5]; exact (x.fr s (by rw[← h3]; exact hs)).kp o.k (off_eq (by simp)) (by simp)
theorem MdX.ldb {T:Tags}{h:Heap}{g:Tag}{p:Nat}{M:Tbl}{bv fv:Value}{K V:Nat→Value}{F:Nat→Nat}(x:MdX T h g p M bv fv K V F){s:Nat}(hs:s<M.n):∃ b,rowOf bv=some b∧iaV (some (none,2)) bv (.int .i64 s)=some (.pointer (some ⟨b,s*2,none⟩))∧ldV (some (some 2)) (.pointer (some ⟨b,s*2,none⟩)) h=some (.agg #[K s,V s]):=by
 obtain⟨b,h1,h2⟩:=x.bk.1.ia (k:=.i64) hs
 refine⟨b,h1,h2,?_⟩
 have hc:cels h b (s*2) 2=some [K s,V s]:=by
  rw[x.bk.1.cels h1 (by have:(s+1)*2≤M.n*2:=Nat.mul_le_mul_right _ hs; omega)]
  exact congrArg some (seqF_at (F:=fun i=>[K i,V i]) (fun _ _=>rfl) hs)
 rw[ldV_n hc]
theorem MdX.ldf {T:Tags}{h:Heap}{g:Tag}{p:Nat}{M:Tbl}{bv fv:Value}{K V:Nat→Value}{F:Nat→Nat}(x:MdX T h g p M bv fv K V F){s:Nat}(hs:s<M.n):∃ b,iaV (some (none,1)) fv (.int .i64 s)=some (.pointer (some ⟨b,s,none⟩))∧cel h b s=some (ptr (F s)):=by
 obtain⟨b,h1,h2⟩:=x.fd.1.ia (k:=.i64) hs
 rw[Nat.mul_one] at h2
 refine⟨b,h2,?_⟩
 have hc:cels h b s 1=some [ptr (F s)]:=by
  rw[x.fd.1.cels h1 (by omega)]
  have:=seqF_at (F:=fun i=>[ptr (F i)]) (sz:=1) (n:=M.n) (fun _ _=>rfl) hs
  rw[Nat.mul_one] at this
  exact congrArg some this
 have:=(cels_get hc).2 0 (by simp)
 simpa using this
theorem MdX.stb {T:Tags}{h:Heap}{g:Tag}{p:Nat}{M:Tbl}{bv fv:Value}{K V:Nat→Value}{F:Nat→Nat}(x:MdX T h g p M bv fv K V F)(w:Wf T h){s b:Nat}(hs:s<M.n)(hb:rowOf bv=some b){k v:Value}{B:Book}(hB:BookR (fz T h) k v B){Q:Heap→Prop}
  (hk:∀ h',Only (fun t=>t=g++[1]) T h T h'→MdX T h' g p { M with bk:=bset M.bk s B } bv fv (bset K s k) (bset V s v) F→Q h'):stM (some 2) (.pointer (some ⟨b,s*2,none⟩)) (.agg #[k,v]) h Q:=by
 have tb:=x.bk.2 b hb
 have u1:=hB.1.one
 have u2:=hB.2.1.one
 refine x.bk.1.st hb (m:=2) (by simp) (by have:(s+1)*2≤M.n*2:=Nat.mul_le_mul_right _ hs; omega) (by simp[u1.1,u2.1]) fun h' hk' hrow=>?_
 obtain⟨ob,hob⟩:=x.bk.1.lt b hb
 obtain⟨ob',hob'⟩:=hrow.lt b hb
 have e:h'=upd h b ob':=upd_of hk' hob'
 have o1:Only (fun t=>t=g++[1]) T h T h':=by rw[e]; exact Only.upd w hob tb
 refine hk h' o1 ⟨(o1.k.at x.hp x.tp (ne_tag (by simp))).1,x.tp,⟨?_,x.bk.2⟩,x.fd.kp o1.k (ne_tag (by simp)),fun i hi=>?_,fun i hi=>(x.fr i hi).kp o1.k (off_eq (by simp)) (by simp)⟩
 ·have hsp:=seqF_spl (F:=fun i=>[K i,V i]) (sz:=2) (n:=M.n) (off:=0) (l:=[k,v]) (fun i _=>rfl) hs (by simp)
  rw[Nat.add_zero] at hsp
  have:seqF M.n (fset (fun i=>[K i,V i]) s (spl [K s,V s] 0 [k,v]))=seqF M.n fun i=>[bset K s k i,bset V s v i]:=by
   refine seqF_congr fun i hi=>?_
   simp -implicitDefEqProofs only[fset,bset]
   by_cases his:i=s
   ·subst his; simp[spl]
   ·simp -implicitDefEqProofs[his]
  rw[show (Value.agg #[k,v]).cells.toList=[k,v] from by simp] at hrow
  rw[hsp,this] at hrow
  exact hrow
 ·by_cases his:i=s
  ·subst his
   show BookR _ (bset K i k i) (bset V i v i) (bset M.bk i B i)
   rw[bset_same,bset_same,bset_same]
   exact hB.ext (o1.ext (by simp))
  ·show BookR _ (bset K s k i) (bset V s v i) (bset M.bk s B i)
   rw[bset_ne his,bset_ne his,bset_ne his]
   exact (x.br i hi).ext (o1.ext (by simp))
theorem MdX.fed {T T':Tags}{h h':Heap}{g:Tag}{p:Nat}{M:Tbl}{bv fv:Value}{K V:Nat→Value}{F:Nat→Nat}(x:MdX T h g p M bv fv K V F){s:Nat}{f:Feed}(o:Only (pre (g++[3,s])) T h T' h')(gg:Gd g)(r:FeedR T' h' (g++[3,s]) (F s) f) :
  MdX T' h' g p (M.fed s f) bv fv K V F:=by
 have b:=o.k.at x.hp x.tp (not_pre (by simp))
 have n:¬ pre (g++[3,s]) []:=(gg.app _).nil
 refine⟨b.1,b.2,x.bk.kp o.k (not_pre (by simp)),x.fd.kp o.k (not_pre (by simp)),fun i hi=>(x.br i hi).ext (o.ext n),fun i hi=>?_⟩
 show FeedR T' h' _ _ (bset M.fd s f i)
 by_cases his:i=s
 ·subst his; rw[bset_same]; exact r
 ·rw[bset_ne his]; exact (x.fr i hi).kp o.k (off_pre (by simp; omega) (by simp; omega)) n
section
variable {T:Tags}{h:Heap}{g:Tag}{p m:Nat}{M:Tbl}{K:KTy}
theorem mtime_ok (w:Wf T h)(x:MdR T h g p M)(hk:∀ h',Ext h h'→K (.agg (tmC M.t).toArray) h'):callM P qgVZ #[ptr p] h K:=by
 apply qpFZ
 unfold qhBZ
 rw[zcTime]
 refine nw_intro fun v1 h1 n1 e1 c1=>?_
 obtain⟨bv,fv,Kk,V,F,x⟩:=x
 have cp:=e1 _ _ x.hp
 simp -implicitDefEqProofs only[mdC] at cp
 simp -implicitDefEqProofs[ld_at c1,cel_of c1,stm_at c1,ld_at cp,cel_of cp,stm_at cp,stm_upd,ld_same,cel_same,over]
 exact kv (hk _ (ext_upd n1 e1)) (by simp[tmC])
theorem mstripe_ok (u:ByteArray)(hu:u.size≤maxLen)(x:MdR T h g p M)(hc:M.c.stripes≤8)(hk:K (.int .i64 (stripeOf u M.c.stripes)) h):callM P qatZ #[ptr p,.string u] h K:=by
 apply qoNZ
 unfold qgDZ
 obtain⟨bv,fv,Kk,V,F,x⟩:=x
 have cp:=x.hp
 simp -implicitDefEqProofs only[mdC] at cp
 simp -implicitDefEqProofs[ld_at cp,cel_of cp,stm_at cp,stm_upd,ld_same,cel_same,over]
 exact stripe_ok u _ (by omega) hu hk
theorem mtick_ok (by_:Int)(hb:U64 by_)(w:Wf T h)(gg:Gd g)(x:MdR T h g p M)(ht:U64 M.t.now)(hk:∀ T' h',Only (pre g) T h T' h'→MdR T' h' g p (M.tick by_)→K (.tuple #[]) h'):callM P qgUZ #[ptr p,.int .u64 by_] h K:=by
 apply qpEZ
 unfold qhzZ
 obtain⟨bv,fv,Kk,V,F,x⟩:=x
 have cp:=x.hp
 simp -implicitDefEqProofs only[mdC] at cp
 have hld:ldV (some (some 3)) (.pointer (some ⟨p,7,none⟩)) h=some (.agg (tmC M.t).toArray):=by simp[ld_at cp,tmC]
 simp -implicitDefEqProofs only[ncV_p,faV_p,ov_s,Nat.zero_add,hld]
 refine tickPass_ok M.t ht hb fun h1 e1=>?_
 have o1:Only non T h T h1:=Only.of_ext w e1
 have x1:=x.kp o1.k (Off.non _) (not_non _)
 have cp:=x1.hp
 simp -implicitDefEqProofs only[mdC] at cp
 obtain⟨o2,x2⟩:=x1.st (M':=M.tick by_) o1.wf gg rfl rfl rfl rfl
 simp -implicitDefEqProofs[ld_at cp,cel_of cp,stm_at cp,stm_upd,ld_same,cel_same,over,tmC]
 exact hk T _ ((o1.mono fun _=>non_up _).up o2 fun t=>eq_pre) ⟨bv,fv,Kk,V,F,x2⟩
theorem mtake_ok (w:Wf T h)(gg:Gd g){bv fv:Value}{Kk V:Nat→Value}{F:Nat→Nat}(x:MdX T h g p M bv fv Kk V F)(ht:U64 M.t.seq)(hk:∀ h',Only (fun t=>t=g++[0]) T h T h'→MdX T h' g p M.take bv fv Kk V F→K (.int .u64 M.take.t.seq) h'):callM P qeiZ #[ptr p] h K:=by
 apply qpNZ
 unfold qhCZ
 have cp:=x.hp
 simp -implicitDefEqProofs only[mdC] at cp
 have hld:ldV (some (some 3)) (.pointer (some ⟨p,7,none⟩)) h=some (.agg (tmC M.t).toArray):=by simp[ld_at cp,tmC]
 simp -implicitDefEqProofs only[ncV_p,faV_p,ov_s,Nat.zero_add,hld]
 refine tickTake_ok M.t ht fun h1 e1=>?_
 have o1:Only non T h T h1:=Only.of_ext w e1
 have x1:=x.kp o1.k (Off.non _) (not_non _)
 have cp:=x1.hp
 simp -implicitDefEqProofs only[mdC] at cp
 obtain⟨o2,x2⟩:=x1.st (M':=M.take) o1.wf gg rfl rfl rfl rfl
 simp -implicitDefEqProofs[ld_at cp,cel_of cp,stm_at cp,stm_upd,ld_same,cel_same,over,tmC]
 exact hk _ ((o1.mono non_up).trans o2) x2
theorem mbook_tell {s b:Nat}{bv fv k v cv:Value}{Kk V:Nat→Value}{F:Nat→Nat}(w:Wf T h)(gg:Gd g)(x:MdX T h g p M bv fv Kk V F)(hs:s<M.n)(rb:rowOf bv=some b){B:Book}{l:List Chg}{seq:Int}
  (hb:BookR (fz T h) k v B) (hc:Sl 7 ChgR (fz T h) cv l) (hl:l.length<1000000) (fg:FdG (M.fd s)) {Q:Heap→Prop}
  (hk:∀ h3,Only (fun t=>t=g++[1]) T h T h3→(∃ fb,iaV (some (none,1)) fv (.int .i64 s)=some (.pointer (some ⟨fb,s,none⟩))∧cel h3 fb s=some (ptr (F s)))→h3 p=some (.cells (mdC M.c M.t bv fv).toArray qajZ (0,0))→(∀ K':Value→Heap→Prop,(∀ T' h',Only (pre g) T h T' h'→MdR T' h' g p { M with bk:=bset M.bk s B,fd:=bset M.fd s ((M.fd s).tell l seq) }→K' (.tuple #[]) h')→callM P qakZ #[ptr (F s),cv,.int .u64 seq] h3 K')→Q h3) :
  stM (some 2) (.pointer (some ⟨b,s*2,none⟩)) (.agg #[k,v]) h Q:=by
 refine x.stb w hs rb hb fun h3 o3 x3=>?_
 obtain⟨fb,i1,i2⟩:=x3.ldf (s:=s) hs
 refine hk h3 o3 ⟨fb,i1,i2⟩ x3.hp fun K' hk'=>?_
 have hf:=x3.fr s hs
 refine tell_ok l seq o3.wf (gg.app [3,s]) hf fg (hc.ext (R:=ChgR) (@ChgR.ext) (o3.ext (by simp))) hl fun T4 h4 o4 r4=>?_
 have x4:=x3.fed o4 gg (f:=(M.fd s).tell l seq) r4
 exact hk' T4 h4 ((o3.mono fun t=>eq_pre).up o4 fun t=>pre_trans) ⟨bv,fv,_,_,F,x4⟩
theorem mstored_ok (w : Wf T h) (x : MdR T h g p M) (hs : TS m M) (hm : m ≤ 100000) (hk : ∀ h', Ext h h' → K (.int .i64 M.stored) h') : callM P qfoZ #[ptr p] h K := by
  apply qoHZ
  unfold qgBZ
  rw [seqM_eq]
  unfold qitZ
  obtain ⟨bv, fv, Kk, V, F, x⟩ := x
  have cp := x.hp
  simp -implicitDefEqProofs only [mdC] at cp
  have hlen := x.bk.len
  have h8 : M.n ≤ 8 := by have := hs.nn; have := hs.rt; simp [rightB] at this; omega
  have hmm : m * m ≤ 10000000000 := Nat.le_trans (Nat.mul_le_mul hm hm) (by decide)
  obtain ⟨sto, hsto⟩ : ∃ sto : Nat → Nat, sto = fun i => ((List.range i).map fun s => storedB (M.bk s)).sum := ⟨_, rfl⟩
  have sto_s : ∀ i, sto (i + 1) = sto i + storedB (M.bk i) := fun i => by rw [hsto]; simp only [List.range_succ, List.map_append, List.sum_append]; simp
  have sto_0 : sto 0 = 0 := by rw [hsto]; rfl
  have sto_n : sto M.n = M.stored := by rw [hsto]; rfl
  have hst : ∀ i, i ≤ M.n → sto i ≤ i * 10000000000 := by
    intro i
    induction i with
    | zero => intro _; rw [sto_0]; exact Nat.zero_le _
    | succ i ih =>
      intro hi
      have h1 := ih (by omega)
      have h2 := stored_le (hs.bk i (by omega)).bl (hs.bk i (by omega)).bn
      rw [sto_s, Nat.succ_mul]; omega
  simp -implicitDefEqProofs [ld_at cp, cel_of cp, stm_at cp, stm_upd, ld_same, cel_same, over, hlen]
  refine loop_on [9, 10] (fun s h' => Ext h h' ∧ ∃ i : Nat, i ≤ M.n ∧ s 11 = .int .i64 i ∧ s 3 = .int .i64 (sto i)) (fun s _ => (M.n - num (s 11)).toNat) ⟨Ext.refl h, 0, by omega, rfl, by rw [sto_0]; rfl⟩ ?_
  rintro s h1 hf ⟨e1, i, hi, s11, s3⟩
  have s9 : s 9 = bv := by simpa using hf 9 (by simp)
  have s10 : s 10 = .int .i64 M.n := by simpa using hf 10 (by simp)
  unfold qisZ
  simp -implicitDefEqProofs only [s11, s10, bin_lss, ov_s, cd_b]
  refine ⟨fun hc => ?_, fun hc => ?_⟩
  rotate_left
  · have : i = M.n := by have : ¬ ((i : Int) < M.n) := by simpa using hc
                         omega
    subst this
    simp -implicitDefEqProofs [s3, sto_n]
    exact hk _ e1
  have hlt : i < M.n := by have : ((i : Int) < M.n) := by simpa using hc
                           omega
  have hw : IntKind.i64.wrap ((i : Int) + 1) = (i + 1 : Nat) := by rw [wrap64_id (by omega) (by omega)]; omega
  have hw2 : IntKind.i64.wrap ((sto i : Int) + storedB (M.bk i)) = (sto (i + 1) : Nat) := by
    have h1 := hst (i + 1) (by omega)
    rw [sto_s] at h1 ⊢
    rw [wrap64_id (by omega) (by omega)]; omega
  have o1 : Only non T h T h1 := Only.of_ext w e1
  have x1 := x.kp o1.k (Off.non _) (not_non _)
  obtain ⟨b, rb, ia, l1⟩ := x1.ldb (s := i) hlt
  have hbr := x1.br i hlt
  have st := hs.bk i hlt
  have u1 := hbr.1.one
  have u2 := hbr.2.1.one
  unfold qirZ
  rw [s9, s11, ia, zcMap]
  simp -implicitDefEqProofs only [ov_s, l1]
  refine nw_st (by simp) (by simp) (by simp [u1.1, u2.1]) fun yb h2 n2 e2 c2 => ?_
  simp -implicitDefEqProofs only [cells_agg] at c2
  simp -implicitDefEqProofs [ld_at c2, cel_of c2, stm_at c2, stm_upd, ld_same, cel_same, over]
  refine stored_ok _ (by have := st.bl; omega) (fun y hy => by have := st.bn y hy; omega) ((fz_ext T h1).trans e2) hbr fun h3 e3 => ?_
  unfold qiqZ
  simp -implicitDefEqProofs [s3, s9, s10, s11, hw, hw2, -Int.natCast_add]
  exact ⟨⟨(e1.trans e2).trans e3, i + 1, by omega, rfl, rfl⟩, by omega⟩
end
end Go.Proofs.YtcnphhhcknhhaaaGreat
namespace Go.Proofs.YtcnphhhcknhhaaaGreat
open Go Go.Den Go.MapKept
set_option linter.unusedSimpArgs false
set_option linter.unusedVariables false
set_option maxRecDepth 20000
theorem unSlBook:P.underlying qbHZ=some (.slice qaZ):=by kernel_rfl
theorem apBook:apC P qaZ=some (2,48,2):=by kernel_rfl
theorem bsFeedP:bsI P qaZZ=some (qdJZ,1,#[.pointer none]):=by kernel_rfl
theorem unSlFeedP:P.underlying qaZZ=some (.slice qdJZ):=by kernel_rfl
theorem apFeedP:apC P qdJZ=some (1,8,1):=by kernel_rfl
theorem bdModel (c:Cfg)(n m:Int)(b:Bool)(a:Option Addr)(i j:Nat):bdV (binf P qajZ) [(0,.agg (cfgC c).toArray),(1,.agg #[.int .u64 n,.int .u64 m,.bool b]),(2,.slice a i j)] =
 some (.agg #[.int .i64 c.stripes,.int .i64 c.sessions,.int .i64 c.queue,.int .i64 c.watches,.int .i64 c.retries,.int .u64 c.epochs,.int .u64 c.start,.int .u64 n,.int .u64 m,.bool b,.slice a i j,.slice none 0 0]):=by kernel_rfl
theorem bdTime1 (n:Int):bdV (binf P qpZ) [(0,.int .u64 n)]=some (.agg #[.int .u64 n,.int .u64 0,.bool false]):=by kernel_rfl
theorem made_at (z:Array Value)(n i:Nat)(hi:i<n)(hz:0<z.size):(madeCells z n)[i]?=z[i % z.size]?:=by
 have:i % z.size<z.size:=Nat.mod_lt _ hz
 simp -implicitDefEqProofs[madeCells,hi,this]
theorem made_seq {e:TypeId}{h:Heap}{b n:Nat}(hn:n≤maxLen)(hb:h b=some (.cells (madeCells #[.slice none 0 0,.slice none 0 0] (n*2)) e (0,0))):Row 2 e h (.slice (some ⟨b,0,none⟩) n n) n (seqF n fun _=>[.slice none 0 0,.slice none 0 0]):=by
 have hsz:(madeCells #[Value.slice none 0 0,.slice none 0 0] (n*2)).size=n*2:=by simp[madeCells]
 refine⟨by rw[seqF_len (sz:=2) (fun _ _=>rfl)],.inr ⟨b,n,_,rfl,hb,Nat.le_refl _,hn,by simpa using hsz,?_⟩⟩
 rw[List.take_of_length_le (by simp[hsz])]
 have hl:(seqF n fun _=>[Value.slice none 0 0,.slice none 0 0]).length=n*2:=seqF_len (sz:=2) (fun _ _=>rfl)
 apply List.ext_getElem?
 intro i
 by_cases hi:i<n*2
 ·have h1:=seqF_get (F:=fun _=>[Value.slice none 0 0,.slice none 0 0]) (n:=n) (sz:=2) (fun _ _=>rfl) (i:=i / 2) (j:=i % 2) (by omega) (by omega)
  rw[show i / 2*2+i % 2=i by omega] at h1
  rw[h1,Array.getElem?_toList,made_at _ _ _ hi (by simp)]
  simp -implicitDefEqProofs
 ·rw[List.getElem?_eq_none (by simp[hsz]; omega),List.getElem?_eq_none (by omega)]
def MdNewI (T:Tags)(h:Heap)(g:Tag)(p:Nat)(c:Cfg)(n:Nat)(bv:Value)(v:Value)(h':Heap):Prop :=
 ∃ (T':Tags) (i:Nat) (fv:Value) (F:Nat→Nat),Only (pre g) T h T' h'∧h' p=some (.cells (mdC c ⟨c.start,0,false⟩ bv fv).toArray qajZ (0,0))∧T' p=g++[0] ∧
  Rw T' h' (g++[1]) 2 qaZ bv n (seqF n fun _=>[.slice none 0 0,.slice none 0 0])∧Rw T' h' (g++[2]) 1 qdJZ fv i (seqF i fun k=>[ptr (F k)])∧(∀ k,k<i→FeedR T' h' (g++[3,k]) (F k) (feed0 c.queue))∧i≤n∧v = .int .i64 i
variable {K:KTy}
set_option maxHeartbeats 2000000 in
theorem mnew_ok (c : Cfg) (cw : CfgW c) {T : Tags} {h : Heap} (w : Wf T h) {g : Tag} (gg : Gd g)
    (hk1 : rightB c = true → ∀ T' h' p, Only (pre g) T h T' h' → MdR T' h' g p (tbl0 c c.stripes.toNat) → K (.tuple #[ptr p, .int .i64 0]) h')
    (hk2 : rightB c = false → ∀ h', Ext h h' → K (.tuple #[.pointer none, .int .i64 1]) h') : callM P qmKZ #[.agg (cfgC c).toArray] h K := by
  apply qrbZ
  unfold qnDZ
  refine nw_agg fun v1 h1 n1 e1 c1 => ?_
  have og : ∀ h', h' v1 = some (.cells (cfgC c).toArray qFZ (0, 0)) → ldV (some (some 7)) (ptr v1) h' = some (.agg (cfgC c).toArray) := fun h' hc => by simp [ld_at hc, cfgC]
  have os : ∀ h', h' v1 = some (.cells (cfgC c).toArray qFZ (0, 0)) → cel h' v1 0 = some (.int .i64 c.stripes) ∧ cel h' v1 6 = some (.int .u64 c.start) ∧ cel h' v1 2 = some (.int .i64 c.queue) := fun h' hc => by simp [cel_of hc, cfgC]
  simp -implicitDefEqProofs only [og _ c1, ov_s]
  refine modRight_ok c fun h2 e2 => ?_
  have c1 := e2 _ _ c1
  have e0 := e1.trans e2
  unfold qpgZ
  simp -implicitDefEqProofs only [unV_n, ov_s, cd_b]
  refine ⟨fun hr => hk2 (by simpa using hr) _ e0, fun hr => ?_⟩
  have hr : rightB c = true := by simpa using hr
  have hn : 1 ≤ c.stripes ∧ c.stripes ≤ 8 := by simp [rightB] at hr; omega
  obtain ⟨N, hN⟩ : ∃ N : Nat, c.stripes = N := ⟨c.stripes.toNat, by omega⟩
  have hNt : c.stripes.toNat = N := by omega
  unfold qpfZ
  simp -implicitDefEqProofs [og _ c1, os _ c1, bdTime1, hN]
  refine makeSlice_vv (n := N) unSlBook apBook zcMap (by omega) (by omega) (by unfold maxLen; omega) fun sb h3 n3 e3 c3 => ?_
  have c12 := c1
  have c1 := e3 _ _ c1
  have e0 := e0.trans e3
  have w2 := w.ext (e1.trans e2)
  have o3 : Only (pre g) T h2 (tset T sb (g ++ [1])) h3 := Only.enew _ w2 e3 n3 c3
  have t3 : (tset T sb (g ++ [1])) sb = g ++ [1] := tset_same _ _ _
  have o03 : Only (pre g) T h (tset T sb (g ++ [1])) h3 := ((Only.of_ext (U := non) w (e1.trans e2)).mono non_up).trans o3
  have b1 : h2 v1 = _ ∧ T v1 = [] := ⟨(show h2 v1 = some (.cells (cfgC c).toArray qFZ (0, 0)) from by
    exact c12), w v1 n1⟩
  have c1 := c1
  generalize tset T sb (g ++ [1]) = T3 at *
  unfold qpeZ
  simp -implicitDefEqProofs [og _ c1, os _ c1]
  rw [bdModel]
  simp -implicitDefEqProofs
  refine nw_tag o3.wf (g ++ [0]) fun p T4 h4 n4 o4 t4 c4 => ?_
  have b3 : h3 sb = _ ∧ T3 sb = g ++ [1] := ⟨c3, t3⟩
  have b3 := o4.see b3 (not_non _)
  have b1 : h3 v1 = _ ∧ T3 v1 = [] := ⟨c1, (o3.k.at c12 (w v1 n1) gg.nil).2⟩
  have b1 := o4.see b1 (not_non _)
  have c1 := b1.1
  rw [seqM_eq]
  unfold qpdZ
  simp -implicitDefEqProofs [os _ c1, hN]
  have hbv : Rw T4 h4 (g ++ [1]) 2 qaZ (.slice (some ⟨sb, 0, none⟩) N N) N (seqF N fun _ => [.slice none 0 0, .slice none 0 0]) := ⟨made_seq (by unfold maxLen; omega) b3.1, fun b hb => by simp [rowOf] at hb; subst hb; exact b3.2⟩
  refine loop_on [1, 4, 18] (fun s h' => MdNewI T4 h4 g p c N (.slice (some ⟨sb, 0, none⟩) N N) (s 19) h') (fun s _ => (N - num (s 19)).toNat) ⟨T4, 0, .slice none 0 0, fun _ => 0, Only.refl o4.wf, by simpa [mdC] using c4, t4, hbv, Rw.nil _ _ _ _ _, fun k hk => by omega, by omega, rfl⟩ ?_
  rintro s h5 hf ⟨T5, i, fv, F, o5, cp, tp, rb, rf, fr, hi, s19⟩
  have s1 : s 1 = ptr v1 := by simpa using hf 1 (by simp)
  have s4 : s 4 = ptr p := by simpa using hf 4 (by simp)
  have s18 : s 18 = .int .i64 N := by simpa using hf 18 (by simp)
  have b1 := o5.see b1 gg.nil
  have c1 := b1.1
  unfold qpcZ
  simp -implicitDefEqProofs only [s19, s18, bin_lss, ov_s, cd_b]
  refine ⟨fun hc => ?_, fun hc => ?_⟩
  rotate_left
  · have : i = N := by have : ¬ ((i : Int) < N) := by simpa using hc
                       omega
    subst this
    simp -implicitDefEqProofs [s4]
    refine hk1 hr T5 h5 p (((o03.trans (o4.mono non_up)).trans o5)) ⟨.slice (some ⟨sb, 0, none⟩) i i, fv, fun _ => .slice none 0 0, fun _ => .slice none 0 0, F, ?_⟩
    rw [hNt]
    exact ⟨cp, tp, rb, rf, fun s hs => BookR.nil _, fun s hs => fr s hs⟩
  have hlt : i < N := by have : ((i : Int) < N) := by simpa using hc
                         omega
  simp -implicitDefEqProofs only [mdC] at cp
  have bp : h5 p = _ ∧ T5 p = _ := ⟨cp, tp⟩
  unfold qpbZ
  simp -implicitDefEqProofs [s1, s4, ld_at cp, cel_of cp, stm_at cp, stm_upd, ld_same, cel_same, over, os _ c1]
  refine feedNew_ok _ o5.wf (gg.app [3, i]) fun T6 h6 fp o6 r6 => ?_
  have bp := o6.see bp (not_pre (by simp))
  have cp := bp.1
  unfold qpaZ
  simp -implicitDefEqProofs [ld_at cp, cel_of cp, stm_at cp, stm_upd, ld_same, cel_same, over]
  refine bs_one bsFeedP (by simp) (by omega) fun nb h7 n7 e7 c7 => ?_
  have o7 : Only non T6 h6 T6 h7 := Only.of_ext o6.wf e7
  have bp := o7.see bp (not_non _)
  have cp := bp.1
  have r7 := r6.kp o7.k (Off.non _) (not_non _)
  refine ⟨by simp [ld_at cp, cel_of cp, stm_at cp, stm_upd, ld_same, cel_same, over], ?_⟩
  have rf7 := (rf.kp o6.k (not_pre (by simp))).kp o7.k (not_non _)
  have rb7 := (rb.kp o6.k (not_pre (by simp))).kp o7.k (not_non _)
  refine Rw.app1 (m := 1) (news := _) unSlFeedP apFeedP (by omega) o7.wf rf7 (cels_one c7 (by simp)) (by simp) (by unfold maxLen; omega) (by omega) fun fv' T8 h8 o8 rf8 => ?_
  have bp := o8.see bp (ne_tag (by simp))
  have cp := bp.1
  have ho := rf8.one
  have hw : IntKind.i64.wrap ((i : Int) + 1) = i + 1 := wrap64_id (by omega) (by omega)
  simp -implicitDefEqProofs [ld_at cp, cel_of cp, stm_at cp, stm_upd, ld_same, cel_same, over, ho.1, ho.2, s18, s19, s1, s4, hw]
  refine ⟨?_, by omega⟩
  have o9 := fun o' => Only.upd (U := fun t => t = g ++ [0]) (o' := o') o8.wf bp.1 bp.2
  have f9 := (o9 (.cells (mdC c ⟨c.start, 0, false⟩ (.slice (some ⟨sb, 0, none⟩) N N) fv').toArray qajZ (0, 0))).k
  have a8 : ∀ k, Off (fun t => t = g ++ [2]) (g ++ [3, k]) := fun k => off_eq (by simp)
  have a9 : ∀ k, Off (fun t => t = g ++ [0]) (g ++ [3, k]) := fun k => off_eq (by simp)
  refine ⟨T8, i + 1, fv', fun k => if k = i then fp else F k, (((o5.up o6 fun t => pre_trans).up o7 non_up).up o8 fun t e => e ▸ pre_app _ _).up (o9 _) fun t e => e ▸ pre_app _ _, upd_same' _ _ _, bp.2, (rb7.kp o8.k (ne_tag (by simp))).kp f9 (ne_tag (by simp)), ?_, fun k hk => ?_, by omega, by simp⟩
  · have := rf8.kp f9 (ne_tag (by simp))
    rw [seqF_succ]
    have e1 : seqF i (fun k => [ptr (if k = i then fp else F k)]) = seqF i fun k => [ptr (F k)] := seqF_congr fun k hk => by rw [if_neg (by omega)]
    have e2 : (fun k => if k = i then fp else F k) i = fp := if_pos rfl
    rw [e1, e2]
    simpa [mdC] using this
  · by_cases hki : k = i
    · subst hki
      simp -implicitDefEqProofs only [if_true]
      exact (r7.kp o8.k (a8 _) (by simp)).kp f9 (a9 _) (by simp)
    · simp -implicitDefEqProofs only [if_neg hki]
      exact ((((fr k (by omega)).kp o6.k (off_pre (by simp; omega) (by simp; omega)) ((gg.app _).nil)).kp o7.k (Off.non _) (not_non _)).kp o8.k (a8 _) (by simp)).kp f9 (a9 _) (by simp)
theorem tgRep86:tagg P 86=some (some 4):=by kernel_rfl
set_option maxHeartbeats 4000000 in
theorem mwrite_ok (o:OpD)(ow:OpW o){uv:Value}(ou:One uv){T:Tags}{h:Heap}{g:Tag}{p m:Nat}{M:Tbl}(w:Wf T h)(gg:Gd g)(x:MdR T h g p M)(hs:TS m M)(hm:m<100000)
  (hk:∀ T' h',Only (pre g) T h T' h'→MdR T' h' g p (M.write o).1→K (.agg (repC (M.write o).2.err).toArray) h'):callM P qgsZ #[ptr p,.agg (opC o uv).toArray] h K:=by
 have n8:1≤M.c.stripes∧M.c.stripes≤8:=by have:=hs.rt; simp[rightB] at this; omega
 have nn:=hs.nn
 apply qprZ
 unfold qheZ
 refine nw_agg fun v1 h0 n0 e0 c0=>?_
 have w0:=w.ext e0
 rw[zcRep]
 refine nw_tag w0 lc fun v3 T1 h1 n1 o1 t3 c3=>?_
 have o01:Only non T h T1 h1:=(Only.of_ext (U:=non) w e0).trans o1
 have b0:h0 v1=_∧T v1=[]:=⟨c0,w v1 n0⟩
 have b0:=o1.see b0 (not_non _)
 have b3:h1 v3=_∧T1 v3=lc:=⟨c3,t3⟩
 obtain⟨bv,fv,Kk,V,F,x1⟩:=x.up o01 (Off.non _) (not_non _)
 refine mtake_ok o1.wf gg x1 hs.ts fun h2 o2 x2=>?_
 have b0:=o2.see b0 (by simp)
 have b3:=o2.see b3 (lc_ne g gg [0])
 have oh:Only (pre g) T h T1 h2:=(o01.mono non_up).up o2 fun _=>eq_pre
 have cp:=x2.hp
 simp -implicitDefEqProofs only[mdC] at cp
 have c3':=b3.1
 have n3:h v3=none:=by
  cases hh:h v3 with
  | none=>rfl
  | some ob=>rw[e0 _ _ hh] at n1; cases n1
 unfold qjwZ
 cases htc:M.t.closed with
 | true =>
  have e:M.write o=(M.take,repE 5):=by simp[Tbl.write,htc]
  rw[e] at hk
  have htc':M.take.t.closed=true:=htc
  rw[htc'] at cp
  simp -implicitDefEqProofs[ld_at cp,cel_of cp,stm_at cp,stm_upd,ld_same,cel_same,over]
  unfold qjpZ
  rw[bdRepE]
  simp -implicitDefEqProofs[ld_at c3',cel_of c3',stm_at c3',stm_upd,ld_same,cel_same,over]
  have x3:MdR T1 (upd h2 v3 (.cells #[.int .i64 5,.slice none 0 0,.slice none 0 0,.bool false] qcZ (0,0))) g p M.take:=⟨bv,fv,Kk,V,F,x2.kp (Only.lst o2.wf b3).k gg.off (by simp)⟩
  exact hk T1 _ (oh.own n3 b3.1) x3
 | false =>
 obtain⟨s,hs'⟩:∃ s:Nat,M.stripe o.user=s:=⟨_,rfl⟩
 have hst:=stripeOf_lt (u:=o.user) (n:=M.c.stripes) n8.1
 have hsn:s<M.n:=by rw[← hs']; unfold Tbl.stripe; omega
 have hse:stripeOf o.user M.c.stripes=(s:Int):=by rw[← hs']; unfold Tbl.stripe; omega
 obtain⟨r,hr⟩:∃ r,writeB (M.bk s) o M.t.now M.c.sessions=r:=⟨_,rfl⟩
 have e:M.write o=({ M.take with bk:=bset M.bk s r.1,fd:=bset M.fd s ((M.fd s).tell r.2.1 M.take.t.seq) },repE r.2.2):=by
  simp -implicitDefEqProofs only[Tbl.write,htc,Bool.false_eq_true,if_false,hs',Tbl.writeAt,← hr]
  rfl
 rw[e] at hk
 have htc':M.take.t.closed=false:=htc
 rw[htc'] at cp
 simp -implicitDefEqProofs[ld_at cp,cel_of cp,stm_at cp,stm_upd,ld_same,cel_same,over]
 unfold qjvZ
 have c0':=b0.1
 have c0u:cel h2 v1 1=some (.string o.user):=by simp[cel_of c0',opC]
 simp -implicitDefEqProofs[c0u]
 refine mstripe_ok o.user ow.s1 ⟨bv,fv,Kk,V,F,x2⟩ n8.2 ?_
 rw[show M.take.c.stripes=M.c.stripes from rfl,hse]
 unfold qjuZ
 rw[seqM_eq]
 unfold qjtZ
 obtain⟨b,rb,ia,l1⟩:=x2.ldb (s:=s) hsn
 have hbr:=x2.br s hsn
 have hlen:r.2.1.length≤1:=by rw[← hr]; exact settle_chg _ _ _ _
 have bm:=hs.bk s hsn
 have fg:=(hs.fd s hsn).g hm
 have oa:ldV (some (some 7)) (ptr v1) h2=some (.agg (opC o uv).toArray):=by simp[ld_at c0',opC]
 have fin:∀ (h5:Heap) (s6:Env) (k v cv:Value) (vb:Nat),Ext h2 h5→BookR (fz T1 h5) k v r.1→Sl 7 ChgR (fz T1 h5) cv r.2.1→h5 vb=some (.cells #[k,v] qaZ (0,0))→s6 0=ptr p→s6 4=ptr v3→s6 5 = .int .u64 M.take.t.seq→s6 6 = .int .i64 s→s6 7=ptr vb→s6 8=cv→s6 9 = .int .i64 r.2.2→qfrZ s6 h5 K []:=by
  intro h5 s6 k v cv vb e5 hb hc cvb s0 s4 s5 s6' s7 s8 s9
  have o5:Only non T1 h2 T1 h5:=Only.of_ext o2.wf e5
  have x5:=x2.kp o5.k (Off.non _) (not_non _)
  have b35:=o5.see b3 (not_non _)
  have cp5:=x5.hp
  simp -implicitDefEqProofs only[mdC] at cp5
  unfold qfrZ
  simp -implicitDefEqProofs[s0,s7,s6',ld_at cp5,cel_of cp5,stm_at cp5,ld_at cvb,cel_of cvb,stm_at cvb,stm_upd,ld_same,cel_same,over,ia]
  refine mbook_tell (seq:=M.take.t.seq) o5.wf gg x5 hsn rb hb hc (by omega) fg fun h6 o6 ⟨fb,f1,f2⟩ cp6 hT=>?_
  have b36:=o6.see b35 (lc_ne g gg [1])
  simp -implicitDefEqProofs only[mdC] at cp6
  simp -implicitDefEqProofs[ld_at cp6,cel_of cp6,stm_at cp6,stm_upd,ld_same,cel_same,over,f1,f2,s0,s6',s8,s5]
  refine hT _ fun T7 h7 o7 x7=>?_
  have ne3:¬ pre g lc:=fun hh=>gg.off lc hh rfl
  have b37:=o7.see b35 ne3
  have c37:=b37.1
  unfold qiwZ
  simp -implicitDefEqProofs[s9,bdRepE,s4,ld_at c37,cel_of c37,stm_at c37,stm_upd,ld_same,cel_same,over,tgRep86]
  have o27:Only (pre g) T h T7 h7:=(oh.up o5 non_up).trans o7
  refine hk T7 _ (o27.own n3 b37.1) (x7.kp (Only.lst o7.wf b37).k gg.off (by simp))
 have ht0:M.take.t.now=M.t.now:=rfl
 have c0s:M.take.c.sessions=M.c.sessions:=rfl
 simp -implicitDefEqProofs[ld_at cp,cel_of cp,stm_at cp,stm_upd,ld_same,cel_same,over,ia,l1,oa,ht0,c0s]
 refine⟨?_,?_⟩
 ·unfold qjrZ
  refine bwrite_ok _ bm.bw o ow ou hs.tn M.c.sessions o2.wf hbr (by have:=bm.bl; omega) ?_ fun h5 k v cv e5 hb hc=>?_
  ·have:=bm.ent o.user
   show (entOf (M.bk s) o.user).ss.length<_
   omega
  have hb:BookR (fz T1 h5) k v r.1:=by rw[← hr]; exact hb
  have hc:Sl 7 ChgR (fz T1 h5) cv r.2.1:=by rw[← hr]; exact hc
  have hrr:(writeB (M.take.bk s) o M.t.now M.c.sessions).2.2=r.2.2:=by rw[← hr]; rfl
  unfold qjqZ
  have p1:=hb.1.one
  have p2:=hb.2.1.one
  simp -implicitDefEqProofs only[exV_0,exV_1,exV_2,ov_s,zcMap,hrr]
  refine nw_st (by simp) (by simp) (by simp[p1.1,p2.1]) fun vb h6 n6 e6 c6=>?_
  simp -implicitDefEqProofs only[cells_agg] at c6
  try simp only[thenM_n]
  refine fin h6 _ k v cv vb (e5.trans e6) (hb.ext (fz_of_ext e6)) (hc.ext (R:=ChgR) (@ChgR.ext) (fz_of_ext e6)) c6 ?_ ?_ ?_ ?_ ?_ ?_ ?_<;>simp[hr]
 ·unfold qjsZ
  rw[zcMap]
  refine nw_intro fun vb h5 n5 e5 c5=>?_
  have o5:Only non T1 h2 T1 h5:=Only.of_ext o2.wf e5
  have x5:=x2.kp o5.k (Off.non _) (not_non _)
  obtain⟨b',rb',ia',l1'⟩:=x5.ldb (s:=s) hsn
  have hbb:b'=b:=by rw[rb] at rb'; cases rb'; rfl
  subst hbb
  have c1:=e5 _ _ c0'
  have cp:=x5.hp
  simp -implicitDefEqProofs only[mdC] at cp
  have oa:ldV (some (some 7)) (ptr v1) h5=some (.agg (opC o uv).toArray):=by simp[ld_at c1,opC]
  refine⟨by simp[ld_at cp,cel_of cp,stm_at cp,stm_upd,ld_same,cel_same,over],l1',oa,by simp[ld_at cp,cel_of cp,stm_at cp,stm_upd,ld_same,cel_same,over,ht0],by simp[ld_at cp,cel_of cp,stm_at cp,stm_upd,ld_same,cel_same,over,c0s],?_⟩
  have wt:Wf (tset T1 vb lc) h5:=wf_loc o5.wf c5
  refine bwrite_ok _ bm.bw o ow ou hs.tn M.c.sessions wt (hbr.ext (fz_in n5 e5)) (by have:=bm.bl; omega) ?_ fun h6 k v cv e6 hb hc=>?_
  ·have:=bm.ent o.user
   show (entOf (M.bk s) o.user).ss.length<_
   omega
  have hb:BookR (fz (tset T1 vb lc) h6) k v r.1:=by rw[← hr]; exact hb
  have hc:Sl 7 ChgR (fz (tset T1 vb lc) h6) cv r.2.1:=by rw[← hr]; exact hc
  have hrr:(writeB (M.take.bk s) o M.t.now M.c.sessions).2.2=r.2.2:=by rw[← hr]; rfl
  have p1:=hb.1.one
  have p2:=hb.2.1.one
  have c6:=e6 _ _ c5
  try simp only[hrr]
  simp -implicitDefEqProofs[ld_at c6,cel_of c6,stm_at c6,stm_upd,ld_same,cel_same,over,p1.1,p2.1]
  try simp only[thenM_n]
  refine fin _ _ k v cv vb (ext_upd n5 (e5.trans e6)) (hb.ext fz_loc) (hc.ext (R:=ChgR) (@ChgR.ext) fz_loc) (upd_same' _ _ _) ?_ ?_ ?_ ?_ ?_ ?_ ?_<;>simp[hr]
end Go.Proofs.YtcnphhhcknhhaaaGreat
namespace Go.Proofs.YtcnphhhcknhhaaaGreat
open Go Go.Den Go.MapKept
set_option linter.unusedSimpArgs false
set_option linter.unusedVariables false
set_option maxRecDepth 20000
theorem evNe (p q:Evt){x y:Operand}{K:Value→Prop}:pvM P (do eqGuard .neq quZ x y (.agg (evC p).toArray) (.agg (evC q).toArray); binOp .neq quZ (.agg (evC p).toArray) (.agg (evC q).toArray)) K=K (.bool (!decide (p=q))):=by
 simp -implicitDefEqProofs only[evC,presC,List.cons_append,List.nil_append]
 rw[pv_neq (d:=5) (b:=(p.user.toList == q.user.toList) && (((p.old.st == q.old.st) && ((p.old.pr == q.old.pr) && ((p.old.lv == q.old.lv) && true))) && (((p.new.st == q.new.st) && ((p.new.pr == q.new.pr) && ((p.new.lv == q.new.lv) && true))) && ((p.seq == q.seq) && true)))) (by kernel_rfl) (by omega) (by kernel_rfl)]
 have:((p.user.toList == q.user.toList) && (((p.old.st == q.old.st) && ((p.old.pr == q.old.pr) && ((p.old.lv == q.old.lv) && true))) && (((p.new.st == q.new.st) && ((p.new.pr == q.new.pr) && ((p.new.lv == q.new.lv) && true))) && ((p.seq == q.seq) && true))))=decide (p=q):=by
  rw[str_beq,Bool.eq_iff_iff]
  obtain⟨u,⟨a,b,c⟩,⟨d,e,f⟩,s⟩:=p
  obtain⟨u',⟨a',b',c'⟩,⟨d',e',f'⟩,s'⟩:=q
  simp -implicitDefEqProofs[and_assoc]
 rw[this]
theorem ev_ld {F:Heap}{v:Value}{l:List Evt}(x:Sl 8 EvR F v l){i:Nat}(hi:i<l.length){k:IntKind}:∃ b p,iaV (some (none,8)) v (.int k i)=some (.pointer (some ⟨b,p,none⟩))∧∀ h',Ext F h'→cels h' b p 8=some (evC l[i]):=by
 obtain⟨b,p,c,h1,h2,h3⟩:=x.at (k:=k) (i:=i) (by omega) (by omega)
 refine⟨b,p,h1,fun h' e=>?_⟩
 have hc:c=evC l[i]:=h3
 subst hc
 exact cels_ext e h2
theorem pres_ld {F:Heap}{v:Value}{l:List Pres}(x:Sl 3 PresR F v l){i:Nat}(hi:i<l.length){k:IntKind}:∃ b p,iaV (some (none,3)) v (.int k i)=some (.pointer (some ⟨b,p,none⟩))∧∀ h',Ext F h'→cels h' b p 3=some (presC l[i]):=by
 obtain⟨b,p,c,h1,h2,h3⟩:=x.at (k:=k) (i:=i) (by omega) (by omega)
 refine⟨b,p,h1,fun h' e=>?_⟩
 have hc:c=presC l[i]:=h3
 subst hc
 exact cels_ext e h2
variable {K:KTy}
set_option maxHeartbeats 1000000 in
theorem evSame_ok (xs ys : List Evt) {h : Heap} {v u : Value} (x : Sl 8 EvR h v xs) (y : Sl 8 EvR h u ys) (hl : xs.length < 1000000) (hk : K (.bool (decide (xs = ys))) h) : callM P qgrZ #[v, u] h K := by
  apply qpqZ
  unfold qhdZ
  have lx := x.len
  have ly := y.len
  by_cases hlen : xs.length = ys.length
  rotate_left
  · have hne : xs ≠ ys := fun e => hlen (by rw [e])
    have hi : ¬ (xs.length : Int) = ys.length := by omega
    simp -implicitDefEqProofs [lx, ly, hi]
    rw [decide_eq_false hne] at hk; exact hk
  · have hi : (xs.length : Int) = ys.length := by omega
    simp -implicitDefEqProofs [lx, ly, hi]
    unfold qjoZ
    rw [seqM_eq]
    unfold qjnZ
    refine loop_on [0, 1, 4] (fun s h' => h' = h ∧ ∃ i : Nat, i ≤ xs.length ∧ s 5 = .int .i64 i ∧ xs.take i = ys.take i) (fun s _ => (xs.length - num (s 5)).toNat) ⟨rfl, 0, by omega, rfl, by simp⟩ ?_
    rintro s h1 hf ⟨rfl, i, hi, s5, hT⟩
    have s0 : s 0 = v := by simpa using hf 0 (by simp)
    have s1 : s 1 = u := by simpa using hf 1 (by simp)
    have s4 : s 4 = .bool false := by simpa using hf 4 (by simp)
    unfold qjmZ
    simp -implicitDefEqProofs only [s5, s0, lx, bin_lss, ov_s, cd_b]
    refine ⟨fun hc => ?_, fun hc => ?_⟩
    · have hlt : i < xs.length := by have : ((i : Int) < xs.length) := by simpa using hc
                                     omega
      have hly : i < ys.length := by omega
      have hw : IntKind.i64.wrap ((i : Int) + 1) = (i + 1 : Nat) := by rw [wrap64_id (by omega) (by omega)]; omega
      obtain ⟨b, p, i1, i2⟩ := ev_ld x (k := .i64) hlt
      obtain ⟨b', p', j1, j2⟩ := ev_ld y (k := .i64) hly
      unfold qjlZ
      simp -implicitDefEqProofs only [s0, s1, s5, i1, j1, ov_s, ldV_n (i2 _ (Ext.refl _)), ldV_n (j2 _ (Ext.refl _)), evNe, cd_b]
      refine ⟨fun hd => ?_, fun hd => ?_⟩
      · have hne : xs[i] ≠ ys[i] := by simpa using hd
        have hne' : xs ≠ ys := fun e => hne (by subst e; rfl)
        unfold qjjZ
        simp -implicitDefEqProofs [s4]
        rw [decide_eq_false hne'] at hk; exact hk
      · have he : xs[i] = ys[i] := by simpa using hd
        unfold qjkZ
        simp -implicitDefEqProofs [s0, s1, s4, s5, hw, -Int.natCast_add]
        exact ⟨⟨i + 1, by omega, rfl, take_eq_succ hT hlt hly he⟩, by omega⟩
    · have : i = xs.length := by have : ¬ ((i : Int) < xs.length) := by simpa using hc
                                 omega
      subst this
      have he : xs = ys := by
        rw [List.take_of_length_le (Nat.le_refl _), List.take_of_length_le (by omega)] at hT; exact hT
      simp -implicitDefEqProofs
      rw [decide_eq_true he] at hk; exact hk
deriving instance DecidableEq for Reply
def rplC (r:Reply)(vv ev:Value):List Value:=[.int .i64 r.err,vv,ev,.bool r.lost]
structure RpX (h:Heap)(r:Reply)(vv ev:Value):Prop where
 v:Sl 3 PresR h vv r.vals
 e:Sl 8 EvR h ev r.evs
theorem RpX.ext {h h':Heap}{r:Reply}{vv ev:Value}(x:RpX h r vv ev)(e:Ext h h'):RpX h' r vv ev:=⟨x.v.ext (@PresR.ext) e,x.e.ext (@EvR.ext) e⟩
theorem RpX.no (h:Heap){r:Reply}(h1:r.vals=[])(h2:r.evs=[]):RpX h r (.slice none 0 0) (.slice none 0 0):=⟨.inl ⟨h1,_,_,rfl⟩,.inl ⟨h2,_,_,rfl⟩⟩
theorem rep_eq (a b:Reply):a=b↔a.err=b.err∧a.lost=b.lost∧a.vals=b.vals∧a.evs=b.evs:=by
 cases a; cases b; simp only[Reply.mk.injEq]; constructor<;>(rintro⟨h1,h2,h3,h4⟩; exact⟨h1,by assumption,by assumption,by assumption⟩)
set_option maxHeartbeats 4000000 in
theorem repSame_ok (a b:Reply){h:Heap}{va ea vb eb:Value}(x:RpX h a va ea)(y:RpX h b vb eb)(h1:a.vals.length<1000000)(h2:a.evs.length<1000000)(hk:∀ h',Ext h h'→K (.bool (decide (a=b))) h'):callM P qgpZ #[.agg (rplC a va ea).toArray,.agg (rplC b vb eb).toArray] h K:=by
 apply qpnZ
 unfold qgXZ
 refine nw_agg fun v1 g1 n1 e1 c1=>?_
 refine nw_agg fun v3 g3 n3 e3 c3=>?_
 have c1:=e3 _ _ c1
 have e0:=e1.trans e3
 have lx:=x.v.len
 have ly:=y.v.len
 have lex:=x.e.len
 have ley:=y.e.len
 have c1:g3 v1=some (.cells #[.int .i64 a.err,va,ea,.bool a.lost] qcZ (0,0)):=c1
 have c3:g3 v3=some (.cells #[.int .i64 b.err,vb,eb,.bool b.lost] qcZ (0,0)):=c3
 have ne:a≠b↔¬ (a.err=b.err∧a.lost=b.lost∧a.vals=b.vals∧a.evs=b.evs):=not_congr (rep_eq a b)
 by_cases q1:a.err=b.err
 rotate_left
 ·have:a≠b:=ne.2 fun hh=>q1 hh.1
  simp -implicitDefEqProofs[ld_at c1,cel_of c1,stm_at c1,ld_at c3,cel_of c3,stm_at c3,stm_upd,ld_same,cel_same,over,q1]
  exact kb (hk _ e0) (by simp[this])
 by_cases q2:a.lost=b.lost
 rotate_left
 ·have:a≠b:=ne.2 fun hh=>q2 hh.2.1
  have hbq:(a.lost == b.lost)=false:=by simpa using q2
  simp -implicitDefEqProofs[ld_at c1,cel_of c1,stm_at c1,ld_at c3,cel_of c3,stm_at c3,stm_upd,ld_same,cel_same,over,q1,hbq]
  exact kb (hk _ e0) (by simp[this])
 by_cases q3:a.vals.length=b.vals.length
 rotate_left
 ·have:a≠b:=ne.2 fun hh=>q3 (by rw[hh.2.2.1])
  have q3':¬ (a.vals.length:Int)=b.vals.length:=by omega
  simp -implicitDefEqProofs[ld_at c1,cel_of c1,stm_at c1,ld_at c3,cel_of c3,stm_at c3,stm_upd,ld_same,cel_same,over,q1,q2,lx,ly,q3']
  exact kb (hk _ e0) (by simp[this])
 simp -implicitDefEqProofs[ld_at c1,cel_of c1,stm_at c1,ld_at c3,cel_of c3,stm_at c3,stm_upd,ld_same,cel_same,over,q1,q2,lx,ly,q3]
 refine evSame_ok a.evs b.evs (x.e.ext (@EvR.ext) e0) (y.e.ext (@EvR.ext) e0) h2 ?_
 by_cases q4:a.evs=b.evs
 rotate_left
 ·have:a≠b:=ne.2 fun hh=>q4 hh.2.2.2
  simp -implicitDefEqProofs[q4]
  exact kb (hk _ e0) (by simp[this])
 simp -implicitDefEqProofs[q4]
 unfold qjbZ
 rw[seqM_eq]
 unfold qjaZ
 have hab:a=b↔a.vals=b.vals:=⟨fun e=>by rw[e],fun e=>(rep_eq a b).2 ⟨q1,q2,e,q4⟩⟩
 refine loop_on [2,3,4] (fun s h'=>h'=g3∧∃ i:Nat,i≤a.vals.length∧s 5 = .int .i64 i∧a.vals.take i=b.vals.take i) (fun s _=>(a.vals.length-num (s 5)).toNat) ⟨rfl,0,by omega,rfl,by simp⟩ ?_
 rintro s h3 hf ⟨rfl,i,hi,s5,hT⟩
 have s2:s 2=ptr v1:=by simpa using hf 2 (by simp)
 have s3:s 3=ptr v3:=by simpa using hf 3 (by simp)
 have s4:s 4 = .bool false:=by simpa using hf 4 (by simp)
 unfold qiZZ
 by_cases hlt:i<a.vals.length
 ·have hlt':(i:Int)<a.vals.length:=by omega
  have hly:i<b.vals.length:=by omega
  have hw:IntKind.i64.wrap ((i:Int)+1)=(i+1:Nat):=by rw[wrap64_id (by omega) (by omega)]; omega
  obtain⟨p1,p2,i1,i2⟩:=pres_ld x.v (k:=.i64) hlt
  obtain⟨p1',p2',j1,j2⟩:=pres_ld y.v (k:=.i64) hly
  simp -implicitDefEqProofs[s2,s5,ld_at c1,cel_of c1,stm_at c1,stm_upd,ld_same,cel_same,over,lx,hlt']
  unfold qiYZ
  simp -implicitDefEqProofs[s2,s3,s5,ld_at c1,cel_of c1,stm_at c1,ld_at c3,cel_of c3,stm_at c3,stm_upd,ld_same,cel_same,over,i1,j1,ldV_n (i2 _ e0),ldV_n (j2 _ e0)]
  simp -implicitDefEqProofs only[presC,presNe]
  by_cases he:a.vals[i]=b.vals[i]
  ·simp -implicitDefEqProofs[he]
   unfold qiXZ
   simp -implicitDefEqProofs[s2,s3,s4,s5,hw,-Int.natCast_add]
   exact⟨⟨i+1,by omega,rfl,take_eq_succ hT hlt hly he⟩,by omega⟩
  ·have:a≠b:=fun e=>he (by simp only[e])
   simp -implicitDefEqProofs[he]
   unfold qiWZ
   simp -implicitDefEqProofs[s4]
   exact kb (hk _ e0) (by simp[this])
 ·have:i=a.vals.length:=by omega
  subst this
  have he:a.vals=b.vals:=by
   rw[List.take_of_length_le (Nat.le_refl _),List.take_of_length_le (by omega)] at hT; exact hT
  simp -implicitDefEqProofs[s2,s5,ld_at c1,cel_of c1,stm_at c1,stm_upd,ld_same,cel_same,over,lx]
  exact kb (hk _ e0) (by simp[hab.2 he])
end Go.Proofs.YtcnphhhcknhhaaaGreat
namespace Go.Proofs.YtcnphhhcknhhaaaGreat
open Go Go.Den Go.MapKept
set_option linter.unusedSimpArgs false
set_option linter.unusedVariables false
set_option maxRecDepth 20000
def UsrR (h:Heap)(c:List Value)(x:ByteArray × Ent):Prop:=∃ v,c = .string x.1::v::presC x.2.told∧Sl 4 SessR h v x.2.ss
theorem UsrR.ext {h h':Heap}{c:List Value}{x:ByteArray × Ent}(e:Ext h h')(r:UsrR h c x):UsrR h' c x:=let ⟨v,h1,h2⟩:=r; ⟨v,h1,h2.ext (@SessR.ext) e⟩
theorem unSlUsr:P.underlying qvZ=some (.slice qtZ):=by kernel_rfl
theorem apUsr:apC P qtZ=some (5,64,5):=by kernel_rfl
theorem bsUsr:bsI P qvZ=some (qtZ,5,#[.string ⟨#[]⟩,.slice none 0 0,.int .i64 0,.int .i64 0,.int .i64 0]):=by kernel_rfl
theorem zcSlUsr:zc P qvZ=some #[.slice none 0 0]:=by kernel_rfl
theorem bdUsr (k:ByteArray)(b:Option Addr)(n c:Nat)(p q r:Int):bdV (binf P qtZ) [(0,.string k),(1,.slice b n c),(2,.agg #[.int .i64 p,.int .i64 q,.int .i64 r])]=some (.agg #[.string k,.slice b n c,.int .i64 p,.int .i64 q,.int .i64 r]):=by kernel_rfl
theorem Sl.slice' {α:Type}{sz:Nat}{R:Heap→List Value→α→Prop}{h:Heap}{v:Value}{xs:List α}(x:Sl sz R h v xs):∃ b n c,v = .slice b n c:=by
 rcases x with ⟨_,a,c,rfl⟩ | ⟨b,o,cap,rfl,_⟩
 ·exact⟨_,_,_,rfl⟩
 ·exact⟨_,_,_,rfl⟩
theorem usersc_ok (k:ByteArray)(e:Ent){hA h:Heap}{bl n:Nat}{out:Value}{xs:List Value}(hb:hA bl=none)(cl:h bl=some (.cells #[out] qvZ (0,0)))(r:Rf 5 qtZ hA h out n xs)(hne:rowOf out≠some bl)(hn:n<1000000)
  {F:Heap} {sv:Value} (hs:Sl 4 SessR F sv e.ss) {K:KTy}
  (hk:∀ h' out',h' bl=some (.cells #[out'] qvZ (0,0))→Rf 5 qtZ hA h' out' (n+1) (xs++(.string k::sv::presC e.told))→rowOf out'≠some bl→K (.bool true) h') :
  callM P qavZ #[.string k,.agg (sv::presC e.told).toArray,ptr bl] h K:=by
 obtain⟨sb,sn,sc,rfl⟩:=Sl.slice' hs
 apply qndZ
 unfold qeQZ
 refine nw_agg fun v1 h1 n1 e1 c1=>?_
 simp -implicitDefEqProofs only[presC] at c1
 have cl1:=e1 _ _ cl
 simp -implicitDefEqProofs[ld_at c1,cel_of c1,stm_at c1,ld_at cl1,cel_of cl1,stm_at cl1,stm_upd,ld_same,cel_same,over,bdUsr]
 refine bs_one bsUsr rfl (by omega) fun b2 h2 n2 e2 c2=>?_
 have cl2:=e2 _ _ cl1
 have r2:=r.ext (e1.trans e2)
 refine Rf.app2 (m:=1) unSlUsr apUsr (by omega) r2 (.inr ⟨b2,0,1,rfl,cels_one c2 rfl⟩) (by simp) (by unfold maxLen; omega) (by omega) fun v' h3 r3 hkp hrow=>?_
 have cl3:=hkp _ _ cl2 hne
 have hne3:rowOf v'≠some bl:=fun hh=>by
  rcases hrow with h | ⟨b,h,hn⟩
  ·rw[h] at hh; exact hne hh
  ·rw[h] at hh; cases hh; rw[cl2] at hn; cases hn
 have ro:=r3.row.one
 rw[stm_at (n:=1) (v:=v') cl3 (by rw[ro.2]; rfl) (by simp) (by simp[ro.2,ro.1])]
 have ov:over (#[out]:Array Value) 0 v'.cells.toList=#[v']:=by rw[ro.2]; rfl
 rw[ov]
 refine hk _ v' (upd_same' _ _ _) ?_ hne3
 exact r3.skip hb hne3
variable {K:KTy}
theorem users08_ok (b:Book)(hl:b.length≤100000){T:Tags}{h:Heap}{kw vw:Value}(w:Wf T h)(xb:BookR (fz T h) kw vw b)(hk:∀ v h',Ext h h'→Sl 5 UsrR (fz T h') v b→K v h'):callM P qfnZ #[.agg #[kw,vw]] h K:=by
 apply qoFZ
 unfold qgzZ
 have k1:=xb.1.one
 have k2:=xb.2.1.one
 refine nw_agg fun v1 h1 n1 e1 c1=>?_
 rw[zcSlUsr]
 refine nw_intro fun bl h2 n2 e2 c2=>?_
 have c1:=e2 _ _ c1
 simp -implicitDefEqProofs[ld_at c1,cel_of c1,stm_at c1,stm_upd,ld_same,cel_same,over]
 have e02:=e1.trans e2
 refine all_ok b ((fz_ext T h).trans e02) xb fun p h3 n3 e3 c3=>?_
 have e03:=e02.trans e3
 have c2':=e3 _ _ c2
 have nbl:h bl=none:=fresh_of e1 n2
 unfold qikZ
 simp -implicitDefEqProofs
 refine nx_fn good (by kernel_rfl) ?_
 obtain⟨T0,hT0⟩:∃ T0:Tags,T0=tset (fun _=>[]) bl lc:=⟨_,rfl⟩
 have w0:Wf T0 h3:=fun j hj=>by
  have:j≠bl:=fun e=>by subst e; rw[c2'] at hj; cases hj
  rw[hT0,tset_ne this]
 have f0:∀ j o,j≠bl→h3 j=some o→fz T0 h3 j=some o:=fun j o hj ho=>fz_at ho (by rw[hT0,tset_ne hj])
 have fbl:fz T0 h3 bl=none:=by
  unfold fz
  rw[hT0,tset_same,if_neg (by simp[lc])]
 have eA:Ext h (fz T0 h3):=fun j o ho=>f0 j o (fun e=>by subst e; rw[nbl] at ho; cases ho) (e03 _ _ ho)
 have xA:BookR (fz T0 h3) kw vw b:=xb.ext ((fz_ext T h).trans eA)
 have npl:p≠bl:=fun e=>by subst e; rw[c2] at n3; cases n3
 obtain⟨Lv,l1,l2⟩:=xb.2.1.els EntR.one
 simp -implicitDefEqProofs only[List.length_map] at l1
 have hlx:(allX b Lv).length=b.length:=by simp[allX]
 refine all_it b (hA:=fz T0 h3) (p:=p) (kw:=kw) (vw:=vw) (Lv:=Lv) (f0 _ _ npl c3) xA (l1.ext ((fz_ext T h).trans eA)) l2.size (by simpa using l2.len) (.func (.func qavZ) #[] #[ptr bl])
  (fun i h'=>∃ out L,h' bl=some (.cells #[out] qvZ (0,0))∧Rf 5 qtZ (fz T0 h3) h' out i (List.flatten L)∧rowOf out≠some bl∧El 5 UsrR (fz T h) L (b.take i)) (fun _=>False) h3 _ ?_ ?_ ?_ ?_ ?_ (fun _ _ h=>h.elim)
 ·rintro i h' ⟨out,L,c,r,ne,el⟩
  exact r.ex
 ·rintro i h' h'' ⟨out,L,c,r,ne,el⟩ e
  exact⟨out,L,e _ _ c,r.ext e,ne,el⟩
 ·exact⟨.slice none 0 0,[],c2',Rf.nil (fz_ext _ _),by simp[rowOf],by simpa using El.nil⟩
 ·rintro i hi h' K' ⟨out,L,c,r,ne,el⟩ hK' -
  obtain⟨hib,sv,hx,hsv,hsn⟩:=allX_at l2 hi
  rw[hx]
  refine nx_fn good (by kernel_rfl) ?_
  show callM P qavZ #[.string b[i].1,.agg (sv::presC b[i].2.told).toArray,ptr bl] h' K'
  refine usersc_ok b[i].1 b[i].2 fbl c r ne (by omega) hsv fun h'' out' c' r' ne'=>hK' _ ⟨out',L++[.string b[i].1::sv::presC b[i].2.told],c',?_,ne',?_⟩
  ·rw[List.flatten_append]; simpa using r'
  ·rw[List.take_succ_eq_append_getElem hib]
   exact el.app (El.sing (by simp[presC]) (by simp[presC,hsv.one.1]) ⟨sv,rfl,hsv⟩)
 ·rintro v h' ⟨out,L,c,r,ne,el⟩
  rw[hlx] at r el
  rw[List.take_of_length_le (Nat.le_refl _)] at el
  have e0:Ext h h':=eA.trans r.ex
  have wA:Wf T (fz T0 h3):=fun j hj=>by
   by_cases hjb:j=bl
   ·subst hjb; exact w _ nbl
   ·cases hh:h j with
    | none=>exact w j hh
    | some o=>rw[f0 j o hjb (e03 _ _ hh)] at hj; cases hj
  have cc:cel h' bl 0=some out:=by simp[cel_of c]
  simp -implicitDefEqProofs[cc]
  exact hk out h' e0 (r.sl wA rfl (el.ext (@UsrR.ext) (fz_of_ext e0)))
end Go.Proofs.YtcnphhhcknhhaaaGreat
namespace Go.Den
open Go
set_option linter.unusedVariables false
set_option linter.unusedSimpArgs false
def beatsI (l:List Sess)(k i:Nat):Prop:=∃ (hk:k<l.length) (hi:i<l.length),l[i].pr<l[k].pr∨(l[k].pr=l[i].pr∧(l[k].id<l[i].id∨(l[k].id=l[i].id∧k<i)))
def accL (l:List Sess):Sess × Nat:=l.foldl (fun x s=>(if x.2=0 || better s x.1 then s else x.1,x.2+1)) (⟨0,0,0,0⟩,0)
theorem accL_purge (l:List Sess)(now:Int):ofAcc l now=accL (purgeS l now):=by
 unfold ofAcc accL
 generalize ((⟨0,0,0,0⟩,0):Sess × Nat)=z
 induction l generalizing z with
 | nil=>rfl
 | cons s l ih =>
  rw[List.foldl_cons,ih]
  unfold purgeS
  rw[List.filter_cons]
  unfold ofStep
  cases h:late now s.un with
  | true=>simp[h]
  | false=>simp[h]
theorem accL_snoc (l:List Sess)(s:Sess):accL (l++[s])=(if (accL l).2=0 || better s (accL l).1 then s else (accL l).1,(accL l).2+1):=by simp[accL]
theorem snoc_ind {α:Type}{P:List α→Prop}(h0:P [])(h1:∀ l a,P l→P (l++[a])):∀ l,P l:=fun l=>by
 have:∀ m:List α,P m.reverse:=fun m=>by
  induction m with
  | nil=>exact h0
  | cons a m ih=>rw[List.reverse_cons]; exact h1 _ _ ih
 have h:=this l.reverse
 rwa [List.reverse_reverse] at h
theorem accL_spec (l:List Sess):(accL l).2=l.length∧(l≠[]→∃ i,∃ hi:i<l.length,l[i]=(accL l).1∧∀ k,¬ beatsI l k i):=by
 refine snoc_ind (P:=fun l=>(accL l).2=l.length∧(l≠[]→∃ i,∃ hi:i<l.length,l[i]=(accL l).1∧∀ k,¬ beatsI l k i)) ⟨rfl,fun h=>absurd rfl h⟩ (fun l s ih=>?_) l
 obtain⟨h1,h2⟩:=ih
 rw[accL_snoc]
 refine⟨by simp[h1],fun _=>?_⟩
 have hget:∀ k (hk:k<l.length),(l++[s])[k]'(by simp; omega)=l[k]:=fun k hk=>List.getElem_append_left hk
 have hlast:∀ (h:l.length<(l++[s]).length),(l++[s])[l.length]=s:=fun h=>by simp
 by_cases hl:l=[]
 ·subst hl
  refine⟨0,by simp,by simp[accL],fun k hk=>?_⟩
  obtain⟨a,b,c⟩:=hk
  have:k=0:=by simp at a; omega
  subst this
  simp at c
 obtain⟨i,hi,e,hb⟩:=h2 hl
 have hlen:¬ (accL l).2=0:=by
  rw[h1]; intro h; exact hl (List.length_eq_zero_iff.1 h)
 by_cases hbt:better s (accL l).1=true
 ·simp only[hbt,Bool.or_true,if_true]
  refine⟨l.length,by simp,hlast _,fun k hk=>?_⟩
  obtain⟨a,b,c⟩:=hk
  rw[hlast b] at c
  have ha:k≤l.length:=by simp at a; omega
  by_cases hkl:k=l.length
  ·subst hkl
   rw[hlast a] at c
   omega
  have hk':k<l.length:=by omega
  rw[hget k hk'] at c
  have hnb:¬ beatsI l k i:=hb k
  apply hnb
  refine⟨hk',hi,?_⟩
  rw[e]
  simp only[better,Bool.or_eq_true,Bool.and_eq_true,decide_eq_true_eq] at hbt
  omega
 ·have hbt':better s (accL l).1=false:=by simpa using hbt
  have hz:(decide ((accL l).2=0) || better s (accL l).1)=false:=by simp[hlen,hbt']
  rw[hz]
  refine⟨i,by simp; omega,by rw[hget i hi]; simpa using e,fun k hk=>?_⟩
  obtain⟨a,b,c⟩:=hk
  rw[hget i hi] at c
  have ha:k≤l.length:=by simp at a; omega
  by_cases hkl:k=l.length
  ·subst hkl
   rw[hlast a] at c
   rw[e] at c
   simp only[better,Bool.or_eq_false_iff,Bool.and_eq_false_iff,decide_eq_false_iff_not] at hbt'
   omega
  have hk':k<l.length:=by omega
  rw[hget k hk'] at c
  exact hb k ⟨hk',hi,c⟩
theorem pres_first {l:List Sess}{now:Int}{i:Nat}(hi:i<(purgeS l now).length)(hf:∀ k,¬ beatsI (purgeS l now) k i):presOf l now=⟨(purgeS l now)[i].st,(purgeS l now)[i].pr,(purgeS l now).length⟩:=by
 have hne:purgeS l now≠[]:=fun h=>by rw[h] at hi; simp at hi
 obtain⟨h1,h2⟩:=accL_spec (purgeS l now)
 obtain⟨j,hj,e,hb⟩:=h2 hne
 have hij:i=j:=by
  by_cases hc:i=j
  ·exact hc
  exfalso
  have n1:=hf j
  have n2:=hb i
  have n1:¬ ((purgeS l now)[i].pr<(purgeS l now)[j].pr∨((purgeS l now)[j].pr=(purgeS l now)[i].pr∧((purgeS l now)[j].id<(purgeS l now)[i].id∨((purgeS l now)[j].id=(purgeS l now)[i].id∧j<i)))):=fun h=>n1 ⟨hj,hi,h⟩
  have n2:¬ ((purgeS l now)[j].pr<(purgeS l now)[i].pr∨((purgeS l now)[i].pr=(purgeS l now)[j].pr∧((purgeS l now)[i].id<(purgeS l now)[j].id∨((purgeS l now)[i].id=(purgeS l now)[j].id∧i<j)))):=fun h=>n2 ⟨hi,hj,h⟩
  omega
 subst hij
 unfold presOf
 rw[accL_purge,← e,h1]
theorem pres_none {l:List Sess}{now:Int}(h:purgeS l now=[]):presOf l now=⟨0,0,0⟩:=by
 unfold presOf
 rw[accL_purge,h]; rfl
theorem pres_some {l:List Sess}{now:Int}(h:purgeS l now≠[]):∃ i,i<(purgeS l now).length∧∀ k,¬ beatsI (purgeS l now) k i:=by
 obtain⟨i,hi,_,hb⟩:=(accL_spec (purgeS l now)).2 h
 exact⟨i,hi,hb⟩
end Go.Den
namespace Go.Proofs.YtcnphhhcknhhaaaGreat
open Go Go.Den Go.MapKept
set_option linter.unusedSimpArgs false
set_option linter.unusedVariables false
set_option maxRecDepth 20000
theorem unSlSs:P.underlying qeZ=some (.slice qdZ):=by kernel_rfl
theorem apSs:apC P qdZ=some (4,32,4):=by kernel_rfl
theorem bsSs:bsI P qeZ=some (qdZ,4,#[.int .i64 0,.int .i64 0,.int .i64 0,.int .u64 0]):=by kernel_rfl
theorem purgeS_snoc (l:List Sess)(s:Sess)(now:Int):purgeS (l++[s]) now=if now<s.un then purgeS l now++[s] else purgeS l now:=by
 unfold purgeS
 rw[List.filter_append]
 by_cases h:now<s.un
 ·rw[if_pos h,List.filter_cons_of_pos (by simp[late]; omega)]; rfl
 ·rw[if_neg h,List.filter_cons_of_neg (by simp[late]; omega)]; simp
variable {K:KTy}
theorem rpurge_ok (l:List Sess)(now:Int){h:Heap}{v:Value}(x:Sl 4 SessR h v l)(hl:l.length<1000000)
  (hk:∀ h' v',Rf 4 qdZ h h' v' (purgeS l now).length ((purgeS l now).flatMap sessC)→K v' h'):callM P qfqZ #[v,.int .u64 now] h K:=by
 apply qoRZ
 unfold qgFZ
 have lx:=x.len
 rw[seqM_eq]
 unfold qiEZ
 refine loop_on [0,1] (fun s h'=>∃ i:Nat,i≤l.length∧s 6 = .int .i64 i∧Rf 4 qdZ h h' (s 5) (purgeS (l.take i) now).length ((purgeS (l.take i) now).flatMap sessC)) (fun s _=>(l.length-num (s 6)).toNat) ⟨0,by omega,by simp,by simpa [purgeS] using Rf.nil (Ext.refl _)⟩ ?_
 rintro s h1 hf ⟨i,hi,s6,r⟩
 have s0:s 0=v:=by simpa using hf 0 (by simp)
 have s1:s 1 = .int .u64 now:=by simpa using hf 1 (by simp)
 unfold qiDZ
 simp -implicitDefEqProofs[s0,s6,lx]
 refine⟨fun hc=>?_,fun hc=>?_⟩
 rotate_left
 ·have hie:i=l.length:=by omega
  subst hie
  rw[List.take_of_length_le (Nat.le_refl _)] at r
  exact hk _ _ r
 ·have hlt:i<l.length:=by omega
  have hw:IntKind.i64.wrap ((i:Int)+1)=(i+1:Nat):=by rw[wrap64_id (by omega) (by omega)]; omega
  obtain⟨b,p,i1,i2⟩:=sess_ld x hlt (k:=.i64)
  have i2:=i2 h1 r.ex
  have un:cel h1 b (p+3)=some (.int .u64 l[i].un):=(cels_get i2).2 3 (by simp[sessC])
  have ps:=purgeS_snoc (l.take i) l[i] now
  rw[← List.take_succ_eq_append_getElem hlt] at ps
  have hlen:(purgeS (l.take i) now).length≤l.length:=by unfold purgeS; have:=List.length_filter_le (fun s=>!late now s.un) (l.take i); simp at this ⊢; omega
  unfold qiCZ
  rw[seqM_eq]
  unfold qiBZ
  simp -implicitDefEqProofs[s0,s1,s6,i1,un]
  refine⟨fun hc2=>?_,fun hc2=>?_⟩
  ·rw[if_pos hc2] at ps
   unfold qiAZ
   simp -implicitDefEqProofs[s0,s6,i1,ldV_n i2]
   refine bs_one bsSs (by simp[sessC]) (by simp[sessC]) fun b2 h2 n2 e2 c2=>?_
   refine Rf.app2 (m:=1) (news:=sessC l[i]) unSlSs apSs (by omega) (r.ext e2) (.inr ⟨b2,0,1,rfl,cels_one c2 (by simp[sessC])⟩) (by simp[sessC]) (by unfold maxLen; omega) (by omega) fun v' h3 r3 hkp hrow=>?_
   unfold qizZ
   simp -implicitDefEqProofs[s0,s1,s6,hw,-Int.natCast_add]
   refine⟨⟨i+1,by omega,rfl,?_⟩,by omega⟩
   rw[ps]
   simpa using r3
  ·rw[if_neg (by omega)] at ps
   simp -implicitDefEqProofs[s0,s1,s6,hw,-Int.natCast_add]
   exact⟨⟨i+1,by omega,rfl,by rw[ps]; exact r⟩,by omega⟩
theorem bdPres0:bdV (binf P qfZ) []=some (.agg #[.int .i64 0,.int .i64 0,.int .i64 0]):=by kernel_rfl
theorem bdPres (a b c:Int):bdV (binf P qfZ) [(0,.int .i64 a),(1,.int .i64 b),(2,.int .i64 c)]=some (.agg #[.int .i64 a,.int .i64 b,.int .i64 c]):=by kernel_rfl
theorem beats_iff {l:List Sess}{k i:Nat}(hk:k<l.length)(hi:i<l.length):beatsI l k i↔(l[i].pr<l[k].pr∨(l[k].pr=l[i].pr∧(l[k].id<l[i].id∨(l[k].id=l[i].id∧k<i)))) :=
 ⟨fun ⟨_,_,h⟩=>h,fun h=>⟨hk,hi,h⟩⟩
def OfI (L:List Sess)(i k:Nat)(v:Value):Prop:=∃ f:Bool,v = .bool f∧(f=true→∀ j,j<k→¬ beatsI L j i)∧(f=false→∃ j,beatsI L j i)
set_option maxHeartbeats 4000000 in
theorem rof_ok (l:List Sess)(now:Int){h:Heap}{v:Value}(x:Sl 4 SessR h v l)(hl:l.length<1000000)
  (hk:∀ h',Ext h h'→K (.agg (presC (presOf l now)).toArray) h'):callM P qhqZ #[v,.int .u64 now] h K:=by
 apply qqeZ
 unfold qhXZ
 rw[zcPres]
 refine nw_agg fun v1 h1 n1 e1 c1=>?_
 refine rpurge_ok l now (x.ext (@SessR.ext) e1) hl fun h4 v3 r4=>?_
 have c1:=r4.ex _ _ c1
 have e4:=e1.trans r4.ex
 obtain⟨L,hL⟩:∃ L,purgeS l now=L:=⟨_,rfl⟩
 rw[hL] at r4
 have y:=rf_sess r4
 have ly:=y.len
 have hle:L.length≤l.length:=by rw[← hL]; unfold purgeS; exact List.length_filter_le _ _
 unfold qluZ
 rw[seqM_eq]
 unfold qltZ
 refine loop_on [4,5] (fun s h'=>h'=h4∧∃ i:Nat,i≤L.length∧s 6 = .int .i64 i∧∀ j,j<i→∃ k,beatsI L k j) (fun s _=>(L.length-num (s 6)).toNat) ⟨rfl,0,by omega,by simp,fun j hj=>by omega⟩ ?_
 rintro s h5 hf ⟨rfl,i,hi,s6,hb⟩
 have s4:s 4=ptr v1:=by simpa using hf 4 (by simp)
 have s5:s 5=v3:=by simpa using hf 5 (by simp)
 unfold qlsZ
 simp -implicitDefEqProofs[s5,s6,ly]
 refine⟨fun hc=>?_,fun hc=>?_⟩
 rotate_left
 ·have hie:i=L.length:=by omega
  have hnil:purgeS l now=[]:=by
   by_cases hne:purgeS l now=[]
   ·exact hne
   ·obtain⟨j,h1,h2⟩:=pres_some hne
    rw[hL] at h1 h2
    obtain⟨k,hk⟩:=hb j (by omega)
    exact absurd hk (h2 k)
  rw[pres_none hnil] at hk
  have tg:tagg P qfZ=some (some 3):=by kernel_rfl
  simp -implicitDefEqProofs[s4,bdPres0,ld_at c1,cel_of c1,stm_at c1,stm_upd,ld_same,cel_same,over,tg]
  exact hk _ (ext_upd n1 e4)
 ·have hlt:i<L.length:=by omega
  have hw:IntKind.i64.wrap ((i:Int)+1)=(i+1:Nat):=by rw[wrap64_id (by omega) (by omega)]; omega
  obtain⟨bi,pi,i1,i2⟩:=sess_ld y hlt (k:=.i64)
  have i2:=(cels_get (i2 _ (Ext.refl _))).2
  have i20:cel h5 bi pi=some (.int .i64 L[i].id):=i2 0 (by simp[sessC])
  have i21:cel h5 bi (pi+1)=some (.int .i64 L[i].st):=i2 1 (by simp[sessC])
  have i22:cel h5 bi (pi+2)=some (.int .i64 L[i].pr):=i2 2 (by simp[sessC])
  unfold qlrZ
  rw[seqM_eq]
  unfold qlqZ
  rw[seqM_eq]
  unfold qlpZ
  refine loop_on [4,5,6] (fun r h'=>h'=h5∧∃ k:Nat,k≤L.length∧r 8 = .int .i64 k∧OfI L i k (r 7)) (fun r _=>(L.length-num (r 8)).toNat) ⟨rfl,0,by omega,by simp,true,by simp,fun _ j hj=>by omega,fun h=>by cases h⟩ ?_
  rintro r h6 hf6 ⟨rfl,k,hk',r8,f,r7,ft,ff⟩
  have r4':r 4=ptr v1:=by simpa [s4] using hf6 4 (by simp)
  have r5:r 5=v3:=by simpa [s5] using hf6 5 (by simp)
  have r6:r 6 = .int .i64 i:=by simpa [s6] using hf6 6 (by simp)
  unfold qloZ
  simp -implicitDefEqProofs[r5,r8,ly]
  refine⟨fun hc2=>?_,fun hc2=>?_⟩
  ·have hlk:k<L.length:=by omega
   have hwk:IntKind.i64.wrap ((k:Int)+1)=(k+1:Nat):=by rw[wrap64_id (by omega) (by omega)]; omega
   obtain⟨bk,pk,k1,k2⟩:=sess_ld y hlk (k:=.i64)
   have k2:=(cels_get (k2 _ (Ext.refl _))).2
   have k20:cel h6 bk pk=some (.int .i64 L[k].id):=k2 0 (by simp[sessC])
   have k22:cel h6 bk (pk+2)=some (.int .i64 L[k].pr):=k2 2 (by simp[sessC])
   have bi':=beats_iff hlk hlt
   unfold qlnZ
   rw[seqM_eq]
   unfold qlmZ
   by_cases p1:L[i].pr<L[k].pr
   ·have bb:=bi'.2 (.inl p1)
    simp -implicitDefEqProofs[r5,r6,r8,i1,k1,i20,i22,k20,k22,p1]
    unfold qdzZ
    simp -implicitDefEqProofs[r4',r5,r6,r8,r7,hwk,s4,s5,s6,-Int.natCast_add]
    exact⟨⟨k+1,by omega,rfl,⟨false,rfl,(fun h=>by cases h),fun _=>⟨k,bb⟩⟩⟩,by omega⟩
   have keep:¬ beatsI L k i→∀ j,j<k+1→f=true→¬ beatsI L j i:=fun nb j hj hft=>by
    by_cases hjk:j<k
    ·exact ft hft j hjk
    ·have:j=k:=by omega
     subst this; exact nb
   by_cases p2:L[k].pr=L[i].pr
   rotate_left
   ·have nb:¬ beatsI L k i:=fun h=>by rcases bi'.1 h with h | h; exact p1 h; exact p2 h.1
    simp -implicitDefEqProofs[r5,r6,r8,i1,k1,i20,i22,k20,k22,p1,p2]
    unfold qdAZ
    simp -implicitDefEqProofs[r4',r5,r6,r8,r7,hwk,s4,s5,s6,-Int.natCast_add]
    exact⟨⟨k+1,by omega,rfl,⟨f,rfl,fun hft j hj=>keep nb j hj hft,ff⟩⟩,by omega⟩
   by_cases p3:L[k].id<L[i].id
   ·have bb:=bi'.2 (.inr ⟨p2,.inl p3⟩)
    simp -implicitDefEqProofs[r5,r6,r8,i1,k1,i20,i22,k20,k22,p1,p2,p3]
    unfold qdzZ
    simp -implicitDefEqProofs[r4',r5,r6,r8,r7,hwk,s4,s5,s6,-Int.natCast_add]
    exact⟨⟨k+1,by omega,rfl,⟨false,rfl,(fun h=>by cases h),fun _=>⟨k,bb⟩⟩⟩,by omega⟩
   by_cases p4:L[k].id=L[i].id
   rotate_left
   ·have nb:¬ beatsI L k i:=fun h=>by rcases bi'.1 h with h | ⟨_,h | h⟩; exact p1 h; exact p3 h; exact p4 h.1
    simp -implicitDefEqProofs[r5,r6,r8,i1,k1,i20,i22,k20,k22,p1,p2,p3,p4]
    unfold qdAZ
    simp -implicitDefEqProofs[r4',r5,r6,r8,r7,hwk,s4,s5,s6,-Int.natCast_add]
    exact⟨⟨k+1,by omega,rfl,⟨f,rfl,fun hft j hj=>keep nb j hj hft,ff⟩⟩,by omega⟩
   by_cases p5:k<i
   ·have bb:=bi'.2 (.inr ⟨p2,.inr ⟨p4,p5⟩⟩)
    have p5':(k:Int)<i:=by omega
    simp -implicitDefEqProofs[r5,r6,r8,i1,k1,i20,i22,k20,k22,p1,p2,p3,p4,p5]
    unfold qdzZ
    simp -implicitDefEqProofs[r4',r5,r6,r8,r7,hwk,s4,s5,s6,-Int.natCast_add]
    exact⟨⟨k+1,by omega,rfl,⟨false,rfl,(fun h=>by cases h),fun _=>⟨k,bb⟩⟩⟩,by omega⟩
   ·have nb:¬ beatsI L k i:=fun h=>by rcases bi'.1 h with h | ⟨_,h | ⟨_,h⟩⟩; exact p1 h; exact p3 h; exact p5 h
    simp -implicitDefEqProofs[r5,r6,r8,i1,k1,i20,i22,k20,k22,p1,p2,p3,p4,p5]
    unfold qdAZ
    simp -implicitDefEqProofs[r4',r5,r6,r8,r7,hwk,s4,s5,s6,-Int.natCast_add]
    exact⟨⟨k+1,by omega,rfl,⟨f,rfl,fun hft j hj=>keep nb j hj hft,ff⟩⟩,by omega⟩
  ·have hke:k=L.length:=by omega
   unfold qkpZ
   cases f with
   | false =>
    simp -implicitDefEqProofs[r7,r4',r5,r6,r8,hw,s4,s5,s6,-Int.natCast_add]
    refine⟨⟨i+1,by omega,rfl,fun j hj=>?_⟩,by omega⟩
    by_cases hji:j<i
    ·exact hb j hji
    ·have:j=i:=by omega
     subst this; exact ff rfl
   | true =>
    have hfi:∀ j,¬ beatsI L j i:=fun j hj=>by
     have h1:=hj
     obtain⟨h1,_⟩:=h1
     exact ft rfl j (by omega) hj
    have hp:=pres_first (l:=l) (now:=now) (i:=i) (by rw[hL]; exact hlt) (by rw[hL]; exact hfi)
    simp -implicitDefEqProofs only[hL] at hp
    have tg:tagg P qfZ=some (some 3):=by kernel_rfl
    simp -implicitDefEqProofs[r7]
    unfold qkoZ
    simp -implicitDefEqProofs[r4',r5,r6,i1,i21,i22,ly,bdPres,ld_at c1,cel_of c1,stm_at c1,stm_upd,ld_same,cel_same,over,tg]
    rw[hp] at hk
    exact hk _ (ext_upd n1 e4)
theorem entOf_at:∀ {b:Book} {u:ByteArray} {i:Nat} (hi:i<b.length),b[i].1=u→(∀ j (h:j<i),b[j].1≠u)→entOf b u=b[i].2
 | [],_,_,hi,_,_=>absurd hi (by simp)
 | (k,e)::r,u,0,_,h,_=>by show (if k=u then e else entOf r u)=e; exact if_pos h
 | (k,e)::r,u,i+1,hi,h,hn=>by
  show (if k=u then e else entOf r u)=_
  have h0:¬ k=u:=hn 0 (by omega)
  rw[if_neg h0]
  exact entOf_at (by simpa using hi) h fun j hj=>hn (j+1) (by omega)
theorem entOf_no:∀ {b:Book} {u:ByteArray},(∀ j (h:j<b.length),b[j].1≠u)→entOf b u=ent0
 | [],_,_=>rfl
 | (k,e)::r,u,hn=>by
  show (if k=u then e else entOf r u)=_
  have h0:¬ k=u:=hn 0 (by simp)
  rw[if_neg h0]
  exact entOf_no fun j hj=>hn (j+1) (by simpa using hj)
theorem zcUsr:zc P qtZ=some #[.string ⟨#[]⟩,.slice none 0 0,.int .i64 0,.int .i64 0,.int .i64 0]:=by kernel_rfl
theorem bdUsrN (k:ByteArray):bdV (binf P qtZ) [(0,.string k)]=some (.agg #[.string k,.slice none 0 0,.int .i64 0,.int .i64 0,.int .i64 0]):=by kernel_rfl
theorem bin_eqlS (t:Nat)(c:Bool)(a b:ByteArray):binV .eql t c (.string a) (.string b)=some (.bool (decide (a=b))):=by
 simp -implicitDefEqProofs only[binV,strV]
 by_cases h:a=b
 ·subst h; simp
 ·have:¬ a.toList=b.toList:=fun e=>h (str_inj e)
  simp -implicitDefEqProofs[h,this]
theorem rfind_ok (b:Book)(u:ByteArray){h:Heap}{v:Value}(x:Sl 5 UsrR h v b)(hl:b.length<1000000)
  (hk:∀ h' sv,Ext h h'→Sl 4 SessR h sv (entOf b u).ss→K (.agg (.string u::sv::presC (entOf b u).told).toArray) h'):callM P qgvZ #[v,.string u] h K:=by
 apply qpuZ
 unfold qhhZ
 have lx:=x.len
 have tg:tagg P qtZ=some (some 5):=by kernel_rfl
 rw[zcUsr]
 refine nw_agg fun v1 h1 n1 e1 c1=>?_
 rw[seqM_eq]
 unfold qjOZ
 refine loop_on [0,1,4] (fun s h'=>h'=h1∧∃ i:Nat,i≤b.length∧s 5 = .int .i64 i∧∀ j (hj:j<b.length),j<i→b[j].1≠u) (fun s _=>(b.length-num (s 5)).toNat) ⟨rfl,0,by omega,by simp,fun j _ hj=>by omega⟩ ?_
 rintro s h2 hf ⟨rfl,i,hi,s5,hn⟩
 have s0:s 0=v:=by simpa using hf 0 (by simp)
 have s1:s 1 = .string u:=by simpa using hf 1 (by simp)
 have s4:s 4=ptr v1:=by simpa using hf 4 (by simp)
 unfold qjNZ
 simp -implicitDefEqProofs[s0,s5,lx]
 refine⟨fun hc=>?_,fun hc=>?_⟩
 ·have hlt:i<b.length:=by omega
  have hw:IntKind.i64.wrap ((i:Int)+1)=(i+1:Nat):=by rw[wrap64_id (by omega) (by omega)]; omega
  obtain⟨ub,up,uc,a1,a2,a3⟩:=x.at (k:=.i64) (i:=i) (by omega) (by omega)
  simp -implicitDefEqProofs only[Int.toNat_natCast] at a3
  obtain⟨sv,rfl,hs⟩:=a3
  have hcs:=cels_ext e1 a2
  have q0:cel h2 ub up=some (.string b[i].1):=(cels_get hcs).2 0 (by simp[presC])
  unfold qjMZ
  have bn:binV .eql 3 false (.string b[i].1) (.string u)=some (.bool (decide (b[i].1=u))):=bin_eqlS _ _ _ _
  by_cases hb:b[i].1=u
  ·have he:=entOf_at hlt hb fun j hj=>hn j (by omega) hj
   have bn:binV .eql 3 false (.string b[i].1) (.string u)=some (.bool true):=by rw[bn,decide_eq_true hb]
   simp -implicitDefEqProofs[s0,s1,s5,a1,q0,bn]
   unfold qjKZ
   have ho:=hs.one
   simp -implicitDefEqProofs[s0,s4,s5,a1,ldV_n hcs]
   rw[stm_at (n:=5) c1 (by simp[presC]) (by simp) (by simp[presC,ho.1])]
   rw[he] at hk
   have:=hk _ sv (ext_upd (o:=.cells (over #[.string ⟨#[]⟩,.slice none 0 0,.int .i64 0,.int .i64 0,.int .i64 0] 0 (Value.agg (Value.string b[i].1::sv::presC b[i].2.told).toArray).cells.toList) qtZ (0,0)) n1 e1) hs
   simp -implicitDefEqProofs[s4,tg,stm_upd,ld_same,cel_same,over,presC]
   simp -implicitDefEqProofs only[← hb,presC] at this
   simpa [over] using this
  ·have bn:binV .eql 3 false (.string b[i].1) (.string u)=some (.bool false):=by rw[bn,decide_eq_false hb]
   simp -implicitDefEqProofs[s0,s1,s5,a1,q0,bn]
   unfold qjLZ
   simp -implicitDefEqProofs[s0,s1,s4,s5,hw,-Int.natCast_add]
   refine⟨⟨i+1,by omega,rfl,fun j hj hji=>?_⟩,by omega⟩
   by_cases hjj:j<i
   ·exact hn j hj hjj
   ·have:j=i:=by omega
    subst this; exact hb
 ·have he:=entOf_no (b:=b) (u:=u) fun j hj=>hn j hj (by omega)
  unfold qjPZ
  simp -implicitDefEqProofs[s1,s4,bdUsrN,ld_at c1,cel_of c1,stm_at c1,stm_upd,ld_same,cel_same,over,tg]
  rw[he] at hk
  have:=hk (upd h2 v1 (.cells #[.string u,.slice none 0 0,.int .i64 0,.int .i64 0,.int .i64 0] qtZ (0,0))) (.slice none 0 0) (ext_upd n1 e1) (.inl ⟨rfl,_,_,rfl⟩)
  exact this
theorem rpres_ok (b:Book)(u:ByteArray)(now:Int){h:Heap}{v:Value}(x:Sl 5 UsrR h v b)(hl:b.length<1000000)(hs:∀ y∈b,y.2.ss.length<1000000)
  (hk:∀ h',Ext h h'→K (.agg (presC (presB b u now)).toArray) h'):callM P qdIZ #[v,.string u,.int .u64 now] h K:=by
 apply qncZ
 unfold qePZ
 rw[zcPres]
 refine nw_agg fun v1 h1 n1 e1 c1=>?_
 refine rfind_ok b u (x.ext (@UsrR.ext) e1) hl fun h2 sv e2 hsv=>?_
 have hlen:(entOf b u).ss.length<1000000:=by
  rcases entOf_cases b u with e | ⟨y,h1,h2,h3⟩
  ·rw[e]; simp[ent0]
  ·rw[h3]; exact hs y h1
 unfold qhlZ
 simp -implicitDefEqProofs[fdV]
 refine rof_ok _ now (hsv.ext (@SessR.ext) e2) hlen fun h3 e3=>?_
 have c1:=(e2.trans e3) _ _ c1
 have e13:=(e1.trans e2).trans e3
 rw[stm_at (n:=3) c1 (by simp[presC]) (by simp) (by simp[presC])]
 simp -implicitDefEqProofs[stm_upd,ld_same,cel_same,over,presC]
 have:=hk _ (ext_upd (o:=.cells #[.int .i64 (presB b u now).st,.int .i64 (presB b u now).pr,.int .i64 (presB b u now).lv] qfZ (0,0)) n1 e13)
 simpa [presC,presB] using this
end Go.Proofs.YtcnphhhcknhhaaaGreat
namespace Go.Den
open Go
set_option linter.unusedVariables false
set_option linter.unusedSimpArgs false
structure HmI (H:Hall)(M:Tbl):Prop where
 c:H.c=M.c
 t:H.t=M.t
 n:H.n=M.n
 b:∀ s,s<H.n→(H.ss s).book=M.bk s∧(H.ss s).snap=M.bk s
theorem HmI.init (c:Cfg)(n:Nat):HmI (hall0 c n) (tbl0 c n):=⟨rfl,rfl,rfl,fun s _=>⟨rfl,rfl⟩⟩
theorem HmI.did {H:Hall}{M:Tbl}(x:HmI H M)(w k p:Int):HmI (H.did w k p) M:=⟨x.c,x.t,x.n,x.b⟩
theorem HmI.fd {H:Hall}{M M':Tbl}(x:HmI H M)(h1:M'.c=M.c)(h2:M'.t=M.t)(h3:M'.n=M.n)(h4:M'.bk=M.bk):HmI H M':=⟨by rw[h1]; exact x.c,by rw[h2]; exact x.t,by rw[h3]; exact x.n,by rw[h4]; exact x.b⟩
theorem HmI.tick {H:Hall}{M:Tbl}(x:HmI H M)(w by_:Int):HmI (H.pass w by_) (M.tick by_):=⟨x.c,by show ({ H.t with now:=_ }:Tm)=_; rw[x.t]; rfl,x.n,x.b⟩
theorem HmI.take {H:Hall}{M:Tbl}(x:HmI H M)(w:Int):HmI (H.take w) M.take:=⟨x.c,by show ({ H.t with seq:=_ }:Tm)=_; rw[x.t]; rfl,x.n,x.b⟩
theorem HmI.shut {H:Hall}{M:Tbl}(x:HmI H M)(w:Int):HmI (H.shut w) { M with t:={ M.t with closed:=true } }:=⟨x.c,by show ({ H.t with closed:=true }:Tm)=_; rw[x.t],x.n,x.b⟩
theorem HmI.pub {H H':Hall}{M M':Tbl}(x:HmI H M){w:Int}{s:Nat}(h1:H'.c=H.c)(h2:H'.t=H.t)(h3:H'.n=H.n)(h4:∀ j,j≠s→H'.ss j=H.ss j)(g1:M'.c=M.c)(g2:M'.t=M.t)(g3:M'.n=M.n)(g4:∀ j,j≠s→M'.bk j=M.bk j)(hb:(H'.ss s).book=M'.bk s):HmI (H'.pub w s) M':=by
 refine⟨by show H'.c=_; rw[h1,g1]; exact x.c,by show H'.t=_; rw[h2,g2]; exact x.t,by show H'.n=_; rw[h3,g3]; exact x.n,fun j hj=>?_⟩
 by_cases hjs:j=s
 ·subst hjs
  simp[Hall.pub,Hall.put,Hall.did,sput,hb]
 ·have e1:((H'.pub w s).ss j)=H'.ss j:=by simp[Hall.pub,Hall.put,Hall.did,sput,hjs]
  have hj':j<H.n:=by have:j<H'.n:=hj; omega
  rw[e1,h4 j hjs,g4 j hjs]
  exact x.b j hj'
theorem HmI.sweep {H:Hall}{M:Tbl}(x:HmI H M){s:Nat}(hs:s<H.n):HmI (((H.take 8).sweep 8 s (H.take 8).t).pub 8 s) (M.sweep s):=by
 have y:=x.take 8
 have e:M.sweep s=M.take.sweepAt s M.take.t:=by
  unfold Tbl.sweep
  have hn:=x.n
  rw[if_pos ⟨by omega,by omega⟩]; simp
 rw[e]
 refine y.pub (s:=s) rfl rfl rfl (fun j hj=>?_) rfl rfl rfl (fun j hj=>?_) ?_
 ·simp[Hall.sweep,Hall.put,Hall.wr,Hall.did,sput,hj]
 ·exact bset_ne hj
 ·have h1:=(y.b s hs).1
  have h2:=y.t
  have:(((H.take 8).sweep 8 s (H.take 8).t).ss s).book=(sweepB ((H.take 8).ss s).book (H.take 8).t.now).1:=by simp[Hall.sweep,Hall.put,Hall.wr,Hall.did,sput]
  rw[this,h1,h2]
  exact (bset_same _ _ _).symm
theorem HmI.write {H:Hall}{M:Tbl}(x:HmI H M)(w:Int)(o:OpD){s:Nat}(hs:s<H.n)(hst:M.stripe o.user=s):HmI (((H.take w).write w s o (H.take w).t).1.pub w s) (M.write o).1∧(M.write o).2=repE ((H.take w).write w s o (H.take w).t).2:=by
 have y:=x.take w
 have hc:(H.take w).t.closed=M.t.closed:=by rw[y.t]; rfl
 have hb:=(y.b s hs).1
 cases hcl:M.t.closed with
 | true =>
  have e1:(H.take w).write w s o (H.take w).t=((H.take w).wr w s,5):=by unfold Hall.write; rw[if_pos (by rw[hc,hcl])]
  have e2:M.write o=(M.take,repE 5):=by unfold Tbl.write; rw[if_pos hcl]
  rw[e1,e2]
  refine⟨y.pub (s:=s) rfl rfl rfl (fun _ _=>rfl) rfl rfl rfl (fun _ _=>rfl) hb,rfl⟩
 | false =>
  have e2:M.write o=(M.take.writeAt s o M.take.t,repE (writeB (M.bk s) o M.t.now M.c.sessions).2.2):=by unfold Tbl.write; rw[if_neg (by rw[hcl]; simp),hst]
  have hn:(H.take w).t.now=M.t.now:=by rw[y.t]; rfl
  have hcc:(H.take w).c.sessions=M.c.sessions:=by rw[y.c]; rfl
  have hbk:((H.take w).ss s).book=M.bk s:=hb
  have e3:((H.take w).write w s o (H.take w).t).2=(writeB (M.bk s) o M.t.now M.c.sessions).2.2:=by unfold Hall.write; rw[if_neg (by rw[hc,hcl]; simp),hn,hcc,hbk]
  rw[e2,e3]
  have e1:∀ j,((H.take w).write w s o (H.take w).t).1.ss j=if j=s then { (H.take w).ss s with book:=(writeB (M.bk s) o M.t.now M.c.sessions).1,feed:=((H.take w).ss s).feed.tell (writeB (M.bk s) o M.t.now M.c.sessions).2.1 (H.take w).t.seq } else (H.take w).ss j:=by
   intro j
   unfold Hall.write
   rw[if_neg (by rw[hc,hcl]; simp),hn,hcc,hbk]
   simp[Hall.put,sput,Hall.wr,Hall.did]
  refine⟨y.pub (s:=s) ?_ ?_ ?_ (fun j hj=>?_) rfl rfl rfl (fun j hj=>?_) ?_,rfl⟩
  ·unfold Hall.write; rw[if_neg (by rw[hc,hcl]; simp)]; rfl
  ·unfold Hall.write; rw[if_neg (by rw[hc,hcl]; simp)]; rfl
  ·unfold Hall.write; rw[if_neg (by rw[hc,hcl]; simp)]; rfl
  ·rw[e1,if_neg hj]
  ·exact bset_ne hj
  ·rw[e1,if_pos rfl]
   exact (bset_same _ _ _).symm
theorem HmI.stored {H:Hall}{M:Tbl}(x:HmI H M):H.stored=M.stored:=by
 unfold Hall.stored Tbl.stored Hall.tbl
 show ((List.range H.n).map fun s=>storedB (H.ss s).book).sum=_
 rw[x.n]
 congr 1
 refine List.map_congr_left fun s hs=>?_
 rw[(x.b s (by rw[x.n]; exact List.mem_range.1 hs)).1]
theorem HmI.pres {H:Hall}{M:Tbl}(x:HmI H M)(u:ByteArray){s:Nat}(hs:s<H.n)(hst:M.stripe u=s):presB (H.ss s).snap u H.t.now=M.pres u:=by
 unfold Tbl.pres
 rw[hst,(x.b s hs).2,x.t]
theorem HmI.rest {H:Hall}{M:Tbl}(x:HmI H M)(who:Int)(o:OpD)(h:badB o=true∨clientB who=false∨o.kind=6∨o.kind=7∨o.kind=8):HmI H (M.do_ who o).1:=by
 unfold Tbl.do_
 by_cases c0:badB o=true∨clientB who=false
 ·rw[if_pos c0]; exact x
 rw[if_neg c0]
 have hk:o.kind=6∨o.kind=7∨o.kind=8:=by
  rcases h with h | h | h
  ·exact absurd (.inl h) c0
  ·exact absurd (.inr h) c0
  ·exact h
 rw[if_neg (by omega)]
 by_cases c8:o.kind=8
 ·rw[if_pos c8]
  exact x.fd rfl rfl rfl rfl
 rw[if_neg c8]
 cases hcl:M.t.closed with
 | true=>simp; exact x
 | false =>
  simp only[Bool.false_eq_true,if_false]
  by_cases c6:o.kind=6
  ·rw[if_pos c6]
   unfold Tbl.watch
   split
   ·exact x
   ·exact x.fd rfl rfl rfl rfl
  ·rw[if_neg c6,if_pos (by omega)]
   exact x.fd rfl rfl rfl rfl
end Go.Den
namespace Go.Proofs.YtcnphhhcknhhaaaGreat
open Go Go.Den Go.MapKept
set_option linter.unusedSimpArgs false
set_option linter.unusedVariables false
set_option maxRecDepth 20000
theorem tmNe (p q:Tm){x y:Operand}{K:Value→Prop}:pvM P (do eqGuard .neq qpZ x y (.agg (tmC p).toArray) (.agg (tmC q).toArray); binOp .neq qpZ (.agg (tmC p).toArray) (.agg (tmC q).toArray)) K=K (.bool (!decide (p=q))):=by
 simp -implicitDefEqProofs only[tmC]
 rw[pv_neq (d:=5) (b:=(p.now == q.now) && ((p.seq == q.seq) && ((p.closed == q.closed) && true))) (by kernel_rfl) (by omega) (by kernel_rfl)]
 have:((p.now == q.now) && ((p.seq == q.seq) && ((p.closed == q.closed) && true)))=decide (p=q):=by
  rw[Bool.eq_iff_iff]; cases p; cases q; simp
 rw[this]
theorem g4:Gd [4]:=⟨3,[],rfl⟩
end Go.Proofs.YtcnphhhcknhhaaaGreat
namespace Go.Proofs.YtcnphhhcknhhaaaGreat
open Go Go.Den Go.MapKept
set_option linter.unusedSimpArgs false
set_option linter.unusedVariables false
set_option maxRecDepth 20000
variable {K:KTy}
set_option maxHeartbeats 2000000 in
theorem msweep_ok {s:Nat}{T:Tags}{h:Heap}{g:Tag}{p m:Nat}{M:Tbl}(w:Wf T h)(gg:Gd g)(x:MdR T h g p M)(hsn:s<M.n)(hs:TS m M)(hm:m<100000)
  (hk:∀ T' h',Only (pre g) T h T' h'→MdR T' h' g p (M.sweep s)→K (.tuple #[]) h'):callM P qgqZ #[ptr p,.int .i64 s] h K:=by
 have n8:M.n≤8:=by have:=hs.nn; have:=hs.rt; simp[rightB] at this; omega
 have e:M.sweep s=M.take.sweepAt s M.take.t:=by
  have hc:(0:Int)≤s∧(s:Int)<M.n:=by omega
  simp -implicitDefEqProofs only[Tbl.sweep,if_pos hc,Int.toNat_natCast]
 rw[e] at hk
 apply qpoZ
 unfold qgYZ
 obtain⟨bv,fv,Kk,V,F,x⟩:=x
 have cp:=x.hp
 simp -implicitDefEqProofs only[mdC] at cp
 have hlen:=x.bk.len
 have h0:¬ (s:Int)<0:=by omega
 have h1:¬ (M.n:Int)≤s:=by omega
 simp -implicitDefEqProofs[ld_at cp,cel_of cp,stm_at cp,stm_upd,ld_same,cel_same,over,hlen,h0,h1]
 unfold qjeZ
 refine mtake_ok w gg x hs.ts fun h2 o2 x2=>?_
 have cp:=x2.hp
 simp -implicitDefEqProofs only[mdC] at cp
 obtain⟨b,rb,ia,l1⟩:=x2.ldb (s:=s) hsn
 have hbr:=x2.br s hsn
 have bm:=hs.bk s hsn
 have fg:=(hs.fd s hsn).g hm
 have ht0:M.take.t.now=M.t.now:=rfl
 have hlen2:(sweepB (M.bk s) M.t.now).2.length<100000:=Nat.lt_of_le_of_lt (sweep_chg (M.bk s) M.t.now (M.bk s).length) (by have:=bm.bl; omega)
 unfold qjdZ
 simp -implicitDefEqProofs[ld_at cp,cel_of cp,stm_at cp,stm_upd,ld_same,cel_same,over,ia,l1,ht0]
 refine bsweep_ok _ bm.bw (by have:=bm.bl; omega) bm.bs (fun y hy=>by have:=bm.bn y hy; omega) M.t.now o2.wf hbr fun h5 k v cv e5 hb hc=>?_
 have o5:Only non T h2 T h5:=Only.of_ext o2.wf e5
 have x5:=x2.kp o5.k (Off.non _) (not_non _)
 have cp5:=x5.hp
 simp -implicitDefEqProofs only[mdC] at cp5
 have p1:=hb.1.one
 have p2:=hb.2.1.one
 unfold qjcZ
 simp -implicitDefEqProofs[ld_at cp5,cel_of cp5,stm_at cp5,stm_upd,ld_same,cel_same,over,ia]
 refine mbook_tell (seq:=M.take.t.seq) o5.wf gg x5 hsn rb hb hc (by show (sweepB (M.bk s) M.t.now).2.length<_; omega) fg fun h6 o6 ⟨fb,f1,f2⟩ cp6 hT=>?_
 simp -implicitDefEqProofs only[mdC] at cp6
 simp -implicitDefEqProofs[ld_at cp6,cel_of cp6,stm_at cp6,stm_upd,ld_same,cel_same,over,f1,f2]
 refine hT _ fun T7 h7 o7 x7=>?_
 exact hk T7 h7 (((o2.mono fun _=>eq_pre).up o5 non_up).trans o7) x7
end Go.Proofs.YtcnphhhcknhhaaaGreat
namespace Go.Proofs.YtcnphhhcknhhaaaGreat
open Go Go.Den Go.MapKept
set_option linter.unusedSimpArgs false
set_option linter.unusedVariables false
set_option maxRecDepth 20000
theorem u32_id {a:Int}(h0:0≤a)(h1:a<4294967296):IntKind.u32.wrap a=a:=by
 unfold IntKind.wrap
 simp -implicitDefEqProofs[IntKind.bits,IntKind.signed]
 omega
theorem pow8 {w:Nat}(hw:w<8):(2:Int) ^ w≤128∧0<(2:Int) ^ w:=by
 have:w=0∨w=1∨w=2∨w=3∨w=4∨w=5∨w=6∨w=7:=by omega
 rcases this with rfl | rfl | rfl | rfl | rfl | rfl | rfl | rfl<;>decide
theorem b_shl {w:Nat}(hw:w<8):binV .shl 2 true (.int .u32 1) (.int .i64 w)=some (.int .u32 (2 ^ w)):=by
 have h:=pow8 hw
 have h0:¬ (w:Int)<0:=by omega
 have hm:min w 32=w:=by omega
 simp -implicitDefEqProofs only[binV,intV,if_neg h0,Int.toNat_natCast,IntKind.bits,hm,Int.one_mul]
 rw[u32_id (by omega) (by omega)]
theorem b_or {m:Int}{w:Nat}(hw:w<8):binV .or 2 false (.int .u32 m) (.int .u32 (2 ^ w))=some (.int .u32 (mor m w)):=by
 have:=mor_rng m w
 simp -implicitDefEqProofs only[binV,intV,if_true,bitV,IntKind.bits]
 show some (Value.int .u32 (IntKind.u32.wrap ((BitVec.ofInt 32 m ||| BitVec.ofInt 32 (2 ^ w)).toNat:Int)))=_
 have e:((BitVec.ofInt 32 m ||| BitVec.ofInt 32 (2 ^ w)).toNat:Int)=mor m w:=by simp[mor]
 rw[e,u32_id this.1 this.2]
theorem b_clr {m:Int}{w:Nat}(hw:w<8):binV .andNot 2 false (.int .u32 m) (.int .u32 (2 ^ w))=some (.int .u32 (mclr m w)):=by
 have:=mclr_rng m w
 simp -implicitDefEqProofs only[binV,intV,if_true,bitV,IntKind.bits]
 show some (Value.int .u32 (IntKind.u32.wrap ((BitVec.ofInt 32 m &&& ~~~BitVec.ofInt 32 (2 ^ w)).toNat:Int)))=_
 have e:((BitVec.ofInt 32 m &&& ~~~BitVec.ofInt 32 (2 ^ w)).toNat:Int)=mclr m w:=by simp[mclr]
 rw[e,u32_id this.1 this.2]
theorem FeedX.stw {T:Tags}{h:Heap}{g:Tag}{p:Nat}{f:Feed}{kw vw k v:Value}{q:Nat→Nat}(x:FeedX T h g p f kw vw q)(w:Wf T h)(gg:Gd g){ws:List (ByteArray × Int)}(y:WsR (fz T h) k v ws){c:Array Value}(hc:c=(feedC k v fun j=>ptr (q j)).toArray) :
  Only (fun t=>t=g++[0]) T h T (upd h p (.cells c qafZ (0,0)))∧FeedX T (upd h p (.cells c qafZ (0,0))) g p { f with ws:=ws } k v q:=by
 have o:Only (fun t=>t=g++[0]) T h T (upd h p (.cells c qafZ (0,0))):=Only.upd w x.hp x.tp
 have e:=o.ext (by simp)
 exact⟨o,by rw[upd_same',hc],x.tp,y.1.ext (@StrR.ext) e,y.2.1.ext (@MaskR.ext) e,fun j hj=>(x.xq j hj).kp o.k (off_eq (by simp)),y.2.2.1,y.2.2.2⟩
variable {K:KTy}
theorem fwatch_ok (who:Int)(u:ByteArray)(hu:u.size≤maxLen){T:Tags}{h:Heap}{g:Tag}{p:Nat}{f:Feed}(w:Wf T h)(gg:Gd g)(x:FeedR T h g p f)(fg:FdG f)(hl:f.ws.length<999999)
  (hk:∀ T' h',Only (pre g) T h T' h'→FeedR T' h' g p (f.watch who u)→K (.tuple #[]) h'):callM P qhrZ #[ptr p,.int .i64 who,.string u] h K:=by
 apply qqfZ
 unfold qhYZ
 refine client_ok who ?_
 unfold qlxZ
 cases hc:clientB who with
 | false =>
  simp -implicitDefEqProofs
  have e:f.watch who u=f:=by simp[Feed.watch,hc]
  rw[e] at hk
  exact hk T h (Only.refl w) x
 | true =>
 have e:f.watch who u={ f with ws:=putB f.ws u (mor (valL 0 f.ws u) who) }:=by simp[Feed.watch,hc]
 rw[e] at hk
 obtain⟨n,rfl⟩:∃ n:Nat,who=n:=⟨who.toNat,by simp[clientB] at hc; omega⟩
 have hn:n<8:=by simp[clientB] at hc; omega
 simp -implicitDefEqProofs
 unfold qlwZ
 obtain⟨kw,vw,q,x⟩:∃ kw vw q,FeedX T h g p f kw vw q:=by
  obtain⟨kw,vw,q,a1,a2,a3,a4,a5,a6,a7⟩:=x
  exact⟨kw,vw,q,a1,a2,a3,a4,a5,a6,a7⟩
 have cp:=x.hp
 have hws:WsR (fz T h) kw vw f.ws:=⟨x.x1,x.x2,x.s1,x.s2⟩
 have ldw:∀ h',h' p=some (.cells (feedC kw vw fun j=>ptr (q j)).toArray qafZ (0,0))→ldV (some (some 2)) (.pointer (some ⟨p,0,none⟩)) h'=some (.agg #[kw,vw]):=fun h' c=>by simp[ld_at c,feedC,feedG,List.range_succ]
 simp -implicitDefEqProofs[ldw _ cp]
 refine mget_ok f.ws fg.so u (fz_ext T h) hws (by omega) fun h1 e1=>?_
 have o1:Only non T h T h1:=Only.of_ext w e1
 have x1:=x.kp o1.k (Off.non _) (not_non _)
 unfold qlvZ
 simp -implicitDefEqProofs[ldw _ x1.hp,b_shl hn,b_or hn]
 refine mwith_ok f.ws fg.so u hu _ o1.wf ⟨x1.x1,x1.x2,x1.s1,x1.s2⟩ (by omega) fun h2 k v e2 y2=>?_
 have o2:Only non T h1 T h2:=Only.of_ext o1.wf e2
 have x2:=x1.kp o2.k (Off.non _) (not_non _)
 have cp2:=x2.hp
 have p1:=y2.1.one
 have p2:=y2.2.1.one
 obtain⟨o3,x3⟩:=x2.stw o2.wf gg y2 (c:=(feedC k v fun j=>ptr (q j)).toArray) rfl
 simp -implicitDefEqProofs only[feedC,feedG,List.range_succ] at cp2 o3 x3
 simp at cp2 o3 x3
 simp -implicitDefEqProofs[ld_at cp2,cel_of cp2,stm_at cp2,stm_upd,ld_same,cel_same,over,p1.1,p1.2,p2.1,p2.2]
 exact hk T _ (((o1.trans o2).mono fun _=>non_up _).up o3 fun t=>eq_pre) x3.r
theorem funwatch_ok (who:Int)(u:ByteArray)(hu:u.size≤maxLen){T:Tags}{h:Heap}{g:Tag}{p:Nat}{f:Feed}(w:Wf T h)(gg:Gd g)(x:FeedR T h g p f)(fg:FdG f)(hl:f.ws.length<999999)
  (hk:∀ T' h',Only (pre g) T h T' h'→FeedR T' h' g p (f.unwatch who u)→K (.tuple #[]) h'):callM P qguZ #[ptr p,.int .i64 who,.string u] h K:=by
 apply qptZ
 unfold qhgZ
 obtain⟨kw,vw,q,x⟩:∃ kw vw q,FeedX T h g p f kw vw q:=by
  obtain⟨kw,vw,q,a1,a2,a3,a4,a5,a6,a7⟩:=x
  exact⟨kw,vw,q,a1,a2,a3,a4,a5,a6,a7⟩
 have cp:=x.hp
 have hws:WsR (fz T h) kw vw f.ws:=⟨x.x1,x.x2,x.s1,x.s2⟩
 have ldw:∀ h',h' p=some (.cells (feedC kw vw fun j=>ptr (q j)).toArray qafZ (0,0))→ldV (some (some 2)) (.pointer (some ⟨p,0,none⟩)) h'=some (.agg #[kw,vw]):=fun h' c=>by simp[ld_at c,feedC,feedG,List.range_succ]
 simp -implicitDefEqProofs[ldw _ cp]
 refine mget_ok f.ws fg.so u (fz_ext T h) hws (by omega) fun h1 e1=>?_
 have o1:Only non T h T h1:=Only.of_ext w e1
 have x1:=x.kp o1.k (Off.non _) (not_non _)
 have p1':Only (pre g) T h T h1:=o1.mono fun _=>non_up _
 unfold qjJZ
 simp -implicitDefEqProofs
 refine client_ok who ?_
 unfold qjIZ
 cases hc:clientB who with
 | false =>
  have e:f.unwatch who u=f:=by simp[Feed.unwatch,hc]
  rw[e] at hk
  simp -implicitDefEqProofs
  exact hk T h1 p1' x1.r
 | true =>
 obtain⟨n,rfl⟩:∃ n:Nat,who=n:=⟨who.toNat,by simp[clientB] at hc; omega⟩
 have hn:n<8:=by simp[clientB] at hc; omega
 by_cases hm:valL 0 f.ws u=0
 ·have e:f.unwatch n u=f:=by simp[Feed.unwatch,hm]
  rw[e] at hk
  simp -implicitDefEqProofs[hm]
  exact hk T h1 p1' x1.r
 simp -implicitDefEqProofs[hm]
 unfold qjHZ
 simp -implicitDefEqProofs[b_shl hn,b_clr hn]
 by_cases hz:mclr (valL 0 f.ws u) n=0
 ·have e:f.unwatch n u={ f with ws:=delB f.ws u }:=by simp[Feed.unwatch,hc,hm,hz]
  rw[e] at hk
  simp -implicitDefEqProofs[hz]
  unfold qjFZ
  simp -implicitDefEqProofs[ldw _ x1.hp]
  refine mwithout_ok f.ws fg.so u o1.wf ⟨x1.x1,x1.x2,x1.s1,x1.s2⟩ (by omega) fun h2 k v e2 y2=>?_
  have o2:Only non T h1 T h2:=Only.of_ext o1.wf e2
  have x2:=x1.kp o2.k (Off.non _) (not_non _)
  have cp2:=x2.hp
  have p1:=y2.1.one
  have p2:=y2.2.1.one
  obtain⟨o3,x3⟩:=x2.stw o2.wf gg y2 (c:=(feedC k v fun j=>ptr (q j)).toArray) rfl
  simp -implicitDefEqProofs only[feedC,feedG,List.range_succ] at cp2 o3 x3
  simp at cp2 o3 x3
  simp -implicitDefEqProofs[ld_at cp2,cel_of cp2,stm_at cp2,stm_upd,ld_same,cel_same,over,p1.1,p1.2,p2.1,p2.2]
  exact hk T _ (((o1.trans o2).mono fun _=>non_up _).up o3 fun t=>eq_pre) x3.r
 ·have e:f.unwatch n u={ f with ws:=putB f.ws u (mclr (valL 0 f.ws u) n) }:=by simp[Feed.unwatch,hc,hm,hz]
  rw[e] at hk
  simp -implicitDefEqProofs[hz]
  unfold qjGZ
  simp -implicitDefEqProofs[ldw _ x1.hp]
  refine mwith_ok f.ws fg.so u hu _ o1.wf ⟨x1.x1,x1.x2,x1.s1,x1.s2⟩ (by omega) fun h2 k v e2 y2=>?_
  have o2:Only non T h1 T h2:=Only.of_ext o1.wf e2
  have x2:=x1.kp o2.k (Off.non _) (not_non _)
  have cp2:=x2.hp
  have p1:=y2.1.one
  have p2:=y2.2.1.one
  obtain⟨o3,x3⟩:=x2.stw o2.wf gg y2 (c:=(feedC k v fun j=>ptr (q j)).toArray) rfl
  simp -implicitDefEqProofs only[feedC,feedG,List.range_succ] at cp2 o3 x3
  simp at cp2 o3 x3
  simp -implicitDefEqProofs[ld_at cp2,cel_of cp2,stm_at cp2,stm_upd,ld_same,cel_same,over,p1.1,p1.2,p2.1,p2.2]
  exact hk T _ (((o1.trans o2).mono fun _=>non_up _).up o3 fun t=>eq_pre) x3.r
end Go.Proofs.YtcnphhhcknhhaaaGreat
namespace Go.Proofs.YtcnphhhcknhhaaaGreat
open Go Go.Den Go.MapKept
set_option linter.unusedSimpArgs false
set_option linter.unusedVariables false
set_option maxRecDepth 20000
def evX (l:List Evt):List (Array Value):=l.map fun e=>#[.agg (evC e).toArray]
theorem zcEv:zc P quZ=some #[.string ⟨#[]⟩,.int .i64 0,.int .i64 0,.int .i64 0,.int .i64 0,.int .i64 0,.int .i64 0,.int .u64 0]:=by kernel_rfl
theorem rall_it (r : Ring) {hA : Heap} {b p : Nat} {lv : Value} (cb : hA b = some (.cells #[ptr p] qPZ (0, 0))) (cp : hA p = some (.cells (ringC r lv).toArray qyZ (0, 0))) (x : Sl 8 EvR hA lv r.l) (hl : r.l.length < 1000000) :
    It P qbZZ #[ptr b] (evX r.l) hA := by
  intro yv I S h K hx hs h0 hround hK1 hK2
  apply qlSZ
  unfold qcqZ
  have cb0 := hx _ _ h0 _ _ cb
  have cp0 := hx _ _ h0 _ _ cp
  simp -implicitDefEqProofs only [ringC] at cp0
  have hlen := x.len
  simp -implicitDefEqProofs [ld_at cb0, cel_of cb0, stm_at cb0, ld_at cp0, cel_of cp0, stm_at cp0, stm_upd, ld_same, cel_same, over, hlen]
  refine loop_on [0, 8, 9] (fun s h' => ∃ k : Nat, k ≤ r.l.length ∧ s 10 = .int .i64 k ∧ I k h') (fun s _ => (r.l.length - num (s 10)).toNat) ⟨0, by omega, rfl, h0⟩ ?_
  rintro s h1 hf ⟨k, hk, s10, hI⟩
  have s0 : s 0 = yv := by simpa using hf 0 (by simp)
  have s8 : s 8 = lv := by simpa using hf 8 (by simp)
  have s9 : s 9 = .int .i64 r.l.length := by simpa using hf 9 (by simp)
  unfold qfdZ
  simp -implicitDefEqProofs only [s9, s10, bin_lss, ov_s, cd_b]
  refine ⟨fun hc => ?_, fun hc => ?_⟩
  rotate_left
  · have : k = r.l.length := by have : ¬ ((k : Int) < r.l.length) := by simpa using hc
                                omega
    subst this
    simp -implicitDefEqProofs
    exact hK1 _ _ (by simpa [evX] using hI)
  have hlt : k < r.l.length := by have : ((k : Int) < r.l.length) := by simpa using hc
                                  omega
  have hw : IntKind.i64.wrap ((k : Int) + 1) = k + 1 := wrap64_id (by omega) (by omega)
  have eA := hx _ _ hI
  obtain ⟨eb, eo, i1, i2⟩ := ev_ld x (k := .i64) hlt
  unfold qfcZ
  simp -implicitDefEqProofs only [s8, s10, i1, ov_s, ldV_n (i2 _ eA), zcEv]
  refine nw_st rfl (by simp [evC, presC]) (by simp [evC, presC]) fun vb h3 n3 e3 c3 => ?_
  have c3 : h3 vb = some (.cells (evC r.l[k]).toArray quZ (0, 0)) := by simpa using c3
  have hld : ldV (some (some 8)) (ptr vb) h3 = some (.agg (evC r.l[k]).toArray) := by simp [ld_at c3, evC, presC]
  simp -implicitDefEqProofs only [hld, ov_s, s0]
  have hj : k < (evX r.l).length := by simpa [evX] using hlt
  have hr := hround k hj h3
  have hx' : (evX r.l)[k] = #[.agg (evC r.l[k]).toArray] := by simp [evX]
  rw [hx'] at hr
  refine hr _ (hs _ _ _ hI e3) (fun h4 hI4 => ?_) (fun h4 hS => ?_)
  · unfold qbKZ qfbZ
    simp -implicitDefEqProofs [s10, hw, s0, s8, s9]
    exact ⟨⟨k + 1, by omega, by simp, hI4⟩, by omega⟩
  · unfold qbKZ
    simp -implicitDefEqProofs
    exact hK2 _ _ hS
def DrJ (hB:Heap)(v1:Nat)(l:List Evt)(q b' i:Nat)(h':Heap):Prop :=
 ∃ ov,h' v1=some (.cells #[ov] qrZ (0,0))∧Row 8 quZ h' ov i ((l.take i).flatMap evC)∧Ext (wo hB [v1]) h'∧∀ r,rowOf ov=some r→r≠v1∧r≠q∧r≠b'∧hB r=none
def DrC (hB:Heap)(v1:Nat)(l:List Evt)(q b' i:Nat)(s2:Env)(h':Heap):Prop:=DrJ hB v1 l q b' i h'∧s2 4=ptr v1∧∃ (hi:i<l.length) (xb:Nat),s2 5=ptr xb∧xb≠q∧xb≠v1∧h' xb=some (.cells (evC l[i]).toArray quZ (0,0))
theorem DrJ.keep {hB:Heap}{v1:Nat}{l:List Evt}{q b' i:Nat}{h' h'':Heap}(J:DrJ hB v1 l q b' i h')(hl':hB q=none)(h3:hB v1≠none)(k:Keep (some q) h' h''):DrJ hB v1 l q b' i h'':=by
 obtain⟨ov,c,r,e,n⟩:=J
 refine⟨ov,k _ _ c (fun hh=>by cases hh; exact h3 hl'),r.of_at fun g hg=>?_,wo_keep e hl' k,n⟩
 obtain⟨o,ho⟩:=r.lt g hg
 rw[ho]; exact k _ _ ho (fun hh=>(n g hg).2.1 (by cases hh; rfl))
theorem zcSlEv:zc P qrZ=some #[.slice none 0 0]:=by kernel_rfl
variable {K:KTy}
set_option maxHeartbeats 2000000 in
theorem rdrain_ok {T:Tags}{h:Heap}{g:Tag}{p:Nat}{r:Ring}(w:Wf T h)(gg:Gd g)(x:RingR T h g p r)(hl:r.l.length<1000000)
  (hk:∀ T' h' v,Only (pre g) T h T' h'→RingR T' h' g p ⟨r.room,[],false⟩→Sl 8 EvR (fz T' h') v r.l→K (.tuple #[v,.bool r.lost]) h'):callM P qzZ #[ptr p] h K:=by
 apply qmtZ
 unfold qcDZ
 rw[zcSlEv]
 refine nw_intro fun v1 h1 n1 e1 c1=>?_
 obtain⟨lv,cp,tp,rl⟩:=x
 have cp1:=e1 _ _ cp
 have xs:Sl 8 EvR h lv r.l:=Row.slE (enc:=evC) (R:=EvR) (fun e=>by simp[evC,presC]) (fun _=>rfl) rl.1
 have n1p:p≠v1:=fun hh=>by subst hh; rw[cp] at n1; cases n1
 rw[seqM_eq]
 unfold qfhZ
 apply qmJZ
 unfold qdCZ
 simp -implicitDefEqProofs only[nwM_s,Value.cells]
 intro bA nA
 have eA:Ext h1 (upd h1 bA _):=Ext.upd nA (.cells #[ptr p] qPZ (0,0))
 have cA:=upd_same' h1 bA (.cells #[ptr p] qPZ (0,0))
 generalize upd h1 bA _=hB at *
 have nA1:v1≠bA:=ne_fresh c1 nA
 have c1:=eA _ _ c1
 have cp2:=eA _ _ cp1
 have e0B:=e1.trans eA
 have h1B:hB v1≠none:=by rw[c1]; simp
 have F1:Ext h (wo hB [v1]):=wo_ext e0B (by simpa using n1)
 have hlx:(evX r.l).length=r.l.length:=by simp[evX]
 simp -implicitDefEqProofs only[ov_s]
 unfold qfgZ
 refine rf_go good mixed rfl (by kernel_rfl) (rall_it r (hA:=wo hB [v1]) (b:=bA) (p:=p) (lv:=lv) (by rw[wo_out (by simpa using Ne.symm nA1)]; exact cA) (by rw[wo_out (by simpa using n1p)]; exact cp2) (xs.ext (@EvR.ext) F1) hl)
  (fun q b' i h'=>DrJ hB v1 r.l q b' i h') (fun _ _ _ _=>False) (fun q b' i s2 h'=>DrC hB v1 r.l q b' i s2 h') ?_ ?_ ?_ (fun _ _ _ _ _ _ _ h _=>h) ?_ ?_ ?_ ?_ ?_ (fun _ _ _ _ _ _ _ h=>h.elim) (fun _ _ _ _ _ _ _ _ h=>h.elim)
 ·intro q b' hq hb'
  exact⟨_,c1,by simpa using (Rf.nil (sz:=8) (e:=quZ) (Ext.refl hB)).row,fun k o hk=>(wo_get hk).2,fun k hk=>by simp[rowOf] at hk⟩
 ·intro q b' i h' J; obtain⟨ov,_,_,e,_⟩:=J; exact e
 ·intro q b' hq hb' i h' h'' J k
  exact J.keep hq h1B k
 ·rintro q b' i s2 ha hb hq hb' ⟨J,s4,hi,xb,s5,nx,nx1,cx⟩ k
  exact⟨J.keep hq h1B k,s4,hi,xb,s5,nx,nx1,k _ _ cx (fun hh=>nx (by cases hh; rfl))⟩
 ·intro i hi; simp[evX]
 ·rintro i hi q b' h2 hq hb' ⟨ol,hol⟩ ⟨ob,hob⟩ J
  rw[qksZ]
  unfold qeZZ
  rw[zcEv]
  have hib:i<r.l.length:=by omega
  have hxi:(evX r.l)[i]=#[.agg (evC r.l[i]).toArray]:=by simp[evX]
  rw[hxi]
  simp -implicitDefEqProofs
  refine nw_st rfl (by simp[evC,presC]) (by simp[evC,presC]) fun xb h4 n4 e4 c4=>?_
  have nx:xb≠q:=fun hh=>by subst hh; rw[hol] at n4; cases n4
  obtain⟨ov,cv,rr,e,nr⟩:=J
  refine⟨⟨⟨ov,e4 _ _ cv,rr.ext e4,e.trans e4,nr⟩,by simp,hib,xb,by simp,nx,fun hh=>(by subst hh; rw[cv] at n4; cases n4),by simpa using c4⟩,by rw[hol,e4 _ _ hol],by rw[hob,e4 _ _ hob]⟩
 ·rintro i hi q b' s2 h3 hq hb' ⟨ol,hol⟩ ⟨ob,hob⟩ ⟨⟨ov,cv,rr,e,nr⟩,s4,hib,xb,s5,nx,nx1,cx⟩
  rw[qktZ]
  unfold qfaZ
  have hld:ldV (some (some 8)) (ptr xb) h3=some (.agg (evC r.l[i]).toArray):=by simp[ld_at cx,evC,presC]
  simp -implicitDefEqProofs[s4,s5,ld_at cv,cel_of cv,stm_at cv,stm_upd,ld_same,cel_same,over,hld]
  refine app_one (x:=.agg (evC r.l[i]).toArray) bsEv unSlEv apEv (by omega) (by simp[evC,presC]) (by simp[evC,presC]) rr (by unfold maxLen; omega) (by omega) (by omega) fun a ov' h4 r4 k4 ha=>?_
  have hl3:q≠v1:=fun hh=>by subst hh; rw[hq] at c1; cases c1
  have hb3:b'≠v1:=fun hh=>by subst hh; rw[hb'] at c1; cases c1
  have cv4:h4 v1=some (.cells #[ov] qrZ (0,0)):=k4 _ _ cv (fun hh=>(nr v1 hh.symm).1 rfl)
  have hol4:h4 q=some ol:=k4 _ _ hol (fun hh=>(nr q hh.symm).2.1 rfl)
  have hob4:h4 b'=some ob:=k4 _ _ hob (fun hh=>(nr b' hh.symm).2.2.1 rfl)
  have nr':∀ k,rowOf ov'=some k→k≠v1∧k≠q∧k≠b'∧hB k=none:=fun k hk=>by
   rcases ha with ha | ⟨j,ha,hj⟩
   ·exact nr k (by rw[← ha]; exact hk)
   ·rw[ha] at hk; cases hk
    refine⟨fun hh=>?_,fun hh=>?_,fun hh=>?_,?_⟩
    ·subst hh; rw[cv] at hj; cases hj
    ·subst hh; rw[hol] at hj; cases hj
    ·subst hh; rw[hob] at hj; cases hj
    ·by_cases hg3:k=v1
     ·subst hg3; rw[cv] at hj; cases hj
     ·cases hh:hB k with
      | none=>rfl
      | some o =>
       have:=e k o (by rw[wo_out (by simpa using hg3)]; exact hh)
       rw[this] at hj; cases hj
  have okv:ov'.cells=#[ov']:=r4.one.2
  simp -implicitDefEqProofs[ld_at cv4,cel_of cv4,stm_at cv4,stm_upd,ld_same,cel_same,over,okv,r4.one.1]
  refine⟨by rw[upd_ne hl3,hol4,hol],by rw[upd_ne hb3,hob4,hob],ov',upd_same' _ _ _,?_,wo_upd ?_ (by simp),nr'⟩
  ·have:r.l.take (i+1)=r.l.take i++[r.l[i]]:=by rw[List.take_succ_eq_append_getElem hib]
   rw[this,List.flatMap_append]
   exact (by simpa using r4:Row 8 quZ h4 ov' (i+1) _).of_at fun k hk=>upd_ne (nr' k hk).1
  ·intro k o hk
   have hkB:=wo_get hk
   have:=e k o hk
   exact k4 k o this fun hh=>by rw[(nr k hh.symm).2.2.2] at hkB; cases hkB.2
 ·intro q b' h' hq hne hb' hd J
  rw[hlx] at J
  obtain⟨ov,cv,rr,e,nr⟩:=J
  rw[List.take_of_length_le (Nat.le_refl _)] at rr
  have cp3:=e _ _ (show wo hB [v1] p=_ by rw[wo_out (by simpa using n1p)]; exact cp2)
  have nb1:v1≠b':=fun hh=>by subst hh; rw[hb'] at c1; cases c1
  have nbp:p≠b':=fun hh=>by subst hh; rw[hb'] at cp2; cases cp2
  simp -implicitDefEqProofs only[ringC] at cp3
  simp -implicitDefEqProofs only[blkM_n,thenM_n]
  unfold qfiZ
  simp -implicitDefEqProofs[ld_at cp3,cel_of cp3,stm_at cp3,ld_at cv,cel_of cv,stm_at cv,stm_skip n1p,stm_skip (Ne.symm n1p),ld_skip n1p,ld_skip (Ne.symm n1p),cel_skip n1p,cel_skip (Ne.symm n1p),stm_upd,ld_same,cel_same,over,hd,ld_skip nb1,cel_skip nb1,upd_ne (Ne.symm nbp)]
  obtain⟨X,hX⟩:∃ X,X=Obj.cells #[Value.int .i64 r.room,.slice none 0 0,.bool false] qyZ (0,0):=⟨_,rfl⟩
  rw[← hX]
  have ec:upd (upd h' p X) b' (.deferred none)=upd (upd h' b' (.deferred none)) p X:=by
   funext k
   by_cases h1:k=b'
   ·subst h1; rw[upd_same',upd_ne (Ne.symm nbp),upd_same']
   ·rw[upd_ne h1]
    by_cases h2:k=p
    ·subst h2; rw[upd_same',upd_same']
    ·rw[upd_ne h2,upd_ne h2,upd_ne h1]
  rw[ec]
  have E1:Ext h (upd h' b' (.deferred none)):=ext_upd (fresh_of e0B hb') (ext_wo e0B (by simpa using n1) e)
  have o1:Only non T h T (upd h' b' (.deferred none)):=Only.of_ext w E1
  have o2:Only (fun t=>t=g++[0]) T (upd h' b' (.deferred none)) T (upd (upd h' b' (.deferred none)) p X):=Only.upd o1.wf (E1 _ _ cp) tp
  have nrh:∀ k,rowOf ov=some k→h k=none:=fun k hk=>fresh_of e0B (nr k hk).2.2.2
  refine hk T _ ov ((o1.mono fun _=>non_up _).up o2 fun t=>eq_pre) ⟨.slice none 0 0,by rw[upd_same',hX]; rfl,tp,Rw.nil _ _ _ _ _⟩ ?_
  have r2:Row 8 quZ (upd (upd h' b' (.deferred none)) p X) ov r.l.length (r.l.flatMap evC):=rr.of_at fun j hj=>by
   have hjp:j≠p:=fun hh=>by have:=nrh j hj; rw[hh,cp] at this; cases this
   rw[upd_ne hjp,upd_ne (nr j hj).2.2.1]
  exact Row.slE (enc:=evC) (R:=EvR) (fun e=>by simp[evC,presC]) (fun _=>rfl) (r2.fz w nrh)
end Go.Proofs.YtcnphhhcknhhaaaGreat
namespace Go.Proofs.YtcnphhhcknhhaaaGreat
open Go Go.Den Go.MapKept
set_option linter.unusedSimpArgs false
set_option linter.unusedVariables false
set_option maxRecDepth 20000
variable {K:KTy}
theorem fdrain_ok (who:Int){T:Tags}{h:Heap}{g:Tag}{p:Nat}{f:Feed}(w:Wf T h)(gg:Gd g)(x:FeedR T h g p f)(hl:∀ j,j<8→(f.qs j).l.length<1000000)
  (hk:∀ T' h' v,Only (pre g) T h T' h'→FeedR T' h' g p (f.drain who)→Sl 8 EvR (fz T' h') v (f.told who)→K (.tuple #[v,.bool (f.lost who)]) h'):callM P qhsZ #[ptr p,.int .i64 who] h K:=by
 apply qqgZ
 unfold qhZZ
 refine client_ok who ?_
 unfold qlzZ
 cases hc:clientB who with
 | false =>
  simp -implicitDefEqProofs
  have e1:f.drain who=f:=by simp[Feed.drain,hc]
  have e2:f.told who=[]:=by simp[Feed.told,hc]
  have e3:f.lost who=false:=by simp[Feed.lost,hc]
  rw[e1,e2,e3] at hk
  exact hk T h _ (Only.refl w) x (.inl ⟨rfl,_,_,rfl⟩)
 | true =>
 obtain⟨n,rfl⟩:∃ n:Nat,who=n:=⟨who.toNat,by simp[clientB] at hc; omega⟩
 have hn:n<8:=by simp[clientB] at hc; omega
 have e1:f.drain n={ f with qs:=qset f.qs n ⟨(f.qs n).room,[],false⟩ }:=by simp[Feed.drain,hc]
 have e2:f.told n=(f.qs n).l:=by simp[Feed.told,hc]
 have e3:f.lost n=(f.qs n).lost:=by simp[Feed.lost,hc]
 rw[e1,e2,e3] at hk
 obtain⟨kw,vw,q,cp,tp,a3,a4,a5,a6,a7⟩:=x
 simp -implicitDefEqProofs
 unfold qlyZ
 have hcel:cel h p (2+n)=some (ptr (q n)):=by
  rw[cel_of cp]
  have:n=0∨n=1∨n=2∨n=3∨n=4∨n=5∨n=6∨n=7:=by omega
  rcases this with rfl | rfl | rfl | rfl | rfl | rfl | rfl | rfl<;>simp[feedC,feedG,List.range_succ]
 simp -implicitDefEqProofs[ia_arr hn,hcel]
 refine rdrain_ok w (gg.app [1,n]) (a5 n hn) (hl n hn) fun T2 h2 v o2 r2 s2=>?_
 simp -implicitDefEqProofs
 have b:=o2.k.at cp tp (not_pre (by simp))
 have nn:¬ pre (g++[1,n]) []:=(gg.app _).nil
 refine hk T2 h2 v (o2.mono fun t=>pre_trans) ⟨kw,vw,q,b.1,b.2,a3.ext (@StrR.ext) (o2.ext nn),a4.ext (@MaskR.ext) (o2.ext nn),fun j hj=>?_,a6,a7⟩ s2
 show RingR T2 h2 _ _ (qset f.qs n _ j)
 by_cases hjn:j=n
 ·subst hjn; simp[qset]; exact r2
 ·simp -implicitDefEqProofs[qset,hjn]; exact (a5 j hj).kp o2.k (off_pre (by simp; omega) (by simp; omega))
end Go.Proofs.YtcnphhhcknhhaaaGreat
namespace Go.Proofs.YtcnphhhcknhhaaaGreat
open Go Go.Den Go.MapKept
set_option linter.unusedSimpArgs false
set_option linter.unusedVariables false
set_option maxRecDepth 20000
theorem unSlSlEv:P.underlying qbqZ=some (.slice qrZ):=by kernel_rfl
theorem apSlEv:apC P qrZ=some (1,24,1):=by kernel_rfl
theorem made_one (v:Value)(n:Nat):madeCells #[v] (n*1)=((List.range n).map fun _=>v).toArray:=by
 apply Array.ext
 ·simp -implicitDefEqProofs[madeCells]
 ·intro i h1 h2
  simp -implicitDefEqProofs[madeCells,Nat.mod_one]
end Go.Proofs.YtcnphhhcknhhaaaGreat
namespace Go.Proofs.YtcnphhhcknhhaaaGreat
open Go Go.Den Go.MapKept
set_option linter.unusedSimpArgs false
set_option linter.unusedVariables false
set_option maxRecDepth 20000
def EvsR (h:Heap)(c:List Value)(l:List Evt):Prop:=∃ v,c=[v]∧Sl 8 EvR h v l
theorem rng_set (k:Nat)(f:Nat→Value)(b:Nat)(v:Value):(((List.range k).map f).toArray.setIfInBounds b v)=((List.range k).map fun i=>if i=b then v else f i).toArray:=by
 apply Array.ext
 ·simp -implicitDefEqProofs
 ·intro i h1 h2
  rw[Array.getElem_setIfInBounds (by simpa using h2)]
  by_cases h:b=i
  ·subst h; simp
  ·rw[if_neg h]; simp[Ne.symm h]
def rngC (k:Nat)(f:Nat→Nat):Array Value:=((List.range k).map fun i=>Value.int .i64 (f i)).toArray
def restE (ls:List (List Evt))(p:Nat→Nat):List (List Evt):=(List.range ls.length).map fun i=>(nth ls i).drop (p i)
theorem nth_rest {ls:List (List Evt)}{p:Nat→Nat}{i:Nat}(hi:i<ls.length):nth (restE ls p) i=(nth ls i).drop (p i):=by
 unfold restE
 show ((List.range ls.length).map _).getD i []=_
 rw[List.getD_eq_getElem?_getD]
 simp -implicitDefEqProofs[hi]
theorem rest_len (ls:List (List Evt))(p:Nat→Nat):(restE ls p).length=ls.length:=by simp[restE]
theorem rest_zero (ls:List (List Evt)):restE ls (fun _=>0)=ls:=by
 apply List.ext_getElem (by simp[restE])
 intro i h1 h2
 simp -implicitDefEqProofs[restE,nth,h2]
theorem rest_set {ls:List (List Evt)}{p:Nat→Nat}{b:Nat}(hb:b<ls.length):(restE ls p).set b (nth (restE ls p) b).tail=restE ls (fun i=>if i=b then p b+1 else p i):=by
 apply List.ext_getElem (by simp[restE])
 intro i h1 h2
 have hi:i<ls.length:=by simpa [restE] using h2
 rw[List.getElem_set]
 by_cases h:b=i
 ·subst h
  rw[if_pos rfl,nth_rest hb]
  simp -implicitDefEqProofs[restE]
 ·rw[if_neg h]
  simp -implicitDefEqProofs[restE,Ne.symm h]
def bestV (o:Option Nat):Int:=match o with
 | some b=>b
 | none=>-1
def slen:Value→Nat
 | .slice _ n _=>n
 | _=>0
theorem row_slen {sz:Nat}{e:TypeId}{h:Heap}{v:Value}{n:Nat}{xs:List Value}(r:Row sz e h v n xs):slen v=n:=by
 rcases r.2 with ⟨rfl,h2⟩ | ⟨g,cap,cur,rfl,_⟩
 ·simp -implicitDefEqProofs only[slen]; exact h2.symm
 ·rfl
structure MgI (h:Heap)(ls:List (List Evt))(ab:Nat)(p:Nat→Nat)(out:List Evt)(ov:Value)(h':Heap):Prop where
 e:Ext h h'
 ca:h' ab=some (.cells (rngC ls.length p) qsZ (0,0))
 o:Rf 8 quZ h h' ov out.length (out.flatMap evC)
 na:rowOf ov≠some ab
 m:mergeE ls=out++mergeE (restE ls p)
 t:out.length+totE (restE ls p)=totE ls
 le:∀ i,i<ls.length→p i≤(nth ls i).length
theorem rngC_cel {h:Heap}{ab k:Nat}{p:Nat→Nat}(c:h ab=some (.cells (rngC k p) qsZ (0,0))){i:Nat}(hi:i<k):cel h ab i=some (.int .i64 (p i)):=by
 rw[cel_of c]; simp[rngC,hi]
theorem ia_sl {ab k i:Nat}(hi:i<k):iaV (some (none,1)) (.slice (some ⟨ab,0,none⟩) k k) (.int .i64 i)=some (.pointer (some ⟨ab,i,none⟩)):=by
 have:(0:Int)≤i∧(i:Int)<k:=by omega
 simp -implicitDefEqProofs[iaV,this]
theorem evs_at {F:Heap}{v:Value}{ls:List (List Evt)}(x:Sl 1 EvsR F v ls){i:Nat}(hi:i<ls.length):∃ b q u,iaV (some (none,1)) v (.int .i64 i)=some (.pointer (some ⟨b,q,none⟩))∧(∀ h',Ext F h'→cel h' b q=some u)∧Sl 8 EvR F u (nth ls i):=by
 obtain⟨b,o,c,i1,i2,i3⟩:=x.at (k:=.i64) (i:=i) (by omega) (by omega)
 simp -implicitDefEqProofs only[Int.toNat_natCast] at i3
 obtain⟨u,rfl,hu⟩:=i3
 have e:nth ls i=ls[i]:=by simp[nth,hi]
 refine⟨b,o,u,i1,fun h' e=>?_,by rw[e]; exact hu⟩
 have:=(cels_get (cels_ext e i2)).2 0 (by simp)
 simpa using this
theorem ev_seq {F:Heap}{v:Value}{l:List Evt}(x:Sl 8 EvR F v l){i:Nat}(hi:i<l.length):∃ b q,iaV (some (none,8)) v (.int .i64 i)=some (.pointer (some ⟨b,q,none⟩))∧(∀ h',Ext F h'→cels h' b q 8=some (evC l[i]))∧∀ h',Ext F h'→cel h' b (q+7)=some (.int .u64 (l[i].seq)):=by
 obtain⟨b,q,h1,h2⟩:=ev_ld x hi (k:=.i64)
 refine⟨b,q,h1,h2,fun h' e=>?_⟩
 have:=(cels_get (h2 h' e)).2 7 (by simp[evC,presC])
 simpa [evC,presC] using this
theorem hd_rest {ls:List (List Evt)}{p:Nat→Nat}{i:Nat}(hi:i<ls.length)(h:p i<(nth ls i).length):hdE (nth (restE ls p) i)=(nth ls i)[p i]:=by
 rw[nth_rest hi]
 unfold hdE
 rw[List.drop_eq_getElem_cons h]; rfl
theorem rest_ne {ls:List (List Evt)}{p:Nat→Nat}{i:Nat}(hi:i<ls.length):nth (restE ls p) i≠[]↔p i<(nth ls i).length:=by
 rw[nth_rest hi,ne_eq,List.drop_eq_nil_iff]; omega
theorem best_lt {r:List (List Evt)}{k b:Nat}(h:bestE r k=some b):b<k∧nth r b≠[]:=⟨(best_some h).h,(best_some h).ne⟩
variable {K:KTy}
theorem merge_ok (ls : List (List Evt)) {T : Tags} {h : Heap} (w : Wf T h) {v : Value} (x : Sl 1 EvsR h v ls) (hl : ls.length ≤ 1000) (ht : totE ls < 1000000) (hn : ∀ i, (nth ls i).length < 1000000) (hk : ∀ v' h', Ext h h' → Sl 8 EvR (fz T h') v' (mergeE ls) → K v' h') : callM P qmwZ #[v] h K := by
  apply qqQZ
  unfold qmMZ
  have hlen := x.len
  simp -implicitDefEqProofs only [hlen, ov_s]
  refine makeSlice_vv unSlInt apInt zcInt (n := ls.length) (by omega) (by omega) (by unfold maxLen; omega) fun ab h1 n1 e1 c1 => ?_
  unfold qojZ
  have I0 : MgI h ls ab (fun _ => 0) [] (.slice none 0 0) h1 := ⟨e1, by rw [c1, made_one]; rfl, by simpa using Rf.nil e1, by simp [rowOf], by simp [rest_zero], by simp [rest_zero], fun i _ => by omega⟩
  refine loop_on [0, 4] (fun s h' => ∃ p out ov, MgI h ls ab p out ov h' ∧ s 3 = ov) (fun s _ => totE ls + 1 - slen (s 3)) ⟨_, _, _, I0, rfl⟩ ?_
  rintro s h2 hf ⟨p, out, ov, I, s3⟩
  have s0 : s 0 = v := by simpa using hf 0 (by simp)
  have s4 : s 4 = .slice (some ⟨ab, 0, none⟩) ls.length ls.length := by simpa using hf 4 (by simp)
  unfold qoiZ
  rw [seqM_eq]
  unfold qogZ
  simp -implicitDefEqProofs only [s0, hlen, ov_s]
  refine loop_on [0, 3, 4, 11] (fun s' h' => ∃ i : Nat, h' = h2 ∧ s' 12 = .int .i64 i ∧ i ≤ ls.length ∧ s' 5 = .int .i64 (bestV (bestE (restE ls p) i))) (fun s' _ => (ls.length - num (s' 12)).toNat) ⟨0, rfl, rfl, by omega, rfl⟩ ?_
  rintro r h3 hf3 ⟨i, rfl, r12, hi, r5⟩
  have r0 : r 0 = v := by simpa [s0] using hf3 0 (by simp)
  have r3 : r 3 = ov := by simpa [s3] using hf3 3 (by simp)
  have r4 : r 4 = .slice (some ⟨ab, 0, none⟩) ls.length ls.length := by simpa [s4] using hf3 4 (by simp)
  have r11 : r 11 = .int .i64 ls.length := by simpa using hf3 11 (by simp)
  unfold qofZ
  simp -implicitDefEqProofs only [r11, r12, bin_lss, ov_s, cd_b]
  refine ⟨fun hc => ?_, fun hc => ?_⟩
  · have hlt : i < ls.length := by have : ((i : Int) < ls.length) := by simpa using hc
                                   omega
    have hw : IntKind.i64.wrap ((i : Int) + 1) = (i + 1 : Nat) := by rw [wrap64_id (by omega) (by omega)]; omega
    obtain ⟨b1, q1, u1, i1, i2, i3⟩ := evs_at x hlt
    have i2 := i2 _ I.e
    have a1 := rngC_cel I.ca hlt
    have j1 := ia_sl (ab := ab) hlt
    have l1 := i3.len
    unfold qoeZ
    rw [seqM_eq]
    unfold qodZ
    have hrl : ∀ b, b < ls.length → (nth (restE ls p) b ≠ [] ↔ p b < (nth ls b).length) := fun b hb => rest_ne hb
    have hbs : bestE (restE ls p) (i + 1) = match bestE (restE ls p) i with
      | none => if nth (restE ls p) i = [] then none else some i
      | some b => if nth (restE ls p) i ≠ [] ∧ (hdE (nth (restE ls p) i)).seq < (hdE (nth (restE ls p) b)).seq then some i else some b := rfl
    by_cases hp : p i < (nth ls i).length
    rotate_left
    · have hp' : ¬ ((p i : Int) < (nth ls i).length) := by omega
      have hnil : nth (restE ls p) i = [] := by
        rw [nth_rest hlt, List.drop_eq_nil_iff]; omega
      have hbs' : bestE (restE ls p) (i + 1) = bestE (restE ls p) i := by
        rw [hbs]; cases bestE (restE ls p) i <;> simp [hnil]
      simp -implicitDefEqProofs [r12, r4, r0, r5, j1, a1, i1, i2, l1, hp']
      unfold qlKZ
      simp -implicitDefEqProofs [r0, r3, r4, r11, r12, s0, s3, s4, hw, -Int.natCast_add]
      exact ⟨⟨i + 1, rfl, by omega, by rw [hbs']; exact r5⟩, by omega⟩
    have hp' : ((p i : Int) < (nth ls i).length) := by omega
    have hne : nth (restE ls p) i ≠ [] := (hrl i hlt).2 hp
    obtain ⟨f1, g1, t1, _, t2⟩ := ev_seq i3 hp
    have t2 := t2 _ I.e
    cases hb : bestE (restE ls p) i with
    | none =>
      rw [hb] at r5 hbs
      have hbs' : bestE (restE ls p) (i + 1) = some i := by rw [hbs]; simp [hne]
      have r5 : r 5 = .int .i64 (-1) := r5
      simp -implicitDefEqProofs [r12, r4, r0, r5, j1, a1, i1, i2, l1, hp']
      unfold qlJZ
      simp -implicitDefEqProofs [r0, r3, r4, r11, r12, s0, s3, s4, hw, -Int.natCast_add]
      exact ⟨⟨i + 1, rfl, by omega, by rw [hbs']; rfl⟩, by omega⟩
    | some b =>
      rw [hb] at r5 hbs
      obtain ⟨hbi, hbn⟩ := best_lt hb
      have hbl : b < ls.length := by omega
      have hpb : p b < (nth ls b).length := (hrl b hbl).1 hbn
      obtain ⟨b2, q2, u2, k1, k2, k3⟩ := evs_at x hbl
      have k2 := k2 _ I.e
      have a2 := rngC_cel I.ca hbl
      have j2 := ia_sl (ab := ab) hbl
      obtain ⟨f2, g2, t3, _, t4⟩ := ev_seq k3 hpb
      have t4 := t4 _ I.e
      have r5 : r 5 = .int .i64 b := r5
      have hb0 : ¬ ((b : Int) < 0) := by omega
      have hseq : ((hdE (nth (restE ls p) i)).seq < (hdE (nth (restE ls p) b)).seq) ↔ (nth ls i)[p i].seq < (nth ls b)[p b].seq := by
        rw [hd_rest hlt hp, hd_rest hbl hpb]
      by_cases hs : (nth ls i)[p i].seq < (nth ls b)[p b].seq
      · have hbs' : bestE (restE ls p) (i + 1) = some i := by rw [hbs]; simp [hne, hseq.2 hs]
        simp -implicitDefEqProofs [r12, r4, r0, r5, j1, a1, i1, i2, l1, hp', hb0, j2, a2, k1, k2, t1, t2, t3, t4, hs]
        unfold qlJZ
        simp -implicitDefEqProofs [r0, r3, r4, r11, r12, s0, s3, s4, hw, -Int.natCast_add]
        exact ⟨⟨i + 1, rfl, by omega, by rw [hbs']; rfl⟩, by omega⟩
      · have hbs' : bestE (restE ls p) (i + 1) = some b := by rw [hbs]; simp [hne, hseq, hs]
        simp -implicitDefEqProofs [r12, r4, r0, r5, j1, a1, i1, i2, l1, hp', hb0, j2, a2, k1, k2, t1, t2, t3, t4, hs]
        unfold qlKZ
        simp -implicitDefEqProofs [r0, r3, r4, r11, r12, s0, s3, s4, hw, -Int.natCast_add]
        exact ⟨⟨i + 1, rfl, by omega, by rw [hbs']; exact r5⟩, by omega⟩
  · have hie : i = ls.length := by have : ¬ ((i : Int) < ls.length) := by simpa using hc
                                   omega
    subst hie
    have hrr : bestE (restE ls p) ls.length = bestE (restE ls p) (restE ls p).length := by rw [rest_len]
    unfold qohZ
    cases hb : bestE (restE ls p) ls.length with
    | none =>
      rw [hb] at r5 hrr
      have r5 : r 5 = .int .i64 (-1) := r5
      have hm : mergeE ls = out := by rw [I.m, merge_none hrr.symm, List.append_nil]
      simp -implicitDefEqProofs [r3, r5]
      refine hk _ _ I.e ?_
      rw [hm]
      exact Row.slE (enc := evC) (R := EvR) (fun e => by simp [evC, presC]) (fun _ => rfl) (I.o.row.fz w I.o.new)
    | some b =>
      rw [hb] at r5 hrr
      obtain ⟨hbi, hbn⟩ := best_lt hb
      have hpb : p b < (nth ls b).length := (rest_ne hbi).1 hbn
      obtain ⟨b2, q2, u2, k1, k2, k3⟩ := evs_at x hbi
      have k2 := k2 _ I.e
      have a2 := rngC_cel I.ca hbi
      have j2 := ia_sl (ab := ab) hbi
      obtain ⟨f2, g2, t3, t5, t4⟩ := ev_seq k3 hpb
      have t5 := t5 _ I.e
      have r5 : r 5 = .int .i64 b := r5
      have hb0 : ¬ ((b : Int) < 0) := by omega
      have ld5 : ldV (some (some 8)) (.pointer (some ⟨f2, g2, none⟩)) h3 = some (.agg (evC (nth ls b)[p b]).toArray) := by
        simp -implicitDefEqProofs [ldV, t5]
      simp -implicitDefEqProofs [r3, r5, hb0]
      unfold qngZ
      simp -implicitDefEqProofs [r0, r5, r4, k1, k2, j2, a2, t3, ld5]
      have htot : totE ls < 1000000 := ht
      have hout : out.length < 1000000 := by have := I.t; omega
      try rw [r3]
      refine app_one (x := .agg (evC (nth ls b)[p b]).toArray) bsEv unSlEv apEv (by omega) (by simp [evC, presC]) (by simp [evC, presC]) I.o.row (by unfold maxLen; omega) (by omega) (by omega) fun a ov' h4 r4' k4 ha => ?_
      have ca4 : h4 ab = some (.cells (rngC ls.length p) qsZ (0, 0)) := k4 _ _ I.ca (Ne.symm I.na)
      have a4 := rngC_cel ca4 hbi
      have hw : IntKind.i64.wrap ((p b : Int) + 1) = (p b + 1 : Nat) := by have := hn b; rw [wrap64_id (by omega) (by omega)]; omega
      have e4 : Ext h h4 := fun k o hk => k4 _ _ (I.e _ _ hk) fun hh => by rw [I.o.new k hh.symm] at hk; cases hk
      have na4 : rowOf ov' ≠ some ab := by
        rcases ha with ha | ⟨j, ha, hj⟩
        · rw [ha]; exact I.na
        · rw [ha]; intro hh; cases hh; rw [I.ca] at hj; cases hj
      have new4 : ∀ g, rowOf ov' = some g → h g = none := fun g hg => by
        rcases ha with ha | ⟨j, ha, hj⟩
        · exact I.o.new g (by rw [← ha]; exact hg)
        · rw [ha] at hg; cases hg; exact fresh_of I.e hj
      unfold qnfZ
      simp -implicitDefEqProofs [r5, r4, j2, a4, hw, -Int.natCast_add]
      rw [stm_at (n := 1) (v := .int .i64 (p b + 1 : Nat)) ca4 rfl (by simp [rngC]; omega) (by simp)]
      have hov : over (rngC ls.length p) b (Value.int .i64 (p b + 1 : Nat)).cells.toList = rngC ls.length (fun i => if i = b then p b + 1 else p i) := by
        simp -implicitDefEqProofs only [cells_i, over]
        unfold rngC
        rw [rng_set]
        congr 2
        funext i
        by_cases hib : i = b
        · simp -implicitDefEqProofs [hib]
        · simp -implicitDefEqProofs [hib]
      rw [hov]
      have hap : h ab = none := fresh_of (Ext.refl h) (by
        cases hh : h ab with
        | none => rfl
        | some o => rw [e1 _ _ hh] at c1; rw [n1] at hh; cases hh)
      simp -implicitDefEqProofs [s0, s4, r0, r4, -Int.natCast_add]
      refine ⟨⟨fun i => if i = b then p b + 1 else p i, out ++ [(nth ls b)[p b]], ⟨ext_upd hap e4, upd_same' _ _ _, ?_, na4, ?_, ?_, fun i hi => ?_⟩⟩, ?_⟩
      · refine ⟨ext_upd hap e4, ?_, new4, ?_⟩
        · have : Row 8 quZ h4 ov' (out ++ [(nth ls b)[p b]]).length ((out ++ [(nth ls b)[p b]]).flatMap evC) := by simpa using r4'
          exact this.of_at fun g hg => upd_ne fun hh => na4 (by rw [hg, hh])
        · intro u hu
          obtain ⟨e, _, hu⟩ := List.mem_flatMap.1 hu
          simp -implicitDefEqProofs [evC, presC] at hu
          rcases hu with rfl | rfl | rfl | rfl | rfl | rfl | rfl | rfl <;> rfl
      · rw [I.m, merge_some hrr.symm, rest_set hbi, hd_rest hbi hpb, List.append_assoc]; rfl
      · have h1 := I.t
        have h2 := tot_set (r := restE ls p) (b := b) (by rw [rest_len]; exact hbi) hbn
        rw [rest_set hbi] at h2
        simp; omega
      · show (if i = b then p b + 1 else p i) ≤ _
        split
        · rename_i hib; subst hib; omega
        · exact I.le i hi
      · have h1 := row_slen r4'
        have h2 := row_slen I.o.row
        have h3 := I.t
        have h4 : 0 < totE (restE ls p) := by
          rcases Nat.eq_zero_or_pos (totE (restE ls p)) with h | h
          · exact absurd (tot_zero.1 h b) hbn
          · exact h
        rw [s3, h1, h2]; omega
end Go.Proofs.YtcnphhhcknhhaaaGreat
namespace Go.Proofs.YtcnphhhcknhhaaaGreat
open Go Go.Den Go.MapKept
set_option linter.unusedSimpArgs false
set_option linter.unusedVariables false
set_option maxRecDepth 20000
theorem mallX_at {b:List (ByteArray × Int)}{Lv:List (List Value)}{F:Heap}(l2:El 1 MaskR F Lv (b.map (·.2))){i:Nat}(hi:i<(mallX b Lv).length):∃ (hb:i<b.length),(mallX b Lv)[i]=#[.string b[i].1,.int .u32 b[i].2]:=by
 have hb:i<b.length:=by simpa [mallX] using hi
 have hL:i<Lv.length:=by rw[l2.len]; simpa using hb
 have he:Lv[i]=[.int .u32 b[i].2]:=by have:=l2.el i hL (by simpa using hb); simpa [MaskR] using this
 refine⟨hb,?_⟩
 simp -implicitDefEqProofs only[mallX,List.getElem_map,List.getElem_range]
 have e1:b.getD i (⟨#[]⟩,0)=b[i]:=by rw[List.getD_eq_getElem?_getD,List.getElem?_eq_getElem hb]; rfl
 have e2:Lv.getD i []=Lv[i]:=by rw[List.getD_eq_getElem?_getD,List.getElem?_eq_getElem hL]; rfl
 rw[e1,e2,he]; rfl
def cntTo (ws:List (ByteArray × Int))(who:Int)(i:Nat):Nat:=((ws.take i).filter fun x=>clientB who && mbit x.2 who).length
theorem cntTo_s {ws:List (ByteArray × Int)}{who:Int}{i:Nat}(hi:i<ws.length):cntTo ws who (i+1)=cntTo ws who i+if (clientB who && mbit ws[i].2 who)=true then 1 else 0:=by
 unfold cntTo
 rw[List.take_succ_eq_append_getElem hi,List.filter_append,List.length_append]
 by_cases h:(clientB who && mbit ws[i].2 who)=true<;>simp[List.filter_cons,h]
theorem cntTo_le (ws:List (ByteArray × Int))(who:Int)(i:Nat):cntTo ws who i≤ws.length:=Nat.le_trans (List.length_filter_le _ _) (by simp; omega)
def CnJ (hB:Heap)(v3:Nat)(ws:List (ByteArray × Int))(who:Int)(i:Nat)(h':Heap):Prop:=Ext (wo hB [v3]) h'∧h' v3=some (.cells #[.int .i64 (cntTo ws who i)] qsZ (0,0))
def CnC (hB:Heap)(v1 v3:Nat)(ws:List (ByteArray × Int))(who:Int)(i:Nat)(s2:Env)(h':Heap):Prop:=CnJ hB v3 ws who i h'∧s2 3=ptr v1∧s2 5=ptr v3∧∃ (hi:i<ws.length),s2 7 = .int .u32 ws[i].2
variable {K:KTy}
theorem fcount_ok (who:Int){T:Tags}{h:Heap}{g:Tag}{p:Nat}{f:Feed}(x:FeedR T h g p f)(fg:FdG f)(hk:∀ h',Ext h h'→K (.int .i64 (f.count who)) h'):callM P qauZ #[ptr p,.int .i64 who] h K:=by
 apply qqcZ
 unfold qhVZ
 refine nw_intro fun v1 h1 n1 e1 c1=>?_
 rw[zcInt]
 refine nw_st rfl rfl (by simp) fun v3 h3 n3 e3 c3=>?_
 have c1:=e3 _ _ c1
 have e0:=e1.trans e3
 have n3':h v3=none:=fresh_of e1 n3
 have ne13:v1≠v3:=ne_fresh ‹h1 v1=_› n3
 obtain⟨kw,vw,q,cp,tp,x1,x2,xq,s1,s2⟩:=x
 have cp:=e0 _ _ cp
 have hag:ldV (some (some 2)) (ptr p) h3=some (.agg #[kw,vw]):=by simp[ld_at cp,feedC,feedG,List.range_succ]
 rw[seqM_eq]
 unfold qlkZ
 simp -implicitDefEqProofs[hag]
 have xW:WsR (fz T h) kw vw f.ws:=⟨x1,x2,s1,s2⟩
 have eF:=(fz_ext T h).trans e0
 refine mall_ok f.ws eF xW fun pA hB nA eA cA=>?_
 have nA3:v3≠pA:=ne_fresh c3 nA
 have c3:=eA _ _ c3
 have c1:=eA _ _ c1
 have e0B:=e0.trans eA
 obtain⟨Lv,l1,l2⟩:=x2.els MaskR.one
 simp -implicitDefEqProofs only[List.length_map] at l1
 have hF3:(fz T h) v3=none:=by
  cases hh:(fz T h) v3 with
  | none=>rfl
  | some o=>rw[fz_ext T h _ _ hh] at n3'; cases n3'
 have F1:Ext (fz T h) (wo hB [v3]):=wo_ext ((fz_ext T h).trans e0B) (by simpa using hF3)
 have hlen:=fg.len
 unfold qljZ
 refine rf_go good mixed rfl (by kernel_rfl) (mall_it f.ws (hA:=wo hB [v3]) (p:=pA) (kw:=kw) (vw:=vw) (Lv:=Lv) (by rw[wo_out (by simpa using Ne.symm nA3)]; exact cA) (xW.ext F1) (l1.ext F1) l2.size (by simpa using l2.len))
  (fun l b' i h'=>CnJ hB v3 f.ws who i h') (fun _ _ _ _=>False) (fun l b' i s2 h'=>CnC hB v1 v3 f.ws who i s2 h') ?_ ?_ ?_ (fun _ _ _ _ _ _ _ h _=>h) ?_ ?_ ?_ ?_ ?_ (fun _ _ _ _ _ _ _ h=>h.elim) (fun _ _ _ _ _ _ _ _ h=>h.elim)
 ·intro l b' hl' hb'
  exact⟨fun q o hq=>(wo_get hq).2,by simpa [cntTo] using c3⟩
 ·intro l b' i h' J; exact J.1
 ·intro l b' hl' hb' i h' h'' J k
  exact⟨wo_keep J.1 hl' k,k _ _ J.2 (fun hh=>by cases hh; rw[hl'] at c3; cases c3)⟩
 ·rintro l b' i s2 ha hb hl' hb' ⟨J,s3,s5,hi,s7⟩ k
  exact⟨⟨wo_keep J.1 hl' k,k _ _ J.2 (fun hh=>by cases hh; rw[hl'] at c3; cases c3)⟩,s3,s5,hi,s7⟩
 ·intro i hi; simp[mallX]
 ·rintro i hi l b' h2 hl' hb' ⟨ol,hol⟩ ⟨ob,hob⟩ J
  rw[qoKZ]
  unfold qkeZ
  obtain⟨hib,hx⟩:=mallX_at l2 hi
  rw[hx]
  simp -implicitDefEqProofs
  exact⟨J,by simp,by simp,hib,by simp⟩
 ·rintro i hi l b' s2 h3 hl' hb' ⟨ol,hol⟩ ⟨ob,hob⟩ ⟨J,s3,s5,hib,s7⟩
  rw[qoLZ]
  unfold qkfZ
  have cv:=J.2
  have cw:h3 v1=some (.cells #[.int .i64 who] qsZ (0,0)):=J.1 _ _ (by rw[wo_out (by simpa using ne13)]; exact c1)
  obtain⟨m0,m1⟩:=fg.ms _ (List.getElem_mem hib)
  have hle:=cntTo_le f.ws who i
  have hw:IntKind.i64.wrap ((cntTo f.ws who i:Int)+1)=(cntTo f.ws who i+1:Nat):=by rw[wrap64_id (by omega) (by omega)]; omega
  have hl3:l≠v3:=fun hh=>by subst hh; rw[hl'] at c3; cases c3
  have hb3:b'≠v3:=fun hh=>by subst hh; rw[hb'] at c3; cases c3
  have hs:=cntTo_s (who:=who) hib
  simp -implicitDefEqProofs[s3,ld_at cw,cel_of cw,stm_at cw,stm_upd,ld_same,cel_same,over]
  refine client_ok who ?_
  cases hc:clientB who with
  | false =>
   rw[hc] at hs
   simp -implicitDefEqProofs only[Bool.false_and,Bool.false_eq_true,if_false,Nat.add_zero] at hs
   simp -implicitDefEqProofs
   exact⟨J.1,by rw[hs]; exact cv⟩
  | true =>
   rw[hc] at hs
   have hc':0≤who∧who<8:=by simpa [clientB] using hc
   have m2:0≤f.ws[i].2 / 2 ^ who.toNat:=Int.ediv_nonneg m0 (Int.pow_nonneg (by omega))
   have m3:f.ws[i].2 / 2 ^ who.toNat<4294967296:=Int.lt_of_le_of_lt (Int.ediv_le_self _ m0) m1
   by_cases hm:f.ws[i].2 / 2 ^ who.toNat % 2=1
   ·have hmb:mbit f.ws[i].2 who=true:=by simp[mbit,hm]
    rw[hmb] at hs
    simp -implicitDefEqProofs only[Bool.and_self,if_true] at hs
    simp -implicitDefEqProofs[s3,s5,s7,ld_at cw,cel_of cw,stm_at cw,ld_at cv,cel_of cv,stm_at cv,stm_upd,ld_same,cel_same,over,bin_shr32 _ _ hc'.1 hc'.2 m0,bin_and32 _ _ m2 m3,hm,hw,-Int.natCast_add]
    exact⟨by rw[upd_ne hl3,hol],by rw[upd_ne hb3,hob],wo_upd J.1 (by simp),by rw[upd_same',hs]⟩
   ·have hmb:mbit f.ws[i].2 who=false:=by simp[mbit,hm]
    rw[hmb] at hs
    simp -implicitDefEqProofs only[Bool.and_false,Bool.false_eq_true,if_false,Nat.add_zero] at hs
    simp -implicitDefEqProofs[s3,s5,s7,ld_at cw,cel_of cw,stm_at cw,ld_at cv,cel_of cv,stm_at cv,stm_upd,ld_same,cel_same,over,bin_shr32 _ _ hc'.1 hc'.2 m0,bin_and32 _ _ m2 m3,hm]
    exact⟨J.1,by rw[hs]; exact cv⟩
 ·intro l b' h' hl' hlb hb' hd J
  have hlx:(mallX f.ws Lv).length=f.ws.length:=by simp[mallX]
  rw[hlx] at J
  have cv:=J.2
  have nb3:v3≠b':=fun hh=>by subst hh; rw[hb'] at c3; cases c3
  simp -implicitDefEqProofs only[blkM_n,thenM_n]
  simp -implicitDefEqProofs[ld_at cv,cel_of cv,stm_at cv,stm_upd,ld_same,cel_same,over,hd,ld_skip nb3,cel_skip nb3]
  have hct:cntTo f.ws who f.ws.length=f.count who:=by simp[cntTo,Feed.count]
  rw[hct]
  refine hk _ ?_
  exact ext_upd (o:=.deferred none) (fresh_of e0B hb') (ext_wo e0B (by simpa using n3') J.1)
end Go.Proofs.YtcnphhhcknhhaaaGreat
namespace Go.Den
open Go
set_option linter.unusedVariables false
theorem Rw.appk {P:Program}{t ty e:TypeId}{sz bytes:Nat}{z:Array Value}{g:Tag}{v x:Value}{n:Nat}{xs:List Value}{T:Tags}{h:Heap}{K:Value→Value→Heap→Prop}
  (hb:bsI P t=some (e,sz,z)) (ht:P.underlying t=some (.slice e)) (hi:apC P e=some (sz,bytes,sz)) (hsz:0<sz) (hx:x.cells.size=sz) (h1:∀ u∈x.cells.toList,u.oneCell'=true) (w:Wf T h)
  (hv:Rw T h g sz e v n xs) (h63:n+1≤maxLen) (hby:(n+1)*bytes≤140737488355328) (hs:sz≤16777216) (hg:g≠[])
  (hk:∀ a v' T' h',Only (fun t=>t=g) T h T' h'→Rw T' h' g sz e v' (n+1) (xs++x.cells.toList)→(∀ b o,h b=some o→rowOf v≠some b→h' b=some o)→(rowOf v'=rowOf v∨∃ b,rowOf v'=some b∧h b=none)→K a v' h') :
  bsM (bsI P t) 1 [(0,x)] h fun a h'=>vvM P (Builtin.append_ #[t,t] ty #[v,a]) h' (K a):=by
 refine bs_one hb hx hs fun b h1' hbn he hc=>?_
 have o1:Only (fun t=>t=g) T h T h1':=Only.of_ext w he
 have hv1:Rw T h1' g sz e v n xs:=hv.kp (U:=non) (Only.of_ext w he).k (fun h=>h)
 refine vv_al ?_
 refine app_intro ht hi hsz hv1.1 (cels_one hc hx) h1 h63 hby fun v' h' hr hkp ha hal=>?_
 have hrow:∀ k,rowOf v=some k→T k=g:=hv.2
 have keep:∀ b o,h b=some o→rowOf v≠some b→h' b=some o:=fun k o ek hne=>hkp k o (he _ _ ek) (fun hh=>hne hh.symm)
 rcases ha with ha | ⟨k,ha,hn⟩
 ·have o2:Only (fun t=>t=g) T h1' T h':=by
   refine⟨fun k hk0=>?_,fun _ _ _=>rfl,fun k o e=>hal k o e,fun k o e n=>hkp k o e (fun hh=>n (hrow k hh.symm))⟩
   cases hh:h1' k with
   | none=>exact o1.wf k hh
   | some o=>obtain⟨o',ho'⟩:=hal k o hh; rw[ho'] at hk0; cases hk0
  exact hk _ v' T h' (o1.trans o2) ⟨hr,fun k hk0=>hrow k (by rw[← ha]; exact hk0)⟩ keep (.inl ha)
 ·have hne:∀ j o,h1' j=some o→j≠k:=fun j o e hj=>by subst hj; rw[hn] at e; cases e
  have o2:Only (fun t=>t=g) T h1' (tset T k g) h':=by
   refine⟨fun j hj=>?_,fun j o e=>tset_ne (hne j o e),fun j o e=>hal j o e,fun j o e n=>hkp j o e (fun hh=>n (hrow j hh.symm))⟩
   have hjk:j≠k:=fun e=>by
    subst e
    obtain⟨o,ho⟩:=hr.lt j ha
    rw[ho] at hj; cases hj
   rw[tset_ne hjk]
   cases hh:h1' j with
   | none=>exact o1.wf j hh
   | some o=>obtain⟨o',ho'⟩:=hal j o hh; rw[ho'] at hj; cases hj
  refine hk _ v' (tset T k g) h' (o1.trans o2) ⟨hr,fun j hj=>?_⟩ keep (.inr ⟨k,ha,fresh_of he hn⟩)
  rw[ha] at hj
  simp only[Option.some.injEq] at hj
  subst hj
  simp
theorem Only.keepk {U V:Tag→Prop}{T T1 T2:Tags}{h h1 h2:Heap}{r:Option Nat}(x:Only U T h T1 h1)(y:Only V T1 h1 T2 h2)(k:∀ b o,h1 b=some o→r≠some b→h2 b=some o)(hr:∀ b,r=some b→h b=none):Only U T h T2 h2:=by
 have kk:∀ b o o1,h b=some o→h1 b=some o1→h2 b=some o1:=fun b o o1 e e1=>k b o1 e1 fun hh=>by rw[hr b hh] at e; cases e
 refine⟨y.wf,fun b o e=>?_,fun b o e=>?_,fun b o e u=>?_⟩
 ·obtain⟨o1,e1⟩:=x.al b o e
  rw[y.tg b o1 e1,x.tg b o e]
 ·obtain⟨o1,e1⟩:=x.al b o e
  exact⟨o1,kk b o o1 e e1⟩
 ·exact kk b o o e (x.kp b o e u)
end Go.Den
namespace Go.Proofs.YtcnphhhcknhhaaaGreat
open Go Go.Den Go.MapKept
set_option linter.unusedSimpArgs false
set_option linter.unusedVariables false
set_option maxRecDepth 20000
section
variable {T:Tags}{h:Heap}{g:Tag}{p m:Nat}{M:Tbl}{K:KTy}
theorem ts_n8 (x:TS m M):1≤M.n∧M.n≤8:=by
 have h1:=x.rt
 have h2:=x.nn
 simp -implicitDefEqProofs only[rightB,decide_eq_true_eq] at h1; omega
theorem mpres_ok (u:ByteArray)(hu:u.size≤maxLen)(w:Wf T h)(x:MdR T h g p M)(hs:TS m M)(hm:m<100000)(hk:∀ h',Ext h h'→K (.agg (presC (M.pres u)).toArray) h'):callM P qeOZ #[ptr p,.string u] h K:=by
 apply qnHZ
 unfold qfeZ
 rw[zcPres]
 refine nw_intro fun v1 h1 n1 e1 c1=>?_
 have o1:Only non T h T h1:=Only.of_ext w e1
 have x1:=x.kp o1.k (Off.non _) (not_non _)
 have n8:=ts_n8 hs
 have nn:=hs.nn
 obtain⟨bv,fv,Kk,V,F,y⟩:=x1
 have cp:=y.hp
 simp -implicitDefEqProofs only[mdC] at cp
 have hst:=stripeOf_lt (u:=u) (n:=M.c.stripes) (by omega)
 obtain⟨s,hs'⟩:∃ s:Nat,stripeOf u M.c.stripes=s:=⟨(stripeOf u M.c.stripes).toNat,by omega⟩
 have hsn:s<M.n:=by omega
 simp -implicitDefEqProofs[ld_at cp,cel_of cp,stm_at cp,stm_upd,ld_same,cel_same,over]
 refine mstripe_ok u hu ⟨bv,fv,Kk,V,F,y⟩ (by omega) ?_
 rw[hs']
 obtain⟨b,rb,ia,ld⟩:=y.ldb hsn
 have bk:=hs.bk s hsn
 have hpr:M.pres u=presB (M.bk s) u M.t.now:=by unfold Tbl.pres Tbl.stripe; rw[hs']; simp
 unfold qhEZ
 simp -implicitDefEqProofs[ld_at cp,cel_of cp,stm_at cp,stm_upd,ld_same,cel_same,over,ia,ld]
 refine presence_ok (M.bk s) (bk.g hm).so u M.t.now (fz_ext T h1) (y.br s hsn) (bk.g hm).len ((bk.g hm).ss u) fun h2 e2=>?_
 have c1:=e2 _ _ c1
 rw[← hpr]
 simp -implicitDefEqProofs only[presC]
 simp -implicitDefEqProofs[ld_at c1,cel_of c1,stm_at c1,stm_upd,ld_same,cel_same,over]
 exact kv (hk _ (ext_upd n1 (e1.trans e2))) (by simp[presC])
theorem mcnt_s (M:Tbl)(who:Int)(s:Nat):((List.range (s+1)).map fun s=>(M.fd s).count who).sum=((List.range s).map fun s=>(M.fd s).count who).sum+(M.fd s).count who:=by simp[List.range_succ,List.map_append,List.sum_append]
def McI (h0:Heap)(M:Tbl)(who:Int)(i:Nat)(nv:Value)(h':Heap):Prop:=Ext h0 h'∧nv = .int .i64 (((List.range i).map fun s=>(M.fd s).count who).sum:Nat)
theorem mwatch_ok (who:Int)(u:ByteArray)(hu:u.size≤maxLen)(w:Wf T h)(gg:Gd g)(x:MdR T h g p M)(hs:TS m M)(hm:m<100000)(hk:∀ T' h',Only (pre g) T h T' h'→MdR T' h' g p (M.watch who u).1→K (.int .i64 (M.watch who u).2.err) h'):callM P qgtZ #[ptr p,.int .i64 who,.string u] h K:=by
 apply qpsZ
 unfold qhfZ
 have n8:=ts_n8 hs
 have nn:=hs.nn
 obtain⟨bv,fv,Kk,V,F,y⟩:=x
 have cp:=y.hp
 simp -implicitDefEqProofs only[mdC] at cp
 have hst:=stripeOf_lt (u:=u) (n:=M.c.stripes) (by omega)
 obtain⟨s,hs'⟩:∃ s:Nat,stripeOf u M.c.stripes=s:=⟨(stripeOf u M.c.stripes).toNat,by omega⟩
 have hsn:s<M.n:=by omega
 have hms:M.stripe u=s:=by unfold Tbl.stripe; rw[hs']; simp
 simp -implicitDefEqProofs[ld_at cp,cel_of cp,stm_at cp,stm_upd,ld_same,cel_same,over]
 refine mstripe_ok u hu ⟨bv,fv,Kk,V,F,y⟩ (by omega) ?_
 rw[hs']
 obtain⟨b,ia,ld⟩:=y.ldf hsn
 unfold qjEZ
 simp -implicitDefEqProofs[ld_at cp,cel_of cp,stm_at cp,stm_upd,ld_same,cel_same,over,ia,ld]
 rw[seqM_eq]
 unfold qjAZ
 have fl:=y.fd.len
 simp -implicitDefEqProofs[ld_at cp,cel_of cp,stm_at cp,stm_upd,ld_same,cel_same,over,fl]
 refine loop_on [0,1,2,7,23,24] (fun s' h'=>∃ i:Nat,McI h M who i (s' 8) h'∧s' 25 = .int .i64 i∧i≤M.n) (fun s' _=>(M.n-num (s' 25)).toNat) ⟨0,⟨Ext.refl _,by simp⟩,rfl,by omega⟩ ?_
 rintro r h2 hf ⟨i,⟨e2,r8⟩,r25,hi⟩
 have r0:r 0=ptr p:=by simpa using hf 0 (by simp)
 have r1:r 1 = .int .i64 who:=by simpa using hf 1 (by simp)
 have r2:r 2 = .string u:=by simpa using hf 2 (by simp)
 have r7:r 7=ptr (F s):=by simpa using hf 7 (by simp)
 have r23:r 23=fv:=by simpa using hf 23 (by simp)
 have r24:r 24 = .int .i64 M.n:=by simpa using hf 24 (by simp)
 have o2:Only non T h T h2:=Only.of_ext w e2
 have y2:=y.kp o2.k (Off.non _) (not_non _)
 have cle:∀ j,j≤M.n→((List.range j).map fun s=>(M.fd s).count who).sum≤100000*j:=by
  intro j
  induction j with
  | zero=>intro _; simp
  | succ j ih =>
   intro hj
   have h1:=ih (by omega)
   have h2:(M.fd j).count who≤m:=Nat.le_trans (List.length_filter_le _ _) (hs.fd j (by omega)).len
   rw[mcnt_s]; omega
 unfold qjzZ
 simp -implicitDefEqProofs[r24,r25]
 refine⟨fun hc=>?_,fun hc=>?_⟩
 ·have hlt:i<M.n:=by omega
  obtain⟨b',ia',ld'⟩:=y2.ldf hlt
  have hw1:IntKind.i64.wrap ((i:Int)+1)=(i+1:Nat):=by rw[wrap64_id (by omega) (by omega)]; omega
  have c1:=cle (i+1) (by omega)
  rw[mcnt_s] at c1
  have hw2:IntKind.i64.wrap (((((List.range i).map fun s=>(M.fd s).count who).sum:Nat):Int)+((M.fd i).count who:Nat))=(((List.range (i+1)).map fun s=>(M.fd s).count who).sum:Nat):=by
   rw[mcnt_s,wrap64_id (by omega) (by omega)]; omega
  unfold qjyZ
  simp -implicitDefEqProofs[r1,r23,r25,ia',ld']
  refine fcount_ok who (y2.fr i hlt) ((hs.fd i hlt).g hm) fun h3 e3=>?_
  unfold qjxZ
  simp -implicitDefEqProofs[r0,r1,r2,r7,r8,r23,r24,r25,hw1,hw2,-Int.natCast_add]
  exact⟨⟨i+1,⟨e2.trans e3,rfl⟩,rfl,by omega⟩,by omega⟩
 have hie:i=M.n:=by omega
 subst hie
 have fg:=(hs.fd s hsn).g hm
 unfold qjDZ
 simp -implicitDefEqProofs[r1,r2,r7]
 refine watching_ok who u (y2.fr s hsn) fg fun h3 e3=>?_
 have o3:Only non T h2 T h3:=Only.of_ext o2.wf e3
 have y3:=y2.kp o3.k (Off.non _) (not_non _)
 have cp:=y3.hp
 simp -implicitDefEqProofs only[mdC] at cp
 have o23:=o2.trans o3
 have set_:∀ r':Env,r' 7=ptr (F s)→r' 1 = .int .i64 who→r' 2 = .string u→M.watch who u=(M.fed (M.stripe u) ((M.fd (M.stripe u)).watch who u),rep0)→∀ v25 v27 v28 v31 v34 v38 v42 v46 v50 v54,qfsZ r' h3 K [] v25 v27 v28 v31 v34 v38 v42 v46 v50 v54:=by
  intro r' r7 r1 r2 hM v25 v27 v28 v31 v34 v38 v42 v46 v50 v54
  unfold qfsZ
  simp -implicitDefEqProofs only[r7,r1,r2]
  refine fwatch_ok who u hu o3.wf (gg.app _) (y3.fr s hsn) fg (by have:=(hs.fd s hsn).len; omega) fun T4 h4 o4 x4=>?_
  unfold qixZ
  simp -implicitDefEqProofs
  rw[hM,hms] at hk
  exact hk T4 h4 ((o23.mono non_up).trans (o4.mono fun t=>pre_trans)) ⟨bv,fv,Kk,V,F,y3.fed o4 gg x4⟩
 unfold qjCZ
 cases hwt:(M.fd s).watching who u with
 | true =>
  simp -implicitDefEqProofs
  exact set_ _ (by simp[r7]) (by simp[r1]) (by simp[r2]) (by unfold Tbl.watch; rw[hms,hwt]; simp) _ _ _ _ _ _ _ _ _ _
 | false =>
  simp -implicitDefEqProofs[r0,r8,ld_at cp,cel_of cp,stm_at cp,stm_upd,ld_same,cel_same,over]
  refine⟨fun hc=>?_,fun hc=>?_⟩
  ·unfold qjBZ
   simp -implicitDefEqProofs
   have hM:M.watch who u=(M,repE 4):=by unfold Tbl.watch; rw[hms,hwt,if_pos ⟨rfl,hc⟩]
   rw[hM] at hk
   exact hk T h3 (o23.mono non_up) ⟨bv,fv,Kk,V,F,y3⟩
  ·have hM:M.watch who u=(M.fed (M.stripe u) ((M.fd (M.stripe u)).watch who u),rep0):=by
    unfold Tbl.watch
    rw[if_neg]
    rintro⟨_,h2⟩
    have:(M.count who:Int)=(((List.range M.n).map fun s=>(M.fd s).count who).sum:Nat):=rfl
    omega
   exact set_ _ (by simp[r7]) (by simp[r1]) (by simp[r2]) hM _ _ _ _ _ _ _ _ _ _
end
end Go.Proofs.YtcnphhhcknhhaaaGreat
namespace Go.Proofs.YtcnphhhcknhhaaaGreat
open Go Go.Den Go.MapKept
set_option linter.unusedSimpArgs false
set_option linter.unusedVariables false
set_option maxRecDepth 20000
theorem bsSlEv:bsI P qbqZ=some (qrZ,1,#[.slice none 0 0]):=by kernel_rfl
structure MpI (T0:Tags)(h0:Heap)(g:Tag)(p:Nat)(M:Tbl)(who:Int)(bv fv:Value)(Kk V:Nat→Value)(F:Nat→Nat)(v1 v3:Nat)(i:Nat)(av:Value)(T':Tags)(h':Heap):Prop where
 o:Only (pre g) T0 h0 T' h'
 x:MdX T' h' g p (M.drainTo who i) bv fv Kk V F
 a:∃ cv:Nat→Value,Rw T' h' lc 1 qrZ av i (seqF i fun j=>[cv j])∧∀ j,j<i→Sl 8 EvR (fz T' h') (cv j) ((M.fd j).told who)
 n:∀ b,rowOf av=some b→h0 b=none∧b≠v1∧b≠v3
 b1:h' v1=some (.cells #[.int .i64 0,.slice none 0 0,.slice none 0 0,.bool false] qcZ (0,0))∧T' v1=lc
 b3:h' v3=some (.cells #[.int .i64 0,.slice none 0 0,.slice none 0 0,.bool (M.lostTo who i)] qcZ (0,0))∧T' v3=lc
theorem drainTo_s (M:Tbl)(who:Int)(i:Nat):(M.drainTo who i).fed i ((M.fd i).drain who)=M.drainTo who (i+1):=by
 unfold Tbl.drainTo Tbl.fed bset
 congr 1
 funext k
 by_cases h:k=i
 ·subst h; simp
 ·by_cases h2:k<i
  ·have:k<i+1:=by omega
   simp -implicitDefEqProofs[h,h2,this]
  ·have:¬ k<i+1:=by omega
   simp -implicitDefEqProofs[h,h2,this]
theorem drainTo_fd (M:Tbl)(who:Int)(i:Nat):(M.drainTo who i).fd i=M.fd i:=by simp[Tbl.drainTo]
theorem lostTo_s (M:Tbl)(who:Int)(i:Nat):M.lostTo who (i+1)=(M.lostTo who i || (M.fd i).lost who):=by simp[Tbl.lostTo,List.range_succ,List.any_append]
def MpE (T0:Tags)(h0:Heap)(g:Tag)(p:Nat)(M:Tbl)(who:Int)(bv fv:Value)(Kk V:Nat→Value)(F:Nat→Nat)(v1 v3:Nat)(i:Nat)(av:Value)(h':Heap):Prop:=∃ T',MpI T0 h0 g p M who bv fv Kk V F v1 v3 i av T' h'
variable {K:KTy}
set_option maxHeartbeats 1000000 in
theorem mpoll_ok (who:Int){T:Tags}{h:Heap}{g:Tag}{p m:Nat}{M:Tbl}(w:Wf T h)(gg:Gd g)(x:MdR T h g p M)(hs:TS m M)(hm:m<100000)
  (hk:∀ T' h' vv ev,Only (pre g) T h T' h'→MdR T' h' g p (M.poll who).1→RpX (fz T' h') (M.poll who).2 vv ev→K (.agg (rplC (M.poll who).2 vv ev).toArray) h'):callM P qgWZ #[ptr p,.int .i64 who] h K:=by
 apply qpOZ
 unfold qhDZ
 have n8:=ts_n8 hs
 rw[zcRep]
 refine nw_tag w lc fun v1 T1 h1 n1 o1 t1 c1=>?_
 refine nw_tag o1.wf lc fun v3 T3 h3 n3 o3 t3 c3=>?_
 have o13:=o1.trans o3
 have n3':h v3=none:=by
  cases hh:h v3 with
  | none=>rfl
  | some o=>obtain⟨o',ho'⟩:=o1.al _ _ hh; rw[n3] at ho'; cases ho'
 have ne13:v1≠v3:=ne_fresh c1 n3
 have b1:=o3.see ⟨c1,t1⟩ (not_non _)
 have hlcg:¬ pre g lc:=fun hh=>gg.off lc hh rfl
 obtain⟨bv,fv,Kk,V,F,y⟩:=x.kp o13.k (Off.non _) (not_non _)
 have cp:=y.hp
 simp -implicitDefEqProofs only[mdC] at cp
 rw[seqM_eq]
 unfold qkkZ
 have fl:=y.fd.len
 simp -implicitDefEqProofs[ld_at cp,cel_of cp,stm_at cp,stm_upd,ld_same,cel_same,over,fl]
 have m0:M.drainTo who 0=M:=by simp[Tbl.drainTo]
 have I0:MpI T h g p M who bv fv Kk V F v1 v3 0 (.slice none 0 0) T3 h3:=⟨o13.mono non_up,by rw[m0]; exact y,⟨fun _=>.nilFunc,Rw.nil _ _ _ _ _,fun j hj=>by omega⟩,fun b hb=>by simp[rowOf] at hb,b1,⟨by simpa [Tbl.lostTo] using c3,t3⟩⟩
 refine loop_on [0,1,4,5,14,15] (fun s h'=>∃ i:Nat,MpE T h g p M who bv fv Kk V F v1 v3 i (s 6) h'∧s 16 = .int .i64 i∧i≤M.n) (fun s _=>(M.n-num (s 16)).toNat) ⟨0,⟨T3,I0⟩,rfl,by omega⟩ ?_
 rintro s h4 hf ⟨i,⟨T4,I⟩,s16,hi⟩
 have s0:s 0=ptr p:=by simpa using hf 0 (by simp)
 have s1:s 1 = .int .i64 who:=by simpa using hf 1 (by simp)
 have s4:s 4=ptr v1:=by simpa using hf 4 (by simp)
 have s5:s 5=ptr v3:=by simpa using hf 5 (by simp)
 have s14:s 14=fv:=by simpa using hf 14 (by simp)
 have s15:s 15 = .int .i64 M.n:=by simpa using hf 15 (by simp)
 obtain⟨av,hav⟩:∃ av,s 6=av:=⟨_,rfl⟩
 rw[hav] at I
 unfold qkjZ
 simp -implicitDefEqProofs[s15,s16]
 refine⟨fun hc=>?_,fun hc=>?_⟩
 ·have hlt:i<M.n:=by omega
  have hw1:IntKind.i64.wrap ((i:Int)+1)=(i+1:Nat):=by rw[wrap64_id (by omega) (by omega)]; omega
  obtain⟨fb,ia,ld⟩:=I.x.ldf (s:=i) hlt
  have fr:=I.x.fr i hlt
  rw[drainTo_fd] at fr
  unfold qkiZ
  simp -implicitDefEqProofs[s1,s14,s16,ia,ld]
  refine fdrain_ok who I.o.wf (gg.app _) fr (fun j hj=>by have:=((hs.fd i hlt).qs j hj).2.2; omega) fun T5 h5 v o5 f5 sl5=>?_
  have x5:=I.x.fed o5 gg f5
  rw[drainTo_s] at x5
  have hlc5:¬ pre (g++[3,i]) lc:=fun hh=>hlcg (pre_trans hh)
  have b15:=o5.see I.b1 hlc5
  have b35:=o5.see I.b3 hlc5
  obtain⟨cv,ar,asl⟩:=I.a
  have ar5:=ar.kp o5.k hlc5
  have vo:=sl5.one
  have oT5:Only (pre g) T h T5 h5:=I.o.trans (o5.mono fun t=>pre_trans)
  unfold qkhZ
  simp -implicitDefEqProofs only[exV_0,exV_1,ov_s]
  rw[hav]
  refine Rw.appk bsSlEv unSlSlEv apSlEv (by omega) (by simp[vo.2]) (by simp[vo.1,vo.2]) o5.wf ar5 (by unfold maxLen; omega) (by omega) (by omega) (by simp[lc]) fun a av' T6 h6 o6 r6 k6 ha=>?_
  have hrow:=I.n
  have oT6:Only (pre g) T h T6 h6:=Only.keepk oT5 o6 k6 fun b hb=>(hrow b hb).1
  have b16:h6 v1=_∧T6 v1=lc:=⟨k6 _ _ b15.1 fun hh=>(hrow v1 hh).2.1 rfl,by rw[o6.tg _ _ b15.1]; exact b15.2⟩
  have b36:h6 v3=_∧T6 v3=lc:=⟨k6 _ _ b35.1 fun hh=>(hrow v3 hh).2.2 rfl,by rw[o6.tg _ _ b35.1]; exact b35.2⟩
  have ull:¬ (fun t=>t=lc) ([]:Tag):=by simp[lc]
  have x6:=x5.kp o6.k gg.off ull
  have n6:∀ b,rowOf av'=some b→h b=none∧b≠v1∧b≠v3:=fun b hb=>by
   rcases ha with ha | ⟨j,ha,hj⟩
   ·exact hrow b (by rw[← ha]; exact hb)
   ·rw[ha] at hb; cases hb
    refine⟨?_,fun e=>?_,fun e=>?_⟩
    ·cases hh:h b with
     | none=>rfl
     | some o=>obtain⟨o',ho'⟩:=oT5.al _ _ hh; rw[hj] at ho'; cases ho'
    ·subst e; rw[b15.1] at hj; cases hj
    ·subst e; rw[b35.1] at hj; cases hj
  have a6:∃ cv':Nat→Value,Rw T6 h6 lc 1 qrZ av' (i+1) (seqF (i+1) fun j=>[cv' j])∧∀ j,j<i+1→Sl 8 EvR (fz T6 h6) (cv' j) ((M.fd j).told who):=by
   refine⟨fun j=>if j=i then v else cv j,?_,fun j hj=>?_⟩
   ·have e1:(seqF (i+1) fun j=>[if j=i then v else cv j])=(seqF i fun j=>[cv j])++v.cells.toList:=by
     rw[seqF_succ,vo.2]
     congr 1
     ·exact seqF_congr fun j hj=>by rw[if_neg (by omega)]
     ·simp -implicitDefEqProofs
    rw[e1]; exact r6
   ·by_cases hji:j=i
    ·subst hji; simp only[if_true]; exact sl5.ext (@EvR.ext) (o6.ext ull)
    ·simp -implicitDefEqProofs only[if_neg hji]; exact ((asl j (by omega)).ext (@EvR.ext) (o5.ext (gg.app _).nil)).ext (@EvR.ext) (o6.ext ull)
  unfold qkgZ
  have c3':=b36.1
  have fin:∀ l:Bool,l=M.lostTo who (i+1)→MpI T h g p M who bv fv Kk V F v1 v3 (i+1) av' T6 (upd h6 v3 (.cells #[.int .i64 0,.slice none 0 0,.slice none 0 0,.bool l] qcZ (0,0))):=by
   intro l hl
   have o7:Only (fun t=>t=lc) T6 h6 T6 (upd h6 v3 (.cells #[.int .i64 0,.slice none 0 0,.slice none 0 0,.bool l] qcZ (0,0))):=Only.lst o6.wf b36
   obtain⟨cv',q1,q2⟩:=a6
   refine⟨oT6.own n3' b36.1,x6.kp o7.k gg.off ull,⟨cv',⟨q1.1.of_at fun b hb=>upd_ne (n6 b hb).2.2,q1.2⟩,fun j hj=>(q2 j hj).ext (@EvR.ext) (o7.ext ull)⟩,n6,⟨by rw[upd_ne ne13]; exact b16.1,b16.2⟩,⟨by rw[upd_same',hl],b36.2⟩⟩
  cases hlo:M.lostTo who i with
  | true =>
   rw[hlo] at c3'
   have:=fin true (by rw[lostTo_s,hlo]; rfl)
   simp -implicitDefEqProofs[s0,s1,s4,s5,s14,s15,s16,ld_at c3',cel_of c3',stm_at c3',stm_upd,ld_same,cel_same,over,hw1,-Int.natCast_add]
   exact⟨⟨i+1,⟨T6,this⟩,rfl,by omega⟩,by omega⟩
  | false =>
   rw[hlo] at c3'
   have:=fin ((M.fd i).lost who) (by rw[lostTo_s,hlo]; rfl)
   simp -implicitDefEqProofs[s0,s1,s4,s5,s14,s15,s16,ld_at c3',cel_of c3',stm_at c3',stm_upd,ld_same,cel_same,over,hw1,-Int.natCast_add]
   exact⟨⟨i+1,⟨T6,this⟩,rfl,by omega⟩,by omega⟩
 have hie:i=M.n:=by omega
 subst hie
 obtain⟨cv,ar,asl⟩:=I.a
 have hlen:(M.toldTo who M.n).length=M.n:=by simp[Tbl.toldTo]
 have hget:∀ j (hj:j<(M.toldTo who M.n).length),(M.toldTo who M.n)[j]=(M.fd j).told who:=fun j hj=>by simp[Tbl.toldTo]
 have t16:∀ j,j<M.n→((M.fd j).told who).length≤16:=fun j hj=>by
  unfold Feed.told
  split
  ·rename_i hcl
   have hw:who.toNat<8:=by simp[clientB] at hcl; omega
   exact ((hs.fd j hj).qs _ hw).2.2
  ·simp -implicitDefEqProofs
 have hsl:Sl 1 EvsR h4 av (M.toldTo who M.n):=by
  refine Row.sl' (F:=fun j=>[cv j]) (e:=qrZ) (fun j _=>rfl) (fun j hj=>⟨cv j,rfl,?_⟩) ?_
  ·rw[hget j hj]; exact (asl j (by omega)).ext (@EvR.ext) (fz_ext _ _)
  ·rw[hlen]; exact ar.1
 have hn16:∀ j,(nth (M.toldTo who M.n) j).length≤16:=fun j=>by
  unfold nth
  rw[List.getD_eq_getElem?_getD]
  by_cases hj:j<M.n
  ·rw[List.getElem?_eq_getElem (by omega),hget j (by omega)]; exact t16 j hj
  ·rw[List.getElem?_eq_none (by omega)]; simp
 have htot:∀ l:List (List Evt),(∀ x∈l,x.length≤16)→totE l≤16*l.length:=by
  intro l
  induction l with
  | nil=>intro _; simp[totE]
  | cons a l ih =>
   intro hh
   have h1:=ih fun x hx=>hh x (by simp[hx])
   have h2:=hh a (by simp)
   simp -implicitDefEqProofs[totE] at h1 ⊢; omega
 have ht:=htot (M.toldTo who M.n) fun l hl=>by
  obtain⟨j,hj,rfl⟩:=List.getElem_of_mem hl
  rw[hget j hj]; exact t16 j (by omega)
 unfold qkmZ
 simp -implicitDefEqProofs[hav]
 refine merge_ok _ I.o.wf hsl (by omega) (by omega) (fun j=>by have:=hn16 j; omega) fun ev h5 e5 s5'=>?_
 have o5:Only non T4 h4 T4 h5:=Only.of_ext I.o.wf e5
 have b1:=o5.see I.b1 (not_non _)
 have b3:=o5.see I.b3 (not_non _)
 have x5:=I.x.kp o5.k (Off.non _) (not_non _)
 have eo:=s5'.one
 have c3:=b3.1
 have c1:=b1.1
 have ull:¬ (fun t=>t=lc) ([]:Tag):=by simp[lc]
 obtain⟨h6,hh6⟩:∃ h6,h6=upd h5 v3 (.cells #[.int .i64 0,.slice none 0 0,ev,.bool (M.lostTo who M.n)] qcZ (0,0)):=⟨_,rfl⟩
 have o6:Only (fun t=>t=lc) T4 h5 T4 h6:=by rw[hh6]; exact Only.lst o5.wf b3
 have c36:h6 v3=some (.cells #[.int .i64 0,.slice none 0 0,ev,.bool (M.lostTo who M.n)] qcZ (0,0)):=by rw[hh6,upd_same']
 have b16:h6 v1=some (.cells #[.int .i64 0,.slice none 0 0,.slice none 0 0,.bool false] qcZ (0,0))∧T4 v1=lc:=⟨by rw[hh6,upd_ne ne13]; exact b1.1,b1.2⟩
 have oT6:Only (pre g) T h T4 h6:=by rw[hh6]; exact (I.o.up o5 non_up).own n3' b3.1
 have o7:Only (fun t=>t=lc) T4 h6 T4 (upd h6 v1 (.cells #[.int .i64 0,.slice none 0 0,ev,.bool (M.lostTo who M.n)] qcZ (0,0))):=Only.lst o6.wf b16
 have n1':h v1=none:=n1
 unfold qklZ
 simp -implicitDefEqProofs[s4,s5]
 rw[stm_at (n:=1) (v:=ev) c3 (by simp[eo.2]) (by simp) (by simp[eo.1,eo.2])]
 have hov:over #[.int .i64 0,.slice none 0 0,.slice none 0 0,.bool (M.lostTo who M.n)] 2 ev.cells.toList=#[.int .i64 0,.slice none 0 0,ev,.bool (M.lostTo who M.n)]:=by rw[eo.2]; simp[over]
 rw[hov,← hh6]
 have hld:ldV (some (some 4)) (ptr v3) h6=some (.agg #[.int .i64 0,.slice none 0 0,ev,.bool (M.lostTo who M.n)]):=by simp[ld_at c36]
 simp -implicitDefEqProofs[hld]
 rw[stm_at (n:=4) b16.1 (by simp) (by simp) (by simp[eo.1])]
 have hov2:over #[.int .i64 0,.slice none 0 0,.slice none 0 0,.bool false] 0 (Value.agg #[.int .i64 0,.slice none 0 0,ev,.bool (M.lostTo who M.n)]).cells.toList=#[.int .i64 0,.slice none 0 0,ev,.bool (M.lostTo who M.n)]:=by simp[over]
 rw[hov2]
 simp -implicitDefEqProofs[s4,tgRep86,ld_same]
 have hP:M.poll who=(M.drainTo who M.n,⟨0,[],mergeE (M.toldTo who M.n),M.lostTo who M.n⟩):=rfl
 rw[hP] at hk
 refine kv (hk T4 _ (.slice none 0 0) ev (oT6.own n1' b16.1) ⟨bv,fv,Kk,V,F,(x5.kp o6.k gg.off ull).kp o7.k gg.off ull⟩ ⟨.inl ⟨rfl,_,_,rfl⟩,(s5'.ext (@EvR.ext) (o6.ext ull)).ext (@EvR.ext) (o7.ext ull)⟩) ?_
 simp -implicitDefEqProofs[rplC]
end Go.Proofs.YtcnphhhcknhhaaaGreat
