/- Words, plain data and contracts of the Go functions that this claim reaches. No condition beyond the hypotheses that each theorem states. -/
import Derived.Test.YtmbningljbcpkaaGreatHap4
set_option linter.unusedSimpArgs false
set_option linter.unusedVariables false
namespace Go.Proofs.YtmbningljbcpkaaGreat
open Go Go.Den Go.MapKept
set_option linter.unusedSimpArgs false
set_option linter.unusedVariables false
set_option maxRecDepth 20000
theorem bsChg:bsI P qDZ=some (qSZ,7,#[.string ⟨#[]⟩,.int .i64 0,.int .i64 0,.int .i64 0,.int .i64 0,.int .i64 0,.int .i64 0]):=by kernel_rfl
theorem unSlChg:P.underlying qDZ=some (.slice qSZ):=by kernel_rfl
theorem apChg:apC P qSZ=some (7,64,7):=by kernel_rfl
theorem bdChg (u:ByteArray)(a b c d e f:Int):bdV (binf P qSZ) [(0,.string u),(1,.agg #[.int .i64 a,.int .i64 b,.int .i64 c]),(2,.agg #[.int .i64 d,.int .i64 e,.int .i64 f])] =
 some (.agg #[.string u,.int .i64 a,.int .i64 b,.int .i64 c,.int .i64 d,.int .i64 e,.int .i64 f]):=by kernel_rfl
theorem bdEnt (a:Option Addr)(n m:Nat)(d e f:Int):bdV (binf P qqZ) [(0,.slice a n m),(1,.agg #[.int .i64 d,.int .i64 e,.int .i64 f])]=some (.agg #[.slice a n m,.int .i64 d,.int .i64 e,.int .i64 f]):=by kernel_rfl
theorem bdSess (a b c d:Int):bdV (binf P qdZ) [(0,.int .i64 a),(1,.int .i64 b),(2,.int .i64 c),(3,.int .u64 d)]=some (.agg #[.int .i64 a,.int .i64 b,.int .i64 c,.int .u64 d]):=by kernel_rfl
theorem presNe (p q:Pres){x y:Operand}{K:Value→Prop}:pvM P (do eqGuard .neq qnZ x y (.agg #[.int .i64 p.st,.int .i64 p.pr,.int .i64 p.lv]) (.agg #[.int .i64 q.st,.int .i64 q.pr,.int .i64 q.lv]); binOp .neq qnZ (.agg #[.int .i64 p.st,.int .i64 p.pr,.int .i64 p.lv]) (.agg #[.int .i64 q.st,.int .i64 q.pr,.int .i64 q.lv])) K=K (.bool (!decide (p=q))):=by
 rw[pv_neq (d:=5) (b:=(p.st == q.st) && ((p.pr == q.pr) && ((p.lv == q.lv) && true))) (by kernel_rfl) (by omega) (by kernel_rfl)]
 have:((p.st == q.st) && ((p.pr == q.pr) && ((p.lv == q.lv) && true)))=decide (p=q):=by
  rw[Bool.eq_iff_iff]; cases p; cases q; simp
 rw[this]
theorem chg_sl {T:Tags}{h0 h:Heap}{b:Nat}{c:Chg}(hb:h b=some (.cells (chgC c).toArray qSZ (0,0)))(ht:T b=[]):Sl 7 ChgR (fz T h) (.slice (some ⟨b,0,none⟩) 1 1) [c]:=by
 have hb':=fz_at hb ht
 refine .inr ⟨b,0,1,rfl,by simp,by unfold maxLen; omega,fun i hi=>?_⟩
 have:i=0:=by simp at hi; exact hi
 subst this
 exact⟨chgC c,cels_of hb' (by simp[chgC,presC]) (by simp[chgC,presC]),rfl⟩
variable {K:KTy}
set_option maxHeartbeats 2000000 in
theorem settle_ok (b:Book)(bw:BkW b)(u:ByteArray)(hu:u.size≤maxLen)(ss:List Sess)(now:Int){T:Tags}{h:Heap}(w:Wf T h){kw vw sv:Value}(x:BookR (fz T h) kw vw b)(hs:Sl 4 SessR (fz T h) sv ss)(hn:Sn sv)(hl:b.length<1000000)(hl2:ss.length<1000000)
  (hk:∀ h' k v cv,Ext h h'→BookR (fz T h') k v (settleB b u ss now).1→Sl 7 ChgR (fz T h') cv (settleB b u ss now).2→K (.tuple #[.agg #[k,v],cv]) h'):callM P qkKZ #[.agg #[kw,vw],.string u,sv,.int .u64 now] h K:=by
 apply qvQZ
 unfold qrOZ
 rw[zcMap]
 refine nw_agg fun v1 h1 n1 e1 c1=>?_
 refine nw_intro fun v3 h3 n3 e3 c3=>?_
 have c1:=e3 _ _ c1
 have n3:h v3=none:=fresh_of e1 n3
 have e0:=e1.trans e3
 have o1:=x.1.one
 have o2:=x.2.1.one
 simp -implicitDefEqProofs[ld_at c1,cel_of c1,stm_at c1,stm_upd,ld_same,cel_same,over]
 refine get_ok b bw.so u ((fz_ext T h).trans e0) x hl fun h4 wv e4 hwv hwn=>?_
 have c1:=e4 _ _ c1
 have c3:=e4 _ _ c3
 have e0:=e0.trans e4
 unfold qsXZ
 simp -implicitDefEqProofs only[exV_0,exV_1,ov_s,zcEnt]
 obtain⟨tw,htw⟩:∃ tw,(entOf b u).told=tw:=⟨_,rfl⟩
 simp -implicitDefEqProofs only[htw,presC]
 refine nw_st (by simp) (by simp) (by simp[hwv.one.1]) fun v10 h5 n5 e5 c5=>?_
 have c1:=e5 _ _ c1
 have c3:=e5 _ _ c3
 have e0:=e0.trans e5
 refine aggOf_ok ss now (hs.ext (R:=SessR) (@SessR.ext) ((fz_ext T h).trans e0)) hl2 fun h6 e6=>?_
 have c1:=e6 _ _ c1
 have c3:=e6 _ _ c3
 have c5:=e6 _ _ c5
 have e0:=e0.trans e6
 unfold qsWZ
 rw[zcPres]
 refine nw_st rfl rfl (by simp[presC]) fun v15 h7 n7 e7 c7=>?_
 have c1:=e7 _ _ c1
 have c3:=e7 _ _ c3
 have c5:=e7 _ _ c5
 have e0:=e0.trans e7
 simp -implicitDefEqProofs only[presC,cells_agg] at c5 c7
 rw[seqM_eq]
 unfold qsSZ
 obtain⟨sa,sn,sc,hsv⟩:=sl_sl hs
 have w7:=w.ext e0
 have x7:BookR (fz (tset T v3 lc) h7) kw vw b:=x.ext (fz_in n3 e0)
 have hs7:Sl 4 SessR (fz (tset T v3 lc) h7) sv ss:=hs.ext (R:=SessR) (@SessR.ext) (fz_in n3 e0)
 have wt:Wf (tset T v3 lc) h7:=wf_loc w7 c3
 -- the end
 have fin:∀ (h8:Heap) (s:Env) (cv:Value),Ext h7 h8→Sl 7 ChgR (fz (tset T v3 lc) h8) cv (settleB b u ss now).2→s 1 = .string u→s 2=sv→s 3 = .int .u64 now→s 4=ptr v1→s 8=ptr v3→s 12=ptr v15→s 13=cv→qpxZ s h8 K []:=by
  intro h8 s cv e8 hcv s1 s2 s3 s4 s8 s12 s13
  have c1:=e8 _ _ c1
  have c3:=e8 _ _ c3
  have c7:=e8 _ _ c7
  have e0:=e0.trans e8
  have w8:=wt.ext e8
  have x8:=x7.ext (fz_of_ext e8)
  have hs8:=hs7.ext (R:=SessR) (@SessR.ext) (fz_of_ext e8)
  have hsl:=hs.len
  have last:∀ h9 k v,Ext h8 h9→BookR (fz (tset T v3 lc) h9) k v (settleB b u ss now).1→K (.tuple #[.agg #[k,v],cv]) (upd h9 v3 (.cells #[k,v] qaZ (0,0))):=fun h9 k v e9 hb =>
   hk _ k v cv (ext_upd n3 (e0.trans e9)) (hb.ext fz_loc) ((hcv.ext (R:=ChgR) (@ChgR.ext) (fz_of_ext e9)).ext (R:=ChgR) (@ChgR.ext) fz_loc)
  unfold qpxZ
  simp -implicitDefEqProofs only[s2,hsl,ov_s,bin_eql,cd_b]
  refine⟨fun hc=>?_,fun hc=>?_⟩
  ·have hss:ss=[]:=by
    have:((ss.length:Int)=0):=by simpa using hc
    exact List.eq_nil_of_length_eq_zero (by omega)
   have e:(settleB b u ss now).1=delB b u:=by simp[settleB,hss]
   rw[e] at last
   unfold qsUZ
   simp -implicitDefEqProofs[s1,s4,ld_at c1,cel_of c1,stm_at c1,stm_upd,ld_same,cel_same,over]
   refine without_ok b bw.so u w8 x8 hl fun h9 k v e9 hb=>?_
   have c3:=e9 _ _ c3
   have p1:=hb.1.one
   have p2:=hb.2.1.one
   unfold qsTZ
   simp -implicitDefEqProofs[s8,s13,ld_at c3,cel_of c3,stm_at c3,stm_upd,ld_same,cel_same,over,p1.1,p2.1,tgMap]
   exact last h9 k v e9 hb
  ·have hss:¬ ss=[]:=fun hh=>by rw[hh] at hc; simp at hc
   have e:(settleB b u ss now).1=putB b u ⟨ss,presOf ss now⟩:=by simp[settleB,hss]
   rw[e] at last
   unfold qsVZ
   subst hsv
   simp -implicitDefEqProofs[s1,s2,s4,s12,ld_at c1,cel_of c1,stm_at c1,ld_at c7,cel_of c7,stm_at c7,stm_upd,ld_same,cel_same,over,bdEnt]
   refine with_ok b bw.so u hu ⟨ss,presOf ss now⟩ w8 x8 hs8 hn hl fun h9 k v e9 hb=>?_
   have c3:=e9 _ _ c3
   have p1:=hb.1.one
   have p2:=hb.2.1.one
   unfold qsyZ
   simp -implicitDefEqProofs[s8,s13,ld_at c3,cel_of c3,stm_at c3,stm_upd,ld_same,cel_same,over,p1.1,p2.1,tgMap]
   exact last h9 k v e9 hb
 simp -implicitDefEqProofs[ld_at c7,cel_of c7,stm_at c7,ld_at c5,cel_of c5,stm_at c5,stm_upd,ld_same,cel_same,over]
 rw[← htw]
 obtain⟨pr,hpr⟩:∃ pr,presOf ss now=pr:=⟨_,rfl⟩
 simp -implicitDefEqProofs only[hpr,htw] at fin ⊢
 rw[presNe]
 by_cases hne:pr=tw
 ·simp -implicitDefEqProofs[hne]
  unfold qsRZ
  try simp only[thenM_n]
  have e2:(settleB b u ss now).2=[]:=by simp[settleB,hpr,htw,hne]
  refine fin h7 _ (.slice none 0 0) (Ext.refl _) (by rw[e2]; exact .inl ⟨rfl,_,_,rfl⟩) ?_ ?_ ?_ ?_ ?_ ?_ ?_<;>simp
 ·simp -implicitDefEqProofs[hne]
  unfold qsQZ
  have e2:(settleB b u ss now).2=[⟨u,tw,pr⟩]:=by simp[settleB,hpr,htw,hne]
  simp -implicitDefEqProofs[ld_at c7,cel_of c7,stm_at c7,ld_at c5,cel_of c5,stm_at c5,stm_upd,ld_same,cel_same,over,bdChg]
  refine bs_one bsChg (by simp) (by omega) fun cb h8 n8 e8 c8=>?_
  try simp only[thenM_n]
  have ne3:cb≠v3:=fun hh=>by rw[hh,c3] at n8; cases n8
  have hT:tset T v3 lc cb=[]:=by rw[tset_ne ne3]; exact w cb (fresh_of e0 n8)
  refine fin h8 _ (.slice (some ⟨cb,0,none⟩) 1 1) e8 (by rw[e2]; rw[hpr] at c8; exact chg_sl (c:=⟨u,tw,pr⟩) (h0:=h) c8 hT) ?_ ?_ ?_ ?_ ?_ ?_ ?_<;>simp
end Go.Proofs.YtmbningljbcpkaaGreat
namespace Go.Proofs.YtmbningljbcpkaaGreat
open Go Go.Den Go.MapKept
set_option linter.unusedSimpArgs false
set_option linter.unusedVariables false
set_option maxRecDepth 20000
theorem rf_sl {T:Tags}{h0 h:Heap}{v:Value}{l:List Sess}(r:Rf 4 qdZ h0 h v l.length (l.flatMap sessC))(w:Wf T h0):Sl 4 SessR (fz T h) v l:=by
 rw[← map_flat] at r
 exact r.sl w (by simp) (El.enc (by simp[sessC]) (fun y u hu=>SessR.one (h:=h) _ y rfl u hu) (fun _ _=>rfl))
variable {K:KTy}
set_option maxHeartbeats 2000000 in
theorem bwrite_ok (b:Book)(bw:BkW b)(x:OpD)(xw:OpW x){uv:Value}(ou:One uv){now:Int}(hnow:U64 now)(most:Int){T:Tags}{h:Heap}(w:Wf T h){kw vw:Value}(xb:BookR (fz T h) kw vw b)(hl:b.length<1000000)(hl2:(entOf b x.user).ss.length<900000)
  (hk:∀ h' k v cv,Ext h h'→BookR (fz T h') k v (writeB b x now most).1→Sl 7 ChgR (fz T h') cv (writeB b x now most).2.1→K (.tuple #[.agg #[k,v],cv,.int .i64 (writeB b x now most).2.2]) h') :
  callM P qnxZ #[.agg #[kw,vw],.agg (opC x uv).toArray,.int .u64 now,.int .i64 most] h K:=by
 apply qvUZ
 unfold qstZ
 rw[zcMap]
 refine nw_agg fun v1 h1 n1 e1 c1=>?_
 refine nw_agg fun v3 h3 n3 e3 c3=>?_
 refine nw_intro fun v5 h5 n5 e5 c5=>?_
 have c1:=e5 _ _ (e3 _ _ c1)
 have c3:=e5 _ _ c3
 have n5:h v5=none:=fresh_of (e1.trans e3) n5
 have e0:=(e1.trans e3).trans e5
 simp -implicitDefEqProofs only[opC] at c3
 have o1:=xb.1.one
 have o2:=xb.2.1.one
 have wt:Wf (tset T v5 lc) h5:=wf_loc (w.ext e0) c5
 have x5:BookR (fz (tset T v5 lc) h5) kw vw b:=xb.ext (fz_in n5 e0)
 obtain⟨ss,hss⟩:∃ ss,(entOf b x.user).ss=ss:=⟨_,rfl⟩
 have hent:=bw.ent x.user
 rw[hss] at hl2 hent
 have hwr:writeB b x now most=((settleB b x.user (workS (purgeS ss now) x now most).1 now).1,(settleB b x.user (workS (purgeS ss now) x now most).1 now).2,(workS (purgeS ss now) x now most).2):=by simp[writeB,hss]
 rw[hwr] at hk
 have hpl:(purgeS ss now).length≤ss.length:=List.length_filter_le _ _
 have hsr:=hent.1.purge now
 have hwl:=work_len (ss:=purgeS ss now) x now most
 simp -implicitDefEqProofs[ld_at c1,cel_of c1,stm_at c1,ld_at c3,cel_of c3,stm_at c3,stm_upd,ld_same,cel_same,over]
 refine get_ok b bw.so x.user (fz_ext _ _) x5 hl fun h6 wv e6 hwv hwn=>?_
 rw[hss] at hwv
 have c1:=e6 _ _ c1
 have c3:=e6 _ _ c3
 unfold qtuZ
 obtain⟨tw,htw⟩:∃ tw,(entOf b x.user).told=tw:=⟨_,rfl⟩
 simp -implicitDefEqProofs only[exV_0,exV_1,ov_s,zcEnt,htw,presC]
 refine nw_st (by simp) (by simp) (by simp[hwv.one.1]) fun v14 h7 n7 e7 c7=>?_
 simp -implicitDefEqProofs only[cells_agg] at c7
 have c1:=e7 _ _ c1
 have c3:=e7 _ _ c3
 have e57:=e6.trans e7
 simp -implicitDefEqProofs[ld_at c7,cel_of c7,stm_at c7,stm_upd,ld_same,cel_same,over]
 refine purge_ok ss now (hwv.ext (R:=SessR) (@SessR.ext) ((fz_ext _ _).trans e57)) hwn (by omega) fun h8 v8 r8=>?_
 have c1:=r8.ex _ _ c1
 have c3:=r8.ex _ _ c3
 have r8:=r8.back e57
 unfold qttZ
 simp -implicitDefEqProofs[ld_at c3,cel_of c3,stm_at c3,stm_upd,ld_same,cel_same,over]
 refine tickAdd_ok hnow xw.u1 ?_
 unfold qtsZ
 rw[seqM_eq]
 unfold qtrZ
 have fin:∀ (h9:Heap) (s:Env) (v':Value),Rf 4 qdZ h5 h9 v' (workS (purgeS ss now) x now most).1.length ((workS (purgeS ss now) x now most).1.flatMap sessC)→Ext h8 h9→s 2 = .int .u64 now→s 4=ptr v1→s 5=ptr v3→s 8=ptr v5→s 13=v'→s 14 = .int .i64 (workS (purgeS ss now) x now most).2→qpuZ s h9 K []:=by
  intro h9 s v' r9 e9 s2 s4 s5 s8 s13 s14
  have c1:=e9 _ _ c1
  have c3:=e9 _ _ c3
  have c5:=r9.ex _ _ c5
  unfold qpuZ
  simp -implicitDefEqProofs[s2,s4,s5,s13,ld_at c1,cel_of c1,stm_at c1,ld_at c3,cel_of c3,stm_at c3,stm_upd,ld_same,cel_same,over]
  refine settle_ok b bw x.user xw.s1 _ now (wt.ext r9.ex) (x5.ext (fz_of_ext r9.ex)) (rf_sl r9 wt) r9.row.sn hl (by omega) fun ha k v cv ea hb hc=>?_
  have c5:=ea _ _ c5
  have p1:=hb.1.one
  have p2:=hb.2.1.one
  unfold qsNZ
  simp -implicitDefEqProofs only[exV_0,exV_1,ov_s,zcMap]
  refine nw_st (by simp) (by simp) (by simp[p1.1,p2.1]) fun v63 hb' nb eb cb=>?_
  simp -implicitDefEqProofs only[cells_agg] at cb
  have c5:=eb _ _ c5
  have ne:v63≠v5:=Ne.symm (ne_fresh (ea _ _ ‹_›) nb)
  simp -implicitDefEqProofs[s8,s14,ld_at cb,cel_of cb,stm_at cb,ld_at c5,cel_of c5,stm_at c5,stm_upd,ld_same,cel_same,over,p1.1,p2.1,tgMap]
  have ef:=((r9.ex.trans ea).trans eb)
  exact hk _ k v cv (ext_upd n5 (e0.trans ef)) ((hb.ext (fz_of_ext eb)).ext fz_loc) ((hc.ext (R:=ChgR) (@ChgR.ext) (fz_of_ext eb)).ext (R:=ChgR) (@ChgR.ext) fz_loc)
 simp -implicitDefEqProofs[ld_at c3,cel_of c3,stm_at c3,stm_upd,ld_same,cel_same,over]
 refine⟨fun hk1=>?_,fun hk1=>?_⟩
 ·have e:workS (purgeS ss now) x now most=setS (purgeS ss now) ⟨x.id,x.status,x.prio,addU now x.ttl⟩ most:=by simp[workS,hk1]
  unfold qtnZ
  simp -implicitDefEqProofs[ld_at c3,cel_of c3,stm_at c3,stm_upd,ld_same,cel_same,over,bdSess]
  refine sset_ok (purgeS ss now) hsr ⟨x.id,x.status,x.prio,addU now x.ttl⟩ most (rf_sess r8) r8.row.sn (by omega) fun h9 v9 r9=>?_
  unfold qtmZ
  simp -implicitDefEqProofs only[exV_0,exV_1,ov_s]
  rw[← e] at r9
  try simp only[thenM_n]
  refine fin h9 _ v9 (r9.back r8.ex) r9.ex ?_ ?_ ?_ ?_ ?_ ?_<;>simp[e]
 ·unfold qtqZ
  simp -implicitDefEqProofs
  refine⟨fun hk2=>?_,fun hk2=>?_⟩
  ·have e:workS (purgeS ss now) x now most=beatS (purgeS ss now) x.id (addU now x.ttl):=by simp[workS,hk2]
   unfold qtpZ
   simp -implicitDefEqProofs[ld_at c3,cel_of c3,stm_at c3,stm_upd,ld_same,cel_same,over]
   refine sbeat_ok (purgeS ss now) hsr x.id (addU now x.ttl) (rf_sess r8) r8.row.sn (by omega) fun h9 v9 r9=>?_
   unfold qtoZ
   simp -implicitDefEqProofs only[exV_0,exV_1,ov_s]
   rw[← e] at r9
   try simp only[thenM_n]
   refine fin h9 _ v9 (r9.back r8.ex) r9.ex ?_ ?_ ?_ ?_ ?_ ?_<;>simp[e]
  ·unfold qsMZ
   simp -implicitDefEqProofs
   refine⟨fun hk3=>?_,fun hk3=>?_⟩
   ·have e:workS (purgeS ss now) x now most=clearS (purgeS ss now) x.id:=by simp[workS,hk3]
    unfold qsKZ
    simp -implicitDefEqProofs[ld_at c3,cel_of c3,stm_at c3,stm_upd,ld_same,cel_same,over]
    refine sclear_ok (purgeS ss now) hsr x.id (rf_sess r8) r8.row.sn (by omega) fun h9 v9 r9=>?_
    unfold qsJZ
    simp -implicitDefEqProofs only[exV_0,exV_1,ov_s]
    rw[← e] at r9
    try simp only[thenM_n]
    refine fin h9 _ v9 (r9.back r8.ex) r9.ex ?_ ?_ ?_ ?_ ?_ ?_<;>simp[e]
   ·have e:workS (purgeS ss now) x now most=(purgeS ss now,0):=by simp[workS,hk1,hk2,hk3]
    unfold qsLZ
    try simp only[thenM_n]
    refine fin h8 _ v8 (by rw[e]; exact r8) (Ext.refl _) ?_ ?_ ?_ ?_ ?_ ?_<;>simp[e]
end Go.Proofs.YtmbningljbcpkaaGreat
namespace Go.Proofs.YtmbningljbcpkaaGreat
open Go Go.Den Go.MapKept
set_option linter.unusedSimpArgs false
set_option linter.unusedVariables false
set_option maxRecDepth 20000
theorem row_ty {sz:Nat}{e e':TypeId}{h:Heap}{v:Value}{n:Nat}{xs:List Value}(r:Row sz e h v n xs){b:Nat}{c:Array Value}(hb:h b=some (.cells c e' (0,0)))(he:e≠e'):rowOf v≠some b:=fun hh=>by
 rcases r.2 with ⟨rfl,_⟩ | ⟨g,cap,cur,rfl,h1,_⟩
 ·simp -implicitDefEqProofs[rowOf] at hh
 ·simp -implicitDefEqProofs only[rowOf,Option.some.injEq] at hh
  subst hh
  rw[hb] at h1
  cases h1; exact he rfl
def swL (v5 v7 v10 l b:Nat)(av:Value):List Nat:=v5::v7::v10::l::b::(rowOf av).toList
structure SwJ (T:Tags)(h hB:Heap)(b0:Book)(now:Int)(v5 v7 v10 l b i:Nat)(h':Heap)(k v av:Value):Prop where
 kb:∀ q o,hB q=some o→q≠v7→q≠v10→h' q=some o
 c10:h' v10=some (.cells #[k,v] qaZ (0,0))
 bk:BookR (fz (tls T (swL v5 v7 v10 l b av)) h') k v (sweepTo b0 now i).1
 c7:h' v7=some (.cells #[av] qDZ (0,0))
 rw:Rf 7 qSZ h h' av (sweepTo b0 now i).2.length ((sweepTo b0 now i).2.flatMap chgC)
 nl:rowOf av≠some l
 nb:rowOf av≠some b
 nB:∀ q,rowOf av=some q→hB q=none
def SwI (T:Tags)(h hB:Heap)(b0:Book)(now:Int)(v5 v7 v10 l b i:Nat)(h':Heap):Prop:=∃ k v av,SwJ T h hB b0 now v5 v7 v10 l b i h' k v av
theorem SwJ.keep {T:Tags}{h hB:Heap}{b0:Book}{now:Int}{v5 v7 v10 l b i:Nat}{h' h'':Heap}{k v av:Value}(x:SwJ T h hB b0 now v5 v7 v10 l b i h' k v av)(hl:hB l=none)(e:Ext h hB)(b7:∃ o,hB v7=some o)(b10:∃ o,hB v10=some o)(kp:Keep (some l) h' h'') :
  SwJ T h hB b0 now v5 v7 v10 l b i h'' k v av:=by
 have ne:∀ q,(∃ o,hB q=some o)→some q≠some l:=fun q ⟨o,ho⟩ hh=>by cases hh; rw[hl] at ho; cases ho
 exact⟨fun q o ho n7 n10=>kp q o (x.kb q o ho n7 n10) (ne q ⟨o,ho⟩),kp _ _ x.c10 (ne _ b10),x.bk.ext (fz_keep (by rw[tls_in (by simp[swL])]; simp) kp),kp _ _ x.c7 (ne _ b7),
  x.rw.keep kp (fresh_of e hl) x.nl,x.nl,x.nb,x.nB⟩
structure SwC (T:Tags)(h hB:Heap)(b0:Book)(Lv:List (List Value))(now:Int)(v1 v3 v5 v7 v10 l b i:Nat)(s2:Env)(h':Heap)(xb:Nat):Prop where
 j:SwI T h hB b0 now v5 v7 v10 l b i h'
 s3:s2 3=ptr v3
 s6:s2 6=ptr v7
 s7:s2 7=ptr v10
 s8:s2 8 = .string (b0.getD i (⟨#[]⟩,ent0)).1
 s9:s2 9=ptr xb
 cx:h' xb=some (.cells (Lv.getD i []).toArray qqZ (0,0))
 nl:xb≠l
def SwE (T:Tags)(h hB:Heap)(b0:Book)(Lv:List (List Value))(now:Int)(v1 v3 v5 v7 v10 l b i:Nat)(s2:Env)(h':Heap):Prop:=∃ xb,SwC T h hB b0 Lv now v1 v3 v5 v7 v10 l b i s2 h' xb
end Go.Proofs.YtmbningljbcpkaaGreat
namespace Go.Proofs.YtmbningljbcpkaaGreat
open Go Go.Den Go.MapKept
set_option linter.unusedSimpArgs false
set_option linter.unusedVariables false
set_option maxRecDepth 20000
set_option maxHeartbeats 2000000 in
theorem sweepBody {T:Tags}{h hB:Heap}(w:Wf T h){b0:Book}(bw:BkW b0)(hl:b0.length<100000)(hsz:∀ x∈b0,x.1.size≤maxLen)(hss:∀ x∈b0,x.2.ss.length<900000){Lv:List (List Value)}{now:Int}{v1 v3 v5 v7 v10:Nat}{F:Heap}(eF:∀ q o,F q=some o→hB q=some o∧q≠v7∧q≠v10)(el:El 4 EntR F Lv (b0.map (·.2)))
  (eB:Ext h hB) (c3:hB v3=some (.cells #[.int .u64 now] qaMZ (0,0))) (n37:v3≠v7) (n310:v3≠v10) (b5:∃ o,hB v5=some o) (n57:v5≠v7) (n510:v5≠v10) (hv7:h v7=none) (hv10:h v10=none) (n710:v7≠v10)
  {i:Nat} (hi:i<b0.length) {l b:Nat} (hlB:hB l=none) (hbB:hB b=none) (b7:∃ o,hB v7=some o) (b10:∃ o,hB v10=some o) {s2:Env} {h3:Heap} (hl3:∃ o,h3 l=some o) (hb3:∃ o,h3 b=some o) {xb:Nat} (C:SwC T h hB b0 Lv now v1 v3 v5 v7 v10 l b i s2 h3 xb) :
  den P gd (rfB P qbtZ 0) [] s2 h3 (fun e _ _ h4=>h4 l=h3 l∧h4 b=h3 b∧match e with
   | .normal=>SwI T h hB b0 now v5 v7 v10 l b (i+1) h4
   | .ret=>(fun _ _ _ _=>False:Nat→Nat→Exit→Heap→Prop) l b .ret h4
   | .exit id=>(fun _ _ _ _=>False:Nat→Nat→Exit→Heap→Prop) l b (.exit id) h4
   | _=>False):=by
 rw[qvHZ]
 unfold qsPZ
 obtain⟨⟨k,v,av,J⟩,s3,s6,s7,s8,s9,cx,nxl⟩:=C
 have ne:∀ q,(∃ o,hB q=some o)→∀ r,hB r=none→q≠r:=fun q ⟨o,ho⟩ r hr hh=>by subst hh; rw[hr] at ho; cases ho
 obtain⟨x,hx⟩:∃ x,b0.getD i (⟨#[]⟩,ent0)=x:=⟨_,rfl⟩
 have hxi:b0[i]=x:=by rw[← hx,List.getD_eq_getElem?_getD,List.getElem?_eq_getElem hi]; rfl
 have hxm:x∈b0:=hxi▸List.getElem_mem hi
 have hLi:i<Lv.length:=by rw[el.len]; simpa using hi
 have hLv:Lv.getD i []=Lv[i]:=by rw[List.getD_eq_getElem?_getD,List.getElem?_eq_getElem hLi]; rfl
 obtain⟨sv,hc,hsv,hsn⟩:=el.el i hLi (by simpa using hi)
 simp -implicitDefEqProofs only[List.getElem_map,hxi] at hc hsv
 rw[hLv,hc] at cx
 rw[hx] at s8
 have eF3:Ext F h3:=fun q o e=>by obtain⟨q1,q2,q3⟩:=eF q o e; exact J.kb q o q1 q2 q3
 have c33:h3 v3=_:=J.kb _ _ c3 n37 n310
 have cx':=cx
 simp -implicitDefEqProofs only[presC] at cx'
 have c10:=J.c10
 simp -implicitDefEqProofs[s7,s9,s3,ld_at c10,cel_of c10,stm_at c10,ld_at cx',cel_of cx',stm_at cx',ld_at c33,cel_of c33,stm_at c33,stm_upd,ld_same,cel_same,over]
 refine purge_ok x.2.ss now (hsv.ext (R:=SessR) (@SessR.ext) eF3) hsn (by have:=hss x hxm; omega) fun h4 pv r4=>?_
 have c10:=r4.ex _ _ c10
 have c33:=r4.ex _ _ c33
 simp -implicitDefEqProofs[s8,ld_at c10,cel_of c10,stm_at c10,ld_at c33,cel_of c33,stm_at c33,stm_upd,ld_same,cel_same,over]
 have hin:∀ q∈swL v5 v7 v10 l b av,∃ o,h3 q=some o:=fun q hq=>by
  simp -implicitDefEqProofs only[swL,List.mem_cons,Option.mem_toList] at hq
  rcases hq with rfl | rfl | rfl | rfl | rfl | hq
  ·obtain⟨o,ho⟩:=b5; exact⟨o,J.kb _ _ ho n57 n510⟩
  ·exact⟨_,J.c7⟩
  ·exact⟨_,J.c10⟩
  ·exact hl3
  ·exact hb3
  ·exact J.rw.row.lt q hq
 have w3:Wf (tls T (swL v5 v7 v10 l b av)) h3:=wf_tls (w.ext J.rw.ex) hin
 obtain⟨bu1,bu2⟩:=bw.us x hxm
 have hpl:(purgeS x.2.ss now).length≤x.2.ss.length:=List.length_filter_le _ _
 have hsl:=sweep_len bw (now:=now) (n:=i) (by omega)
 have hcl:=sweep_chg b0 now i
 have hsc:=sweep_chg b0 now (i+1)
 have hst:sweepTo b0 now (i+1)=((settleB (sweepTo b0 now i).1 x.1 (purgeS x.2.ss now) now).1,(sweepTo b0 now i).2++(settleB (sweepTo b0 now i).1 x.1 (purgeS x.2.ss now) now).2):=by simp only[sweepTo,hx]
 refine settle_ok (sweepTo b0 now i).1 (bw.sweepTo now i (by omega)) x.1 (hsz x hxm) (purgeS x.2.ss now) now (w3.ext r4.ex) (J.bk.ext (fz_of_ext r4.ex)) (rf_sl r4 w3) r4.row.sn (by omega) (by have:=hss x hxm; omega) fun h5 k' v' cv e5 hb5 hc5=>?_
 have c7:=e5 _ _ (r4.ex _ _ J.c7)
 have c10:=e5 _ _ c10
 have p1:=hb5.1.one
 have p2:=hb5.2.1.one
 have ra:=((J.rw.ext r4.ex).ext e5)
 have oav:=ra.row.one
 simp -implicitDefEqProofs[s7,s6,ld_at c10,cel_of c10,stm_at c10,ld_at c7,cel_of c7,stm_at c7,stm_skip n710,stm_skip (Ne.symm n710),ld_skip n710,ld_skip (Ne.symm n710),cel_skip n710,cel_skip (Ne.symm n710),stm_upd,ld_same,cel_same,over,p1.1,p2.1]
 -- the book lies in its variable
 have eu:∀ q o,h5 q=some o→q≠v10→upd h5 v10 (.cells #[k',v'] qaZ (0,0)) q=some o:=fun q o ho hq=>by rw[upd_ne hq]; exact ho
 have c7u:=eu _ _ c7 n710
 have c10u:=upd_same' h5 v10 (.cells #[k',v'] qaZ (0,0))
 have nr10:rowOf av≠some v10:=row_ty ra.row c10 (by decide)
 have nr7:rowOf av≠some v7:=row_ty ra.row c7 (by decide)
 have ru:=ra.skip (o:=.cells #[k',v'] qaZ (0,0)) hv10 nr10
 have hbu:BookR (fz (tls T (swL v5 v7 v10 l b av)) (upd h5 v10 (.cells #[k',v'] qaZ (0,0)))) k' v' _:=hb5.ext (fz_of fun q hq=>⟨hq,fun o ho=>eu q o ho fun hh=>(tls_nil hq).1 (by simp[swL,hh])⟩)
 have hcu:Sl 7 ChgR (upd h5 v10 (.cells #[k',v'] qaZ (0,0))) cv _:=(hc5.ext (R:=ChgR) (@ChgR.ext) (h':=fz (tls T (swL v5 v7 v10 l b av)) (upd h5 v10 (.cells #[k',v'] qaZ (0,0)))) (fz_of fun q hq=>⟨hq,fun o ho=>eu q o ho fun hh=>(tls_nil hq).1 (by simp[swL,hh])⟩)).ext (R:=ChgR) (@ChgR.ext) (fz_ext _ _)
 have old:∀ q o,h3 q=some o→q≠v10→upd h5 v10 (.cells #[k',v'] qaZ (0,0)) q=some o:=fun q o ho hq=>eu q o (e5 _ _ (r4.ex _ _ ho)) hq
 generalize upd h5 v10 _=h6 at *
 have hlen2:(sweepTo b0 now i).2.length+(settleB (sweepTo b0 now i).1 x.1 (purgeS x.2.ss now) now).2.length≤i+1:=by
  have:=hsc; rw[hst] at this; simpa using this
 refine Rf.app2 unSlChg apChg (by omega) ru (chg_els hcu) (flatC_one _) (by unfold maxLen; omega) (by omega) fun av' h7 r7 kp7 ha=>?_
 have c7':=kp7 _ _ c7u nr7
 have c10':=kp7 _ _ c10u nr10
 have oav':=r7.row.one
 have exi:∀ q,(∃ o,h3 q=some o)→q≠v10→rowOf av≠some q→rowOf av'≠some q:=fun q ⟨o,ho⟩ hq hn hh=>by
  rcases ha with ha | ⟨r,ha,hr⟩
  ·exact hn (by rw[← ha]; exact hh)
  ·rw[ha] at hh; cases hh; rw[old q o ho hq] at hr; cases hr
 have nl':=exi l hl3 (fun hh=>ne v10 b10 l hlB hh.symm) J.nl
 have nb':=exi b hb3 (fun hh=>ne v10 b10 b hbB hh.symm) J.nb
 have n7':rowOf av'≠some v7:=row_ty r7.row c7' (by decide)
 simp -implicitDefEqProofs[s6,ld_at c7',cel_of c7',stm_at c7',stm_upd,ld_same,cel_same,over,oav'.1,oav'.2]
 obtain⟨ol,hol⟩:=hl3
 obtain⟨ob,hob⟩:=hb3
 have l7:l≠v7:=fun hh=>ne v7 b7 l hlB hh.symm
 have l10:l≠v10:=fun hh=>ne v10 b10 l hlB hh.symm
 have bb7:b≠v7:=fun hh=>ne v7 b7 b hbB hh.symm
 have bb10:b≠v10:=fun hh=>ne v10 b10 b hbB hh.symm
 have keep:∀ q o,h3 q=some o→q≠v10→q≠v7→rowOf av≠some q→upd h7 v7 (.cells #[av'] qDZ (0,0)) q=some o:=fun q o ho h10 h7' hn=>by
  rw[upd_ne h7']; exact kp7 q o (old q o ho h10) hn
 refine⟨by rw[hol]; exact keep l ol hol l10 l7 J.nl,by rw[hob]; exact keep b ob hob bb10 bb7 J.nb,k',v',av',⟨fun q o ho q7 q10=>?_,by rw[upd_ne (Ne.symm n710)]; exact c10',?_,upd_same' _ _ _,?_,nl',nb',fun q hq=>?_⟩⟩
 ·exact keep q o (J.kb q o ho q7 q10) q10 q7 (fun hh=>by rw[J.nB q hh] at ho; cases ho)
 ·rw[hst]
  refine hbu.ext (fz_of2 fun q o hq ho=>?_)
  obtain⟨q1,q2⟩:=tls_nil hq
  simp -implicitDefEqProofs only[swL,List.mem_cons,Option.mem_toList,not_or] at q1
  obtain⟨n1,n2,n3,n4,n5,n6⟩:=q1
  have hn:rowOf av≠some q:=n6
  refine⟨?_,by rw[upd_ne n2]; exact kp7 q o ho hn⟩
  rw[tls_out,q2]
  simp -implicitDefEqProofs only[swL,List.mem_cons,Option.mem_toList,not_or]
  refine⟨n1,n2,n3,n4,n5,fun hh=>?_⟩
  rcases ha with ha | ⟨r,ha,hr⟩
  ·exact hn (by rw[← ha]; exact hh)
  ·rw[ha] at hh; cases hh; rw[hr] at ho; cases ho
 ·rw[hst]
  have:=r7.skip (o:=.cells #[av'] qDZ (0,0)) hv7 n7'
  rw[List.length_append,List.flatMap_append]
  exact this
 ·cases hq0:hB q with
  | none=>rfl
  | some o =>
   exfalso
   rcases ha with ha | ⟨r,ha,hr⟩
   ·rw[J.nB q (by rw[← ha]; exact hq)] at hq0; cases hq0
   ·rw[ha] at hq; cases hq
    by_cases h1:q=v7
    ·subst h1; rw[hr] at c7u; cases c7u
    ·by_cases h2:q=v10
     ·subst h2; rw[hr] at c10u; cases c10u
     ·rw[old q o (J.kb q o hq0 h1 h2) h2] at hr; cases hr
end Go.Proofs.YtmbningljbcpkaaGreat
namespace Go.Proofs.YtmbningljbcpkaaGreat
open Go Go.Den Go.MapKept
set_option linter.unusedSimpArgs false
set_option linter.unusedVariables false
set_option maxRecDepth 20000
theorem zcSlChg:zc P qDZ=some #[.slice none 0 0]:=by kernel_rfl
theorem tgSlChg:tagg P qDZ=some none:=by kernel_rfl
variable {K:KTy}
set_option maxHeartbeats 2000000 in
theorem bsweep_ok (b0:Book)(bw:BkW b0)(hl:b0.length<100000)(hsz:∀ x∈b0,x.1.size≤maxLen)(hss:∀ x∈b0,x.2.ss.length<900000)(now:Int){T:Tags}{h:Heap}(w:Wf T h){kw vw:Value}(x:BookR (fz T h) kw vw b0)
  (hk:∀ h' k v cv,Ext h h'→BookR (fz T h') k v (sweepB b0 now).1→Sl 7 ChgR (fz T h') cv (sweepB b0 now).2→K (.tuple #[.agg #[k,v],cv]) h'):callM P qbtZ #[.agg #[kw,vw],.int .u64 now] h K:=by
 apply qvVZ
 unfold qsvZ
 rw[zcMap,zcSlChg]
 refine nw_agg fun v1 h1 n1 e1 c1=>?_
 simp -implicitDefEqProofs only[nwM_s,cells_i]
 intro v3 n3
 have e3:Ext h1 (upd h1 v3 _):=Ext.upd n3 (.cells #[.int .u64 now] qaMZ (0,0))
 have c3:=upd_same' h1 v3 (.cells #[.int .u64 now] qaMZ (0,0))
 generalize upd h1 v3 _=h3 at *
 intro v5 n5
 have e5:Ext h3 (upd h3 v5 _):=Ext.upd n5 (.cells #[.slice none 0 0,.slice none 0 0] qaZ (0,0))
 have c5:=upd_same' h3 v5 (.cells #[.slice none 0 0,.slice none 0 0] qaZ (0,0))
 generalize upd h3 v5 _=h5 at *
 intro v7 n7
 have e7:Ext h5 (upd h5 v7 _):=Ext.upd n7 (.cells #[.slice none 0 0] qDZ (0,0))
 have c7:=upd_same' h5 v7 (.cells #[.slice none 0 0] qDZ (0,0))
 generalize upd h5 v7 _=h7 at *
 have c1:=e7 _ _ (e5 _ _ (e3 _ _ c1))
 have c3:=e7 _ _ (e5 _ _ c3)
 have n37:v3≠v7:=ne_fresh (e5 _ _ ‹_›) n7
 have n57:v5≠v7:=ne_fresh c5 n7
 have c5:=e7 _ _ c5
 have e0:=((e1.trans e3).trans e5).trans e7
 have hv7:h v7=none:=fresh_of ((e1.trans e3).trans e5) n7
 have hv5:h v5=none:=fresh_of (e1.trans e3) n5
 have o1:=x.1.one
 have o2:=x.2.1.one
 have hag:ldV (some (some 2)) (ptr v1) h7=some (.agg #[kw,vw]):=by simp[ld_at c1]
 simp -implicitDefEqProofs only[hag,ov_s]
 intro v10 n10
 simp -implicitDefEqProofs[stm_upd,ld_same,cel_same,over,o1.1,o2.1]
 have e10:Ext h7 (upd h7 v10 _):=Ext.upd n10 (.cells #[kw,vw] qaZ (0,0))
 have c10:=upd_same' h7 v10 (.cells #[kw,vw] qaZ (0,0))
 generalize upd h7 v10 _=h10 at *
 have n710:v7≠v10:=ne_fresh c7 n10
 have n310:v3≠v10:=ne_fresh c3 n10
 have n510:v5≠v10:=ne_fresh c5 n10
 have c1:=e10 _ _ c1
 have c3:=e10 _ _ c3
 have c5:=e10 _ _ c5
 have c7:=e10 _ _ c7
 have hv10:h v10=none:=fresh_of e0 n10
 have e0:=e0.trans e10
 rw[seqM_eq]
 unfold qtwZ
 have hag:ldV (some (some 2)) (ptr v1) h10=some (.agg #[kw,vw]):=by simp[ld_at c1]
 simp -implicitDefEqProofs only[hag,ov_s]
 refine all_ok b0 ((fz_ext T h).trans e0) x fun pA hB nA eA cA=>?_
 have nA7:v7≠pA:=ne_fresh c7 nA
 have nA10:v10≠pA:=ne_fresh c10 nA
 have nA5:v5≠pA:=ne_fresh c5 nA
 have c3:=eA _ _ c3
 have c5:=eA _ _ c5
 have c7:=eA _ _ c7
 have c10:=eA _ _ c10
 have e0:=e0.trans eA
 -- what nobody changes
 obtain⟨Lv,l1,l2⟩:=x.2.1.els EntR.one
 simp -implicitDefEqProofs only[List.length_map] at l1
 have wB:=w.ext e0
 have hall:∀ q∈[v5,v7,v10],h q=none:=fun q hq=>by
  simp -implicitDefEqProofs only[List.mem_cons,List.not_mem_nil,or_false] at hq
  rcases hq with rfl | rfl | rfl
  ·exact hv5
  ·exact hv7
  ·exact hv10
 have tA:T pA=[]:=w pA (fresh_of ‹Ext h h10› nA)
 have F1:Ext (fz T h) (fz (tls T [v5,v7,v10]) hB):=fz_tls hall e0
 have FA:fz (tls T [v5,v7,v10]) hB pA=some (.cells #[kw,vw] qaZ (0,0)):=by
  refine fz_at cA ?_
  rw[tls_out (by simp; exact⟨Ne.symm nA5,Ne.symm nA7,Ne.symm nA10⟩)]
  exact tA
 unfold qtvZ
 refine rf_go good mixed rfl (by kernel_rfl) (all_it b0 (hA:=fz (tls T [v5,v7,v10]) hB) (p:=pA) (kw:=kw) (vw:=vw) (Lv:=Lv) FA (x.ext F1) (l1.ext F1) l2.size (by simpa using l2.len))
  (fun l b i h'=>SwI T h hB b0 now v5 v7 v10 l b i h') (fun _ _ _ _=>False) (fun l b i s2 h'=>SwE T h hB b0 Lv now v1 v3 v5 v7 v10 l b i s2 h') ?_ ?_ ?_ (fun _ _ _ _ _ _ _ h _=>h) ?_ ?_ ?_ ?_ ?_ (fun _ _ _ _ _ _ _ h=>h.elim) (fun _ _ _ _ _ _ _ _ h=>h.elim)
 ·intro l b hl hb
  refine⟨kw,vw,.slice none 0 0,fun q o ho _ _=>ho,c10,?_,c7,Rf.nil e0,by simp[rowOf],by simp[rowOf],fun q hq=>by simp[rowOf] at hq⟩
  refine x.ext (fz_tls (fun q hq=>?_) e0)
  simp -implicitDefEqProofs only[swL,rowOf,Option.toList,List.mem_cons,List.not_mem_nil,or_false] at hq
  rcases hq with rfl | rfl | rfl | rfl | rfl
  ·exact hv5
  ·exact hv7
  ·exact hv10
  ·exact fresh_of e0 hl
  ·exact fresh_of e0 hb
 ·rintro l b i h' ⟨k,v,av,J⟩ q o hq
  have hq':hB q=some o:=fz_ext _ _ _ _ hq
  have hn:q ∉ [v5,v7,v10]:=fun hm=>by
   unfold fz at hq; rw[tls_in hm] at hq; simp at hq
  simp -implicitDefEqProofs only[List.mem_cons,List.not_mem_nil,or_false,not_or] at hn
  exact J.kb q o hq' hn.2.1 hn.2.2
 ·rintro l b hl hb i h' h'' ⟨k,v,av,J⟩ kp
  exact⟨k,v,av,J.keep hl e0 ⟨_,c7⟩ ⟨_,c10⟩ kp⟩
 ·rintro l b i s2 ha hb' hl hb ⟨xb,C⟩ kp
  obtain⟨⟨k,v,av,J⟩,q3,q6,q7,q8,q9,qx,qn⟩:=C
  exact⟨xb,⟨k,v,av,J.keep hl e0 ⟨_,c7⟩ ⟨_,c10⟩ kp⟩,q3,q6,q7,q8,q9,kp _ _ qx (by simpa using qn),qn⟩
 ·intro i hi; simp[allX]
 ·rintro i hi l b h2 hl hb ⟨ol,hol⟩ ⟨ob,hob⟩ ⟨k,v,av,J⟩
  rw[qvGZ]
  unfold qsOZ
  rw[zcEnt]
  have hi':i<b0.length:=by simpa [allX] using hi
  have hLi:i<Lv.length:=by rw[l2.len]; simpa using hi'
  have hxi:(allX b0 Lv)[i]=#[.string (b0.getD i (⟨#[]⟩,ent0)).1,.agg (Lv.getD i []).toArray]:=by simp[allX]
  have hLv:Lv.getD i []=Lv[i]:=by rw[List.getD_eq_getElem?_getD,List.getElem?_eq_getElem hLi]; rfl
  have hsz4:(Lv.getD i []).length=4:=by rw[hLv]; exact l2.size _ (List.getElem_mem _)
  have hone:∀ u∈Lv.getD i [],u.oneCell'=true:=by rw[hLv]; exact l2.one _ (List.getElem_mem hLi)
  rw[hxi]
  obtain⟨c0,hc0⟩:∃ c,Lv.getD i []=c:=⟨_,rfl⟩
  obtain⟨k0,hk0⟩:∃ k,(b0.getD i (⟨#[]⟩,ent0)).1=k:=⟨_,rfl⟩
  rw[hc0,hk0]
  rw[hc0] at hsz4 hone
  simp -implicitDefEqProofs
  refine nw_st rfl (by simpa using hsz4) (by simpa using hone) fun xb h4 n4 e4 c4=>?_
  have nx:xb≠l:=fun hh=>by subst hh; rw[hol] at n4; cases n4
  refine⟨⟨xb,⟨k,v,av,?_⟩,?_,?_,?_,?_,?_,?_,nx⟩,by rw[hol,e4 _ _ hol],by rw[hob,e4 _ _ hob]⟩
  ·exact⟨fun q o ho n7 n10=>e4 _ _ (J.kb q o ho n7 n10),e4 _ _ J.c10,J.bk.ext (fz_of_ext e4),e4 _ _ J.c7,J.rw.ext e4,J.nl,J.nb,J.nB⟩
  ·simp -implicitDefEqProofs
  ·simp -implicitDefEqProofs
  ·simp -implicitDefEqProofs
  ·rw[hk0]; simp
  ·simp -implicitDefEqProofs
  ·rw[c4,hc0,cells_agg]
 ·rintro i hi l b s2 h3 hl9 hb hl3 hb3 ⟨xb,C⟩
  have hi':i<b0.length:=by simpa [allX] using hi
  refine sweepBody w bw hl hsz hss (F:=fz (tls T [v5,v7,v10]) hB) ?_ (l2.ext (@EntR.ext) F1) e0 c3 n37 n310 ⟨_,c5⟩ n57 n510 hv7 hv10 n710 hi' hl9 hb ⟨_,c7⟩ ⟨_,c10⟩ hl3 hb3 C
  intro q o hq
  have hn:q ∉ [v5,v7,v10]:=fun hm=>by
   unfold fz at hq; rw[tls_in hm] at hq; simp at hq
  simp -implicitDefEqProofs only[List.mem_cons,List.not_mem_nil,or_false,not_or] at hn
  exact⟨fz_ext _ _ _ _ hq,hn.2.1,hn.2.2⟩
 ·intro l b h' hl9 hlb hb hd hJ
  obtain⟨k,v,av,J⟩:=hJ
  have hlen:(allX b0 Lv).length=b0.length:=by simp[allX]
  rw[hlen] at J
  have c5':=J.kb _ _ c5 n57 n510
  have c7':=J.c7
  have c10':=J.c10
  have p1:=J.bk.1.one
  have p2:=J.bk.2.1.one
  have oav:=J.rw.row.one
  have nb5:v5≠b:=fun hh=>by subst hh; rw[c5] at hb; cases hb
  have nr5:rowOf av≠some v5:=row_ty J.rw.row c5' (by decide)
  have hbh:h b=none:=fresh_of e0 hb
  simp -implicitDefEqProofs only[blkM_n,thenM_n]
  unfold qtxZ
  simp -implicitDefEqProofs[ld_at c10',cel_of c10',stm_at c10',ld_at c7',cel_of c7',stm_at c7',ld_at c5',cel_of c5',stm_at c5',stm_skip n57,stm_skip (Ne.symm n57),ld_skip n57,ld_skip (Ne.symm n57),cel_skip n57,cel_skip (Ne.symm n57),stm_skip n510,stm_skip (Ne.symm n510),ld_skip n510,ld_skip (Ne.symm n510),cel_skip n510,cel_skip (Ne.symm n510),stm_upd,ld_same,cel_same,over,p1.1,p2.1,hd,tgMap,tgSlChg,upd_ne (Ne.symm nb5),ld_skip nb5]
  refine hk _ k v av (ext_upd hbh (ext_upd hv5 J.rw.ex)) (J.bk.ext ?_) ?_
  ·refine fz_untls fun q o hq ho=>?_
   simp -implicitDefEqProofs only[swL,List.mem_cons,Option.mem_toList,not_or] at hq
   rw[upd_ne hq.2.2.2.2.1,upd_ne hq.1]; exact ho
  ·have r:=(J.rw.skip (o:=.cells #[k,v] qaZ (0,0)) hv5 nr5).skip (o:=.deferred none) hbh J.nb
   have e7:(sweepB b0 now).2.flatMap chgC=((sweepB b0 now).2.map chgC).flatten:=List.flatMap_def
   have r:Rf 7 qSZ h _ av (sweepB b0 now).2.length ((sweepB b0 now).2.flatMap chgC):=r
   rw[e7] at r
   exact r.sl w (by simp) (El.enc (by simp[chgC,presC]) (fun y=>chgC_one y) (fun _ _=>rfl))
end Go.Proofs.YtmbningljbcpkaaGreat
namespace Go.Den
open Go
set_option linter.unusedVariables false
def endV (v:Int):Int:=if wrt v then v+1 else v
def Ring.put (r:Ring)(x:Evt):Ring:=if r.room≤r.l.length then { r with lost:=true } else { r with l:=r.l++[x] }
def qset (q:Nat→Ring)(i:Nat)(r:Ring):Nat→Ring:=fun k=>if k=i then r else q k
def clientB (who:Int):Bool:=decide (0≤who∧who<8)
def mbit (m who:Int):Bool:=m / 2 ^ who.toNat % 2 == 1
def Feed.watching (f:Feed)(who:Int)(u:ByteArray):Bool:=clientB who && mbit (valL 0 f.ws u) who
def Feed.tell1 (f:Feed)(c:Chg)(seq:Int):Nat→Feed
 | 0=>f
 | n+1=>let g:=f.tell1 c seq n; if f.watching n c.user then { g with qs:=qset g.qs n ((g.qs n).put ⟨c.user,c.old,c.new,seq⟩) } else g
def Feed.tell (f:Feed)(l:List Chg)(seq:Int):Feed:=l.foldl (fun f c=>f.tell1 c seq 8) f
theorem tell1_ws (f:Feed)(c:Chg)(seq:Int):∀ n,(f.tell1 c seq n).ws=f.ws
 | 0=>rfl
 | n+1=>by
  have ih:=tell1_ws f c seq n
  simp only[Feed.tell1]
  split<;>exact ih
def RiG (r:Ring):Prop:=0≤r.room∧r.room≤16∧r.l.length≤16
structure FdG (f:Feed):Prop where
 so:SrtK (keysL f.ws)
 len:f.ws.length<1000000
 ms:∀ x∈f.ws,0≤x.2∧x.2<4294967296
 qs:∀ j,j<8→RiG (f.qs j)
theorem RiG.put {r:Ring}(g:RiG r)(x:Evt):RiG (r.put x):=by
 obtain⟨h1,h2,h3⟩:=g
 unfold Ring.put
 split
 ·exact⟨h1,h2,h3⟩
 ·refine⟨h1,h2,?_⟩
  simp only[List.length_append,List.length_cons,List.length_nil]; omega
theorem FdG.tell1 {f:Feed}(g:FdG f)(c:Chg)(seq:Int):∀ n,FdG (f.tell1 c seq n)
 | 0=>g
 | n+1=>by
  have ih:=FdG.tell1 g c seq n
  simp only[Feed.tell1]
  split
  ·refine⟨ih.so,ih.len,ih.ms,fun j hj=>?_⟩
   simp only[qset]
   split
   ·rename_i h; subst h; exact (ih.qs _ hj).put _
   ·exact ih.qs j hj
  ·exact ih
theorem FdG.tell {f:Feed}(g:FdG f)(seq:Int):∀ l:List Chg,FdG (f.tell l seq):=by
 intro l
 unfold Feed.tell
 induction l generalizing f with
 | nil=>exact g
 | cons c l ih=>exact ih (g.tell1 c seq 8)
end Go.Den
namespace Go.Den
open Go
theorem bin_shr32 (t:Nat)(c:Bool){m n:Int}(h0:0≤n)(h1:n<8)(hm:0≤m):binV .shr t c (.int .u32 m) (.int .i64 n)=some (.int .u32 (m / 2 ^ n.toNat)):=by
 have:m.fdiv (2 ^ n.toNat)=m / 2 ^ n.toNat:=Int.fdiv_eq_ediv_of_nonneg _ (Int.pow_nonneg (by omega))
 simp[binV,intV,IntKind.bits,this]
 exact⟨h0,by rw[Nat.min_eq_left (by omega),this]⟩
theorem wrapU32_id {n:Int}(h0:0≤n)(h1:n<4294967296):IntKind.u32.wrap n=n:=by
 simp only[IntKind.wrap,IntKind.bits,IntKind.signed]
 simp
 omega
theorem bin_and32 (t:Nat)(c:Bool){b:Int}(hb:0≤b)(h2:b<4294967296):binV .and t c (.int .u32 b) (.int .u32 1)=some (.int .u32 (b % 2)):=by
 have h:binV .and t c (.int .u32 b) (.int .u32 1)=some (.int .u32 (IntKind.u32.wrap (BitVec.ofInt 32 b &&& BitVec.ofInt 32 1).toNat)):=rfl
 obtain⟨n,rfl⟩:∃ n:Nat,b=n:=⟨b.toNat,by omega⟩
 have e:(BitVec.ofInt 32 (n:Int) &&& BitVec.ofInt 32 1).toNat=n % 2:=by
  rw[BitVec.toNat_and]
  have:(BitVec.ofInt 32 (n:Int)).toNat=n:=by simp; omega
  rw[this]
  have:(BitVec.ofInt 32 1).toNat=1:=by rfl
  rw[this,Nat.and_one_is_mod]
 rw[h,e,wrapU32_id (by omega) (by omega)]
 congr 2
theorem valL_rng {b:List (ByteArray × Int)}{u:ByteArray}(h:∀ x∈b,0≤x.2∧x.2<4294967296):0≤valL 0 b u∧valL 0 b u<4294967296:=by
 induction b with
 | nil=>simp[valL]
 | cons x b ih =>
  obtain⟨k,e⟩:=x
  simp only[valL]
  split
  ·exact h (k,e) (by simp)
  ·exact ih fun x hx=>h x (by simp[hx])
end Go.Den
namespace Go.Proofs.YtmbningljbcpkaaGreat
open Go Go.Den Go.MapKept
set_option linter.unusedSimpArgs false
set_option linter.unusedVariables false
set_option maxRecDepth 20000
variable {K:KTy}
theorem end_ok (v b:Int)(hv:U64 v)(hw:wrt v=true→v<18446744073709551615){h:Heap}(hk:∀ h',Ext h h'→K (.agg (cellC (endV v) b).toArray) h'):callM P qnAZ #[.agg (cellC v b).toArray] h K:=by
 apply qvFZ
 unfold qptZ
 refine nw_agg fun v1 h1 n1 e1 c1=>?_
 rw[zcCell]
 refine nw_intro fun v3 h2 n3 e3 c3=>?_
 have hne:=ne_fresh c1 n3
 have c1:=e3 _ _ c1
 rw[seqM_eq]
 unfold qrWZ
 simp -implicitDefEqProofs only[ld_box c1 (n:=2) rfl,ov_s]
 refine writing_ok v b hv fun h3 e4=>?_
 have c1:=e4 _ _ c1
 have c3:=e4 _ _ c3
 have e0:=(e1.trans e3).trans e4
 have n3:=fresh_of e1 n3
 unfold qrVZ
 simp -implicitDefEqProofs only[cellC] at c1
 cases hb:wrt v with
 | true =>
  have hw:=hw hb
  have:IntKind.u64.wrap (v+1)=v+1:=wrapU_id (by have:=hv.1; omega) (by omega)
  unfold qrUZ
  simp -implicitDefEqProofs[ld_at c1,cel_of c1,stm_at c1,ld_at c3,cel_of c3,stm_at c3,stm_skip hne,stm_skip (Ne.symm hne),ld_skip hne,ld_skip (Ne.symm hne),cel_skip hne,cel_skip (Ne.symm hne),stm_upd,ld_same,cel_same,over,this,tgCell]
  exact kv (hk _ (ext_upd n1 (ext_upd n3 e0))) (by simp[cellC,endV,hb])
 | false =>
  simp -implicitDefEqProofs[ld_at c1,cel_of c1,stm_at c1,ld_at c3,cel_of c3,stm_at c3,stm_upd,ld_same,cel_same,over,tgCell]
  exact kv (hk _ (ext_upd n3 e0)) (by simp[cellC,endV,hb])
theorem bsEv:bsI P qeZ=some (qsZ,8,#[.string ⟨#[]⟩,.int .i64 0,.int .i64 0,.int .i64 0,.int .i64 0,.int .i64 0,.int .i64 0,.int .u64 0]):=by kernel_rfl
theorem unSlEv:P.underlying qeZ=some (.slice qsZ):=by kernel_rfl
theorem apEv:apC P qsZ=some (8,72,8):=by kernel_rfl
theorem evC_one (e:Evt):∀ u∈evC e,u.oneCell'=true:=fun u hu=>EvR.one (h:=fun _=>none) _ e rfl u hu
theorem put_ok (x:Evt){T:Tags}{h:Heap}{g:Tag}{p:Nat}{r:Ring}(w:Wf T h)(gg:Gd g)(xr:RingR T h g p r)(rg:RiG r)
  (hk:∀ T' h' b,Only (pre g) T h T' h'→RingR T' h' g p (r.put x)→K (.bool b) h'):callM P qekZ #[ptr p,.agg (evC x).toArray] h K:=by
 apply qsgZ
 unfold qeOZ
 refine nw_agg fun v1 h1 n1 e1 c1=>?_
 have o1:Only non T h T h1:=Only.of_ext w e1
 obtain⟨lv,cp,tp,rl⟩:=xr.kp o1.k (Off.non _)
 have cp0:=cp
 simp -implicitDefEqProofs only[ringC] at cp
 have hlen:=rl.len
 have hone:=rl.one
 simp -implicitDefEqProofs[ld_at cp,cel_of cp,stm_at cp,stm_upd,ld_same,cel_same,over,hlen]
 have od:∀ o',Only (pre g) T h T (upd h1 p o'):=fun o'=>(o1.mono non_up).st cp0 (tp▸pre_app _ _)
 refine⟨fun hc=>?_,fun hc=>?_⟩
 ·have e:r.put x={ r with lost:=true }:=by simp[Ring.put,hc]
  rw[e] at hk
  refine hk T _ false (od _) ⟨lv,by rw[upd_same']; rfl,tp,rl.kp (Only.upd (U:=fun t=>t=g++[0]) o1.wf cp0 tp).k (ne_tag (by simp))⟩
 ·have hc':¬ r.room≤(r.l.length:Int):=by omega
  have e:r.put x={ r with l:=r.l++[x] }:=by simp[Ring.put,hc']
  rw[e] at hk
  unfold qhYZ
  have hld:ldV (some (some 8)) (ptr v1) h1=some (.agg (evC x).toArray):=by simp[ld_at c1,evC,presC]
  simp -implicitDefEqProofs[ld_at cp,cel_of cp,stm_at cp,stm_upd,ld_same,cel_same,over,hld]
  refine bs_one bsEv (by simp[evC,presC]) (by omega) fun b h2 n2 e2 c2=>?_
  have o2:Only non T h1 T h2:=Only.of_ext o1.wf e2
  have cp2:=e2 _ _ cp
  refine⟨by simp[ld_at cp2,cel_of cp2,stm_at cp2,stm_upd,ld_same,cel_same,over],?_⟩
  refine Rw.app1 (m:=1) (news:=_) unSlEv apEv (by omega) o2.wf (rl.kp o2.k (not_non _)) (cels_one c2 (by simp[evC,presC])) (by simpa using evC_one x) (by unfold maxLen; have:=rg.2.2; omega) (by have:=rg.2.2; omega) fun lv' T3 h3 o3 r3=>?_
  have b3:=o3.k.at (e2 _ _ cp0) tp (ne_tag (by simp))
  have c3:=b3.1
  simp -implicitDefEqProofs only[ringC] at c3
  have ho:=r3.one
  simp -implicitDefEqProofs[ld_at c3,cel_of c3,stm_at c3,stm_upd,ld_same,cel_same,over,ho.1,ho.2]
  have oe:∀ o',Only (pre g) T h T3 (upd h3 p o'):=fun o'=>(((o1.mono non_up).up o2 non_up).up o3 fun t=>eq_pre).st b3.1 (b3.2▸pre_app _ _)
  refine hk T3 _ true (oe _) ⟨lv',by rw[upd_same']; simp[ringC],b3.2,?_⟩
  have:=r3.kp (Only.upd (U:=fun t=>t=g++[0]) (o':=.cells #[.int .i64 r.room,lv',.bool r.lost] qEZ (0,0)) o3.wf b3.1 b3.2).k (ne_tag (by simp))
  simpa using this
theorem client_ok (who:Int){h:Heap}(hk:K (.bool (clientB who)) h):callM P qcNZ #[.int .i64 who] h K:=by
 apply qvRZ
 unfold qrPZ
 simp +contextual -implicitDefEqProofs
 exact kb hk (by unfold clientB; rw[Bool.decide_and])
theorem watching_ok (who:Int)(u:ByteArray){T:Tags}{h:Heap}{g:Tag}{p:Nat}{f:Feed}(x:FeedR T h g p f)(fg:FdG f)
  (hk:∀ h',Ext h h'→K (.bool (f.watching who u)) h'):callM P qdOZ #[ptr p,.int .i64 who,.string u] h K:=by
 apply qtSZ
 unfold qiIZ
 obtain⟨kw,vw,q,cp,tp,x1,x2,xq,s1,s2⟩:=x
 have hag:ldV (some (some 2)) (ptr p) h=some (.agg #[kw,vw]):=by simp[ld_at cp,feedC,feedG,List.range_succ]
 simp -implicitDefEqProofs[hag]
 refine mget_ok f.ws fg.so u (fz_ext T h) ⟨x1,x2,s1,s2⟩ fg.len fun h1 e1=>?_
 unfold qnhZ
 simp -implicitDefEqProofs only[exV_0,exV_1,ov_s]
 refine client_ok who ?_
 unfold qngZ
 obtain⟨m0,m1⟩:=valL_rng (u:=u) fg.ms
 cases hc:clientB who with
 | false =>
  simp -implicitDefEqProofs
  exact kb (hk _ e1) (by simp[Feed.watching,hc])
 | true =>
  have hc':0≤who∧who<8:=by simpa [clientB] using hc
  have m2:0≤valL 0 f.ws u / 2 ^ who.toNat:=Int.ediv_nonneg m0 (Int.pow_nonneg (by omega))
  have m3:valL 0 f.ws u / 2 ^ who.toNat<4294967296:=Int.lt_of_le_of_lt (Int.ediv_le_self _ m0) m1
  simp -implicitDefEqProofs[bin_shr32 _ _ hc'.1 hc'.2 m0,bin_and32 _ _ m2 m3]
  exact kb (hk _ e1) (by simp[Feed.watching,hc,mbit])
end Go.Proofs.YtmbningljbcpkaaGreat
namespace Go.Proofs.YtmbningljbcpkaaGreat
open Go Go.Den Go.MapKept
set_option linter.unusedSimpArgs false
set_option linter.unusedVariables false
set_option maxRecDepth 20000
structure FeedX (T:Tags)(h:Heap)(g:Tag)(p:Nat)(f:Feed)(kw vw:Value)(q:Nat→Nat):Prop where
 hp:h p=some (.cells (feedC kw vw fun j=>ptr (q j)).toArray qauZ (0,0))
 tp:T p=g++[0]
 x1:Sl 1 StrR (fz T h) kw (f.ws.map (·.1))
 x2:Sl 1 MaskR (fz T h) vw (f.ws.map (·.2))
 xq:∀ j,j<8→RingR T h (g++[1,j]) (q j) (f.qs j)
 s1:Sn kw
 s2:Sn vw
theorem FeedX.r {T:Tags}{h:Heap}{g:Tag}{p:Nat}{f:Feed}{kw vw:Value}{q:Nat→Nat}(x:FeedX T h g p f kw vw q):FeedR T h g p f:=⟨kw,vw,q,x.hp,x.tp,x.x1,x.x2,x.xq,x.s1,x.s2⟩
theorem FeedX.kp {U:Tag→Prop}{T T':Tags}{h h':Heap}{g:Tag}{p:Nat}{f:Feed}{kw vw:Value}{q:Nat→Nat}(x:FeedX T h g p f kw vw q)(k:Kp U T h T' h')(o:Off U g)(n:¬ U []):FeedX T' h' g p f kw vw q :=
 ⟨(k.at x.hp x.tp (o.at _)).1,(k.at x.hp x.tp (o.at _)).2,x.x1.ext (@StrR.ext) (k.ext n),x.x2.ext (@MaskR.ext) (k.ext n),fun j hj=>(x.xq j hj).kp k (o.app _),x.s1,x.s2⟩
theorem chg_ld {F:Heap}{v:Value}{l:List Chg}(x:Sl 7 ChgR F v l){i:Nat}(hi:i<l.length){k:IntKind}:∃ b p,iaV (some (none,7)) v (.int k i)=some (.pointer (some ⟨b,p,none⟩))∧∀ h',Ext F h'→cels h' b p 7=some (chgC l[i]):=by
 obtain⟨b,p,c,h1,h2,h3⟩:=x.at (k:=k) (i:=i) (by omega) (by omega)
 refine⟨b,p,h1,fun h' e=>?_⟩
 have hc:c=chgC l[i]:=h3
 subst hc
 exact cels_ext e h2
theorem zcChg:zc P qSZ=some #[.string ⟨#[]⟩,.int .i64 0,.int .i64 0,.int .i64 0,.int .i64 0,.int .i64 0,.int .i64 0]:=by kernel_rfl
theorem bdEv (u:ByteArray)(a b c d e f s:Int):bdV (binf P qsZ) [(0,.string u),(1,.agg #[.int .i64 a,.int .i64 b,.int .i64 c]),(2,.agg #[.int .i64 d,.int .i64 e,.int .i64 f]),(3,.int .u64 s)] =
 some (.agg #[.string u,.int .i64 a,.int .i64 b,.int .i64 c,.int .i64 d,.int .i64 e,.int .i64 f,.int .u64 s]):=by kernel_rfl
theorem xa_q {q:Nat→Value}{n:Nat}(hn:n<8){k:IntKind}:xaV (some (none,8,1)) (.agg ((List.range 8).map q).toArray) (.int k n)=some (q n):=by
 have:(0:Int)≤n∧(n:Int)<8:=by omega
 simp -implicitDefEqProofs[xaV,this,fdV,hn]
def TellO (T:Tags)(h:Heap)(g:Tag)(p:Nat)(f:Feed)(l:List Chg)(seq:Int)(v:Value)(h':Heap):Prop :=
 ∃ (T':Tags) (i:Nat),Only (pre g) T h T' h'∧FeedR T' h' g p (f.tell (l.take i) seq)∧i≤l.length∧v = .int .i64 i
def TellI (T:Tags)(h:Heap)(g:Tag)(p:Nat)(f:Feed)(c:Chg)(seq:Int)(kw vw:Value)(q:Nat→Nat)(cb:Nat)(v:Value)(h':Heap):Prop :=
 ∃ (T':Tags) (n:Nat),Only (pre g) T h T' h'∧FeedX T' h' g p (f.tell1 c seq n) kw vw q∧T' cb=[]∧h' cb=some (.cells (chgC c).toArray qSZ (0,0))∧n≤8∧v = .int .i64 n
theorem tell_succ (f:Feed)(l:List Chg)(seq:Int){i:Nat}(hi:i<l.length):f.tell (l.take (i+1)) seq=(f.tell (l.take i) seq).tell1 l[i] seq 8:=by
 rw[List.take_succ_eq_append_getElem hi]
 simp -implicitDefEqProofs only[Feed.tell,List.foldl_append,List.foldl_cons,List.foldl_nil]
variable {K:KTy}
set_option maxHeartbeats 2000000 in
theorem tell_ok (l : List Chg) (seq : Int) {T : Tags} {h : Heap} {g : Tag} {p : Nat} {f : Feed} (w : Wf T h) (gg : Gd g) (x : FeedR T h g p f) (fg : FdG f) {cv : Value} (cx : Sl 7 ChgR (fz T h) cv l) (hl : l.length < 1000000)
    (hk : ∀ T' h', Only (pre g) T h T' h' → FeedR T' h' g p (f.tell l seq) → K (.tuple #[]) h') : callM P qepZ #[ptr p, cv, .int .u64 seq] h K := by
  apply qvCZ
  unfold qnMZ
  have hlen := cx.len
  simp -implicitDefEqProofs only [hlen, ov_s]
  refine loop_on [0, 2, 10, 11] (fun s h' => TellO T h g p f l seq (s 12) h') (fun s _ => (l.length - num (s 12)).toNat) ⟨T, 0, Only.refl w, by simpa [Feed.tell] using x, by omega, rfl⟩ ?_
  rintro s h1 hf ⟨T1, i, o1, x1, hi, s12⟩
  have s0 : s 0 = ptr p := by simpa using hf 0 (by simp)
  have s2 : s 2 = .int .u64 seq := by simpa using hf 2 (by simp)
  have s10 : s 10 = cv := by simpa using hf 10 (by simp)
  have s11 : s 11 = .int .i64 l.length := by simpa using hf 11 (by simp)
  unfold qrHZ
  simp -implicitDefEqProofs only [s12, s11, bin_lss, ov_s, cd_b]
  refine ⟨fun hc => ?_, fun hc => ?_⟩
  rotate_left
  · have : i = l.length := by have : ¬ ((i : Int) < l.length) := by simpa using hc
                              omega
    subst this
    rw [List.take_length] at x1
    simp -implicitDefEqProofs
    exact hk T1 h1 o1 x1
  have hlt : i < l.length := by have : ((i : Int) < l.length) := by simpa using hc
                                omega
  have hw : IntKind.i64.wrap ((i : Int) + 1) = (i + 1 : Nat) := by rw [wrap64_id (by omega) (by omega)]; omega
  unfold qrGZ
  rw [seqM_eq]
  unfold qrFZ
  obtain ⟨b, o, i1, i2⟩ := chg_ld cx (k := .i64) hlt
  simp -implicitDefEqProofs only [s10, s12, i1, ov_s, ldV_n (i2 _ ((o1.ext gg.nil).trans (fz_ext _ _))), zcChg]
  obtain ⟨c, hcc⟩ : ∃ c, l[i] = c := ⟨_, rfl⟩
  have hs1 := tell_succ f l seq hlt
  obtain ⟨f1, hf1⟩ : ∃ f1, f.tell (l.take i) seq = f1 := ⟨_, rfl⟩
  have fg1 : FdG f1 := hf1 ▸ fg.tell seq _
  rw [hf1] at x1 hs1
  rw [hcc] at hs1 ⊢
  simp -implicitDefEqProofs only [chgC, presC, List.cons_append, List.nil_append]
  refine nw_st (by simp) (by simp) (by simp) fun cb h2 n2 e2 c2 => ?_
  simp -implicitDefEqProofs only [cells_agg] at c2
  have o2 : Only non T1 h1 T1 h2 := Only.of_ext o1.wf e2
  have tcb : T1 cb = [] := o1.wf cb n2
  obtain ⟨kw, vw, q, y1, y2, y3, y4, y5, y6, y7⟩ := x1.kp o2.k (Off.non _) (not_non _)
  have X : FeedX T1 h2 g p f1 kw vw q := ⟨y1, y2, y3, y4, y5, y6, y7⟩
  have hag : ldV (some (some 8)) (.pointer (some ⟨p, 2, none⟩)) h2 = some (.agg ((List.range 8).map fun j => ptr (q j)).toArray) := by simp [ld_at y1, feedC, feedG, List.range_succ]
  simp -implicitDefEqProofs only [s0, ncV_p, faV_p, ov_s, Nat.zero_add, hag]
  refine loop_on [0, 2, 7, 10, 11, 12, 19] (fun s' h' => TellI T h g p f1 c seq kw vw q cb (s' 20) h') (fun s' _ => (8 - num (s' 20)).toNat) ⟨T1, 0, o1.up o2 non_up, X, tcb, c2, by omega, rfl⟩ ?_
  rintro s' h3 hf' ⟨T3, n, o3, X3, tc3, c3, hn, s20⟩
  have t0 : s' 0 = ptr p := by simpa [s0] using hf' 0 (by simp)
  have t2 : s' 2 = .int .u64 seq := by simpa [s2] using hf' 2 (by simp)
  have t7 : s' 7 = ptr cb := by simpa using hf' 7 (by simp)
  have t10 : s' 10 = cv := by simpa [s10] using hf' 10 (by simp)
  have t11 : s' 11 = .int .i64 l.length := by simpa [s11] using hf' 11 (by simp)
  have t12 : s' 12 = .int .i64 i := by simpa [s12] using hf' 12 (by simp)
  have t19 : s' 19 = .agg ((List.range 8).map fun j => ptr (q j)).toArray := by simpa using hf' 19 (by simp)
  unfold qrEZ
  simp -implicitDefEqProofs only [s20, bin_lss, ov_s, cd_b]
  refine ⟨fun hc8 => ?_, fun hc8 => ?_⟩
  rotate_left
  · have : n = 8 := by have : ¬ ((n : Int) < 8) := by simpa using hc8
                       omega
    subst this
    simp -implicitDefEqProofs [t12, hw, t0, t2, t10, t11, s0, s2, s10, s11, s12, -Int.natCast_add]
    exact ⟨⟨T3, i + 1, o3, by rw [hs1]; exact X3.r, by omega, rfl⟩, by omega⟩
  have hn8 : n < 8 := by have : ((n : Int) < 8) := by simpa using hc8
                         omega
  have hw8 : IntKind.i64.wrap ((n : Int) + 1) = (n + 1 : Nat) := by rw [wrap64_id (by omega) (by omega)]; omega
  have fg3 : FdG (f1.tell1 c seq n) := fg1.tell1 c seq n
  have c3' := c3
  simp -implicitDefEqProofs only [chgC, presC, List.cons_append, List.nil_append] at c3
  unfold qrDZ
  rw [seqM_eq]
  unfold qrCZ
  simp -implicitDefEqProofs [t0, t7, t19, s20, xa_q hn8, ld_at c3, cel_of c3, stm_at c3, stm_upd, ld_same, cel_same, over]
  refine watching_ok n c.user X3.r fg3 fun h4 e4 => ?_
  have o4 : Only non T3 h3 T3 h4 := Only.of_ext o3.wf e4
  have X4 := X3.kp o4.k (Off.non _) (not_non _)
  have c4 := e4 _ _ c3
  have hwt : (f1.tell1 c seq n).watching n c.user = f1.watching n c.user := by unfold Feed.watching; rw [tell1_ws]
  rw [hwt]
  unfold qrBZ
  cases hwa : f1.watching n c.user with
  | false =>
    have e : f1.tell1 c seq (n + 1) = f1.tell1 c seq n := by simp [Feed.tell1, hwa]
    simp -implicitDefEqProofs [hw8, t0, t2, t7, t10, t11, t12, t19, s20, s0, s2, s10, s11, s12, -Int.natCast_add]
    exact ⟨⟨T3, n + 1, o3.up o4 non_up, by rw [e]; exact X4, tc3, e4 _ _ c3', by omega, rfl⟩, by omega⟩
  | true =>
    have e : f1.tell1 c seq (n + 1) = { f1.tell1 c seq n with qs := qset (f1.tell1 c seq n).qs n (((f1.tell1 c seq n).qs n).put ⟨c.user, c.old, c.new, seq⟩) } := by simp [Feed.tell1, hwa]
    simp -implicitDefEqProofs only [cd_b, true_implies]
    refine ⟨?_, fun h => (by cases h)⟩
    unfold qrAZ
    simp -implicitDefEqProofs [t7, t2, ld_at c4, cel_of c4, stm_at c4, stm_upd, ld_same, cel_same, over, bdEv]
    refine put_ok ⟨c.user, c.old, c.new, seq⟩ o4.wf (gg.app [1, n]) (X4.xq n hn8) (fg3.qs n hn8) fun T5 h5 b5 o5 r5 => ?_
    unfold qrzZ
    simp -implicitDefEqProofs [hw8, t0, t2, t7, t10, t11, t12, t19, s20, s0, s2, s10, s11, s12, -Int.natCast_add]
    have gn : ¬ pre (g ++ [1, n]) [] := (gg.app _).nil
    have bc := o5.k.at (e4 _ _ c3') tc3 gn
    refine ⟨⟨T5, n + 1, (o3.up o4 non_up).up o5 fun t => pre_trans, ?_, bc.2, bc.1, by omega, rfl⟩, by omega⟩
    rw [e]
    have bp := o5.k.at X4.hp X4.tp (not_pre (by simp))
    refine ⟨bp.1, bp.2, X4.x1.ext (@StrR.ext) (o5.ext gn), X4.x2.ext (@MaskR.ext) (o5.ext gn), fun j hj => ?_, X4.s1, X4.s2⟩
    simp -implicitDefEqProofs only [qset]
    by_cases hjn : j = n
    · subst hjn; rw [if_pos rfl]; exact r5
    · rw [if_neg hjn]; exact (X4.xq j hj).kp o5.k (off_pre (by simp; omega) (by simp; omega))
end Go.Proofs.YtmbningljbcpkaaGreat
namespace Go.Den
open Go
set_option linter.unusedVariables false
def Hall.end_ (H:Hall)(who:Int)(s:Nat):Hall:=(H.did who 4 (4*s+2)).put s { H.ss s with v:=endV (H.ss s).v }
def Hall.pub (H:Hall)(who:Int)(s:Nat):Hall:=((H.did who 1 (4*s+4)).did who 4 (4*s+3)).put s { H.ss s with snap:=(H.ss s).book }
def Hall.take (H:Hall)(who:Int):Hall:={ H.did who 4 0 with t:={ H.t with seq:=addU H.t.seq 1 } }
def Hall.pass (H:Hall)(who by_:Int):Hall:={ H.did who 4 0 with t:={ H.t with now:=addU H.t.now by_ } }
def Hall.shut (H:Hall)(who:Int):Hall:={ H.did who 4 0 with t:={ H.t with closed:=true } }
def Hall.wr (H:Hall)(who:Int)(s:Nat):Hall:=H.did who 2 (4*s+4)
def Hall.sweep (H:Hall)(who:Int)(s:Nat)(t:Tm):Hall :=
 (H.wr who s).put s { H.ss s with book:=(sweepB (H.ss s).book t.now).1,feed:=(H.ss s).feed.tell (sweepB (H.ss s).book t.now).2 t.seq }
def Hall.write (H:Hall)(who:Int)(s:Nat)(x:OpD)(t:Tm):Hall × Int :=
 if t.closed then (H.wr who s,5) else
  ((H.wr who s).put s { H.ss s with book:=(writeB (H.ss s).book x t.now H.c.sessions).1,feed:=(H.ss s).feed.tell (writeB (H.ss s).book x t.now H.c.sessions).2.1 t.seq },(writeB (H.ss s).book x t.now H.c.sessions).2.2)
end Go.Den
namespace Go.Proofs.YtmbningljbcpkaaGreat
open Go Go.Den Go.MapKept
set_option linter.unusedSimpArgs false
set_option linter.unusedVariables false
set_option maxRecDepth 20000
variable {K:KTy}
theorem hend_ok (who:Int){s:Nat}{T:Tags}{h:Heap}{g:Tag}{p:Nat}{H:Hall}(w:Wf T h)(gg:Gd g)(x:HallR T h g p H)(hs:s<H.n)(h8:H.n≤8)(hl:H.acts.length<1000000)(hv:U64 (H.ss s).v)(hw:wrt (H.ss s).v=true→(H.ss s).v<18446744073709551615)
  (hk:∀ T' h',Only (pre g) T h T' h'→HallR T' h' g p (H.end_ who s)→K (.tuple #[]) h'):callM P qnzZ #[ptr p,.int .i64 who,.int .i64 s] h K:=by
 apply qvDZ
 unfold qplZ
 refine place_ok s 2 (by omega) ?_
 unfold qrTZ
 obtain⟨sv,av,Y,x⟩:=x
 refine did_ok who 4 _ w gg x hl fun T2 h2 av2 o2 x2=>?_
 have bp:h2 p=_∧T2 p=_:=⟨x2.hp,x2.tp⟩
 simp -implicitDefEqProofs only[hallC] at bp
 have cp:=bp.1
 obtain⟨b,ob,rb,hb1,tb,ia,l1,l2,l3,l4,l5,l6⟩:=x2.lds (s:=s) (k:=.i64) hs
 unfold qrSZ
 simp -implicitDefEqProofs[ld_at cp,cel_of cp,stm_at cp,stm_upd,ld_same,cel_same,over,ia,l2]
 refine end_ok _ _ hv hw fun h3 e3=>?_
 have o3:Only non T2 h2 T2 h3:=Only.of_ext o2.wf e3
 have bp:=o3.see bp (not_non _)
 have cp:=bp.1
 have x3:HallX T2 h3 g p (H.did who 4 (4*s+2)) sv av2 Y:=⟨e3 _ _ x2.hp,x2.tp,x2.st.kp o3.k (not_non _),x2.ac.kp o3.k (not_non _),fun i hi=>(x2.sr i hi).kp o3.k (Off.non _) (not_non _)⟩
 unfold qrRZ
 simp -implicitDefEqProofs[ld_at cp,cel_of cp,stm_at cp,stm_upd,ld_same,cel_same,over,ia]
 refine x3.stw o3.wf (off:=1) (X':={ H.ss s with v:=endV (H.ss s).v }) (y':=Y s) hs rb rfl (by rfl) (by omega) (by simp[cellC,Hall.did]) (by simp[spl,strC,cellC,Hall.did]) (x3.sr s hs) fun h4 o4 x4=>?_
 exact hk T2 h4 (((o2.mono fun _=>U02.pre).up o3 non_up).up o4 fun t=>eq_pre) ⟨sv,av2,_,x4⟩
theorem hpub_ok (who:Int){s:Nat}{T:Tags}{h:Heap}{g:Tag}{p:Nat}{H:Hall}(w:Wf T h)(gg:Gd g)(x:HallR T h g p H)(hs:s<H.n)(h8:H.n≤8)(hl:H.acts.length<999999)
  (hk:∀ T' h',Only (pre g) T h T' h'→HallR T' h' g p (H.pub who s)→K (.tuple #[]) h'):callM P qiqZ #[ptr p,.int .i64 who,.int .i64 s] h K:=by
 apply qulZ
 unfold qjBZ
 refine place_ok s 4 (by omega) ?_
 unfold qopZ
 obtain⟨sv,av,Y,x⟩:=x
 refine did_ok who 1 _ w gg x (by omega) fun T1 h1 av1 o1 x1=>?_
 unfold qooZ
 refine place_ok s 3 (by omega) ?_
 unfold qonZ
 refine did_ok who 4 _ o1.wf gg x1 (by simp[Hall.did]; omega) fun T2 h2 av2 o2 x2=>?_
 have cp:=x2.hp
 simp -implicitDefEqProofs only[hallC] at cp
 obtain⟨b,ob,rb,hb1,tb,ia,l1,l2,l3,l4,l5,l6⟩:=x2.lds (s:=s) (k:=.i64) hs
 have hsr:=x2.sr s hs
 have u1:=hsr.2.1.1.one
 have u2:=hsr.2.1.2.1.one
 unfold qomZ
 simp -implicitDefEqProofs[ld_at cp,cel_of cp,stm_at cp,stm_upd,ld_same,cel_same,over,ia,l4]
 refine x2.stw o2.wf (off:=3) (X':={ H.ss s with snap:=(H.ss s).book }) (y':={ Y s with sk:=(Y s).bk,sv:=(Y s).bv }) hs rb rfl (by rfl) (by omega) (by simp[u1.1,u2.1]) (by simp[spl,strC,Hall.did]) ⟨hsr.2.1,hsr.2.1,hsr.2.2⟩ fun h4 o4 x4=>?_
 exact hk T2 h4 (((o1.mono fun _=>U02.pre).up o2 fun _=>U02.pre).up o4 fun t=>eq_pre) ⟨sv,av2,_,x4⟩
theorem HallX.tst {T:Tags}{h:Heap}{g:Tag}{p:Nat}{H:Hall}{sv av:Value}{Y:Nat→SV}(x:HallX T h g p H sv av Y)(w:Wf T h)(t:Tm) :
  Only (fun u=>u=g++[0]) T h T (upd h p (.cells (hallC { H with t:=t } sv av).toArray qaNZ (0,0)))∧HallX T (upd h p (.cells (hallC { H with t:=t } sv av).toArray qaNZ (0,0))) g p { H with t:=t } sv av Y:=by
 have o:Only (fun u=>u=g++[0]) T h T (upd h p (.cells (hallC { H with t:=t } sv av).toArray qaNZ (0,0))):=Only.upd w x.hp x.tp
 exact⟨o,upd_same' _ _ _,x.tp,x.st.kp o.k (ne_tag (by simp)),x.ac.kp o.k (ne_tag (by simp)),fun i hi=>(x.sr i hi).kp o.k (off_eq (by simp)) (by simp)⟩
theorem hpass_ok (who by_:Int)(hb:U64 by_){T:Tags}{h:Heap}{g:Tag}{p:Nat}{H:Hall}(w:Wf T h)(gg:Gd g)(x:HallR T h g p H)(ht:U64 H.t.now)(hl:H.acts.length<1000000)
  (hk:∀ T' h',Only (pre g) T h T' h'→HallR T' h' g p (H.pass who by_)→K (.tuple #[]) h'):callM P qleZ #[ptr p,.int .i64 who,.int .u64 by_] h K:=by
 apply qvxZ
 unfold qnGZ
 obtain⟨sv,av,Y,x⟩:=x
 refine did_ok who 4 0 w gg x hl fun T2 h2 av2 o2 x2=>?_
 have cp:=x2.hp
 simp -implicitDefEqProofs only[hallC] at cp
 unfold qrmZ
 have hld:ldV (some (some 3)) (.pointer (some ⟨p,7,none⟩)) h2=some (.agg (tmC H.t).toArray):=by simp[ld_at cp,tmC,Hall.did]
 simp -implicitDefEqProofs only[ncV_p,faV_p,ov_s,Nat.zero_add,hld]
 refine tickPass_ok H.t ht hb fun h3 e3=>?_
 have o3:Only non T2 h2 T2 h3:=Only.of_ext o2.wf e3
 have x3:HallX T2 h3 g p (H.did who 4 0) sv av2 Y:=⟨e3 _ _ x2.hp,x2.tp,x2.st.kp o3.k (not_non _),x2.ac.kp o3.k (not_non _),fun i hi=>(x2.sr i hi).kp o3.k (Off.non _) (not_non _)⟩
 have cp:=x3.hp
 simp -implicitDefEqProofs only[hallC] at cp
 obtain⟨o4,x4⟩:=x3.tst o3.wf { H.t with now:=addU H.t.now by_ }
 simp -implicitDefEqProofs[ld_at cp,cel_of cp,stm_at cp,stm_upd,ld_same,cel_same,over,tmC]
 exact hk T2 _ (((o2.mono fun _=>U02.pre).up o3 non_up).up o4 fun t=>eq_pre) ⟨sv,av2,Y,x4⟩
theorem htake_ok (who:Int){T:Tags}{h:Heap}{g:Tag}{p:Nat}{H:Hall}(w:Wf T h)(gg:Gd g)(x:HallR T h g p H)(ht:U64 H.t.seq)(hl:H.acts.length<1000000)
  (hk:∀ T' h',Only (pre g) T h T' h'→HallR T' h' g p (H.take who)→K (.agg (tmC { H.t with seq:=addU H.t.seq 1 }).toArray) h'):callM P qlfZ #[ptr p,.int .i64 who] h K:=by
 apply qvzZ
 unfold qnIZ
 rw[zcTime]
 refine nw_tag w lc fun v1 T1 h1 n1 o1 t1 c1=>?_
 obtain⟨sv,av,Y,x1⟩:=x.up o1 (Off.non _) (not_non _)
 have b1:h1 v1=_∧T1 v1=lc:=⟨c1,t1⟩
 refine did_ok who 4 0 o1.wf gg x1 hl fun T2 h2 av2 o2 x2=>?_
 have b1:=o2.see b1 (lc_U02 gg)
 have cp:=x2.hp
 simp -implicitDefEqProofs only[hallC] at cp
 unfold qrpZ
 have hld:ldV (some (some 3)) (.pointer (some ⟨p,7,none⟩)) h2=some (.agg (tmC H.t).toArray):=by simp[ld_at cp,tmC,Hall.did]
 simp -implicitDefEqProofs only[ncV_p,faV_p,ov_s,Nat.zero_add,hld]
 refine tickTake_ok H.t ht fun h3 e3=>?_
 have o3:Only non T2 h2 T2 h3:=Only.of_ext o2.wf e3
 have b1:=o3.see b1 (not_non _)
 have x3:HallX T2 h3 g p (H.did who 4 0) sv av2 Y:=⟨e3 _ _ x2.hp,x2.tp,x2.st.kp o3.k (not_non _),x2.ac.kp o3.k (not_non _),fun i hi=>(x2.sr i hi).kp o3.k (Off.non _) (not_non _)⟩
 have cp:=x3.hp
 simp -implicitDefEqProofs only[hallC] at cp
 obtain⟨o4,x4⟩:=x3.tst o3.wf { H.t with seq:=addU H.t.seq 1 }
 have b1:=o4.see b1 (lc_ne g gg _)
 have c1:=b1.1
 have cp4:=x4.hp
 have oo:Only (pre g) T h T2 _:=(((o1.mono fun _=>non_up _).up o2 fun _=>U02.pre).up o3 non_up).up o4 fun t=>eq_pre
 unfold qroZ
 simp -implicitDefEqProofs[ld_at cp,cel_of cp,stm_at cp,stm_upd,ld_same,cel_same,over,tmC,Hall.did]
 simp -implicitDefEqProofs only[hallC,Hall.did] at c1 cp4 x4 oo b1
 generalize upd h3 p _=h4 at *
 simp -implicitDefEqProofs[ld_at cp4,cel_of cp4,stm_at cp4,ld_at c1,cel_of c1,stm_at c1,stm_upd,ld_same,cel_same,over]
 exact hk T2 _ (oo.own n1 c1) (HallR.lst ⟨sv,av2,Y,x4⟩ gg oo.wf b1)
theorem hshut_ok (who:Int){T:Tags}{h:Heap}{g:Tag}{p:Nat}{H:Hall}(w:Wf T h)(gg:Gd g)(x:HallR T h g p H)(hl:H.acts.length<1000000)
  (hk:∀ T' h',Only (pre g) T h T' h'→HallR T' h' g p (H.shut who)→K (.bool (!H.t.closed)) h'):callM P qlgZ #[ptr p,.int .i64 who] h K:=by
 apply qvAZ
 unfold qnJZ
 obtain⟨sv,av,Y,x⟩:=x
 refine did_ok who 4 0 w gg x hl fun T2 h2 av2 o2 x2=>?_
 have cp:=x2.hp
 simp -implicitDefEqProofs only[hallC,Hall.did] at cp
 unfold qrqZ
 have hld:ldV (some (some 3)) (.pointer (some ⟨p,7,none⟩)) h2=some (.agg (tmC H.t).toArray):=by simp[ld_at cp,tmC]
 have hcl:cel h2 p 9=some (.bool H.t.closed):=by simp[cel_of cp]
 simp -implicitDefEqProofs only[ncV_p,faV_p,ov_s,Nat.zero_add,ldV_c,hcl,hld]
 refine tickShut_ok H.t fun h3 e3=>?_
 have o3:Only non T2 h2 T2 h3:=Only.of_ext o2.wf e3
 have x3:HallX T2 h3 g p (H.did who 4 0) sv av2 Y:=⟨e3 _ _ x2.hp,x2.tp,x2.st.kp o3.k (not_non _),x2.ac.kp o3.k (not_non _),fun i hi=>(x2.sr i hi).kp o3.k (Off.non _) (not_non _)⟩
 have cp:=x3.hp
 simp -implicitDefEqProofs only[hallC] at cp
 obtain⟨o4,x4⟩:=x3.tst o3.wf { H.t with closed:=true }
 simp -implicitDefEqProofs[ld_at cp,cel_of cp,stm_at cp,stm_upd,ld_same,cel_same,over,tmC]
 exact hk T2 _ (((o2.mono fun _=>U02.pre).up o3 non_up).up o4 fun t=>eq_pre) ⟨sv,av2,Y,x4⟩
end Go.Proofs.YtmbningljbcpkaaGreat
namespace Go.Proofs.YtmbningljbcpkaaGreat
open Go Go.Den Go.MapKept
set_option linter.unusedSimpArgs false
set_option linter.unusedVariables false
set_option maxRecDepth 20000
variable {K:KTy}
theorem hwr_ok (who:Int){s:Nat}{T:Tags}{h:Heap}{g:Tag}{p:Nat}{H:Hall}(w:Wf T h)(gg:Gd g){sv av:Value}{Y:Nat→SV}(x:HallX T h g p H sv av Y)(hs:s<H.n)(h8:H.n≤8)(hl:H.acts.length<1000000)
  (hk:∀ T' h' av' b,Only (U02 g) T h T' h'→HallX T' h' g p (H.wr who s) sv av' Y→rowOf sv=some b→K (.pointer (some ⟨b,s*8,none⟩)) h'):callM P qbBZ #[ptr p,.int .i64 who,.int .i64 s] h K:=by
 apply qvkZ
 unfold qlsZ
 refine place_ok s 4 (by omega) ?_
 unfold qqyZ
 refine did_ok who 2 _ w gg x hl fun T2 h2 av2 o2 x2=>?_
 have cp:=x2.hp
 simp -implicitDefEqProofs only[hallC] at cp
 obtain⟨b,ob,rb,hb1,tb,ia,l1,l2,l3,l4,l5,l6⟩:=x2.lds (s:=s) (k:=.i64) hs
 simp -implicitDefEqProofs[ld_at cp,cel_of cp,stm_at cp,stm_upd,ld_same,cel_same,over,ia]
 exact hk T2 h2 av2 b o2 x2 rb
theorem HallX.fed {T T':Tags}{h h':Heap}{g:Tag}{p:Nat}{H:Hall}{sv av:Value}{Y:Nat→SV}(x:HallX T h g p H sv av Y){s:Nat}(hs:s<H.n){f:Feed}(o:Only (pre (g++[3,s])) T h T' h')(gg:Gd g)(r:FeedR T' h' (g++[3,s]) (Y s).fp f) :
  HallX T' h' g p (H.put s { H.ss s with feed:=f }) sv av Y:=by
 have b:=o.k.at x.hp x.tp (not_pre (by simp))
 have n:¬ pre (g++[3,s]) []:=(gg.app _).nil
 refine⟨b.1,b.2,?_,x.ac.kp o.k (not_pre (by simp)),fun i hi=>?_⟩
 ·have:=x.st.kp o.k (not_pre (by simp))
  have e:seqF H.n (fun i=>strC (H.ss i) (Y i))=seqF H.n fun i=>strC ((H.put s { H.ss s with feed:=f }).ss i) (Y i):=seqF_congr fun i hi=>by
   simp -implicitDefEqProofs only[Hall.put,sput]
   by_cases his:i=s
   ·subst his; rw[if_pos rfl]; rfl
   ·rw[if_neg his]
  rw[e] at this
  exact this
 ·simp -implicitDefEqProofs only[Hall.put,sput]
  by_cases his:i=s
  ·subst his
   rw[if_pos rfl]
   have y:=x.sr i hi
   exact⟨y.1.ext (o.ext n),y.2.1.ext (o.ext n),r⟩
  ·rw[if_neg his]; exact (x.sr i hi).kp o.k (off_pre (by simp; omega) (by simp; omega)) n
end Go.Proofs.YtmbningljbcpkaaGreat
namespace Go.Den
open Go
set_option linter.unusedVariables false
def mor (m who:Int):Int:=((BitVec.ofInt 32 m ||| BitVec.ofInt 32 (2 ^ who.toNat)).toNat:Int)
def mclr (m who:Int):Int:=((BitVec.ofInt 32 m &&& ~~~ BitVec.ofInt 32 (2 ^ who.toNat)).toNat:Int)
theorem mbit_nat (m w:Nat):mbit (m:Int) (w:Int)=m.testBit w:=by
 unfold mbit
 rw[Nat.testBit_eq_decide_div_mod_eq]
 have:((m:Int) / 2 ^ ((w:Int)).toNat % 2)=((m / 2 ^ w % 2:Nat):Int):=by push_cast; simp
 rw[this]
 rcases Nat.mod_two_eq_zero_or_one (m / 2 ^ w) with h | h<;>simp[h]
theorem mbit_bv {n:Nat}(b:BitVec n)(w:Nat):mbit (b.toNat:Int) (w:Int)=b.getLsbD w:=by rw[mbit_nat]; rfl
theorem bv_pow (w:Nat):BitVec.ofInt 32 (2 ^ w)=BitVec.twoPow 32 w:=by
 apply BitVec.eq_of_toNat_eq
 rw[BitVec.toNat_twoPow]
 have:(2 ^ w:Int)=((2 ^ w:Nat):Int):=by push_cast; rfl
 rw[this,BitVec.ofInt_natCast,BitVec.toNat_ofNat]
theorem bv_of {m:Int}(h0:0≤m)(h1:m<4294967296):((BitVec.ofInt 32 m).toNat:Int)=m:=by
 rw[BitVec.toNat_ofInt]; omega
theorem mor_rng (m who:Int):0≤mor m who∧mor m who<4294967296:=by
 have:=(BitVec.ofInt 32 m ||| BitVec.ofInt 32 (2 ^ who.toNat)).isLt
 unfold mor; omega
theorem mclr_rng (m who:Int):0≤mclr m who∧mclr m who<4294967296:=by
 have:=(BitVec.ofInt 32 m &&& ~~~ BitVec.ofInt 32 (2 ^ who.toNat)).isLt
 unfold mclr; omega
theorem mbit_mor {m:Int}(h0:0≤m)(h1:m<4294967296){w j:Nat}(hw:w<8)(hj:j<8):mbit (mor m w) j=(mbit m j || decide (j=w)):=by
 unfold mor
 rw[mbit_bv,BitVec.getLsbD_or,Int.toNat_natCast,bv_pow,BitVec.getLsbD_twoPow,← mbit_bv,bv_of h0 h1]
 have:decide (w<32)=true:=by simp; omega
 rw[this,Bool.true_and]
 congr 1
 exact decide_eq_decide.2 eq_comm
theorem mbit_mclr {m:Int}(h0:0≤m)(h1:m<4294967296){w j:Nat}(hw:w<8)(hj:j<8):mbit (mclr m w) j=(mbit m j && !decide (j=w)):=by
 unfold mclr
 rw[mbit_bv,BitVec.getLsbD_and,BitVec.getLsbD_not,Int.toNat_natCast,bv_pow,BitVec.getLsbD_twoPow,← mbit_bv,bv_of h0 h1]
 have h1:decide (w<32)=true:=by simp; omega
 have h2:decide (j<32)=true:=by simp; omega
 simp only[h1,h2,Bool.true_and]
 congr 2
 exact decide_eq_decide.2 eq_comm
theorem mbit_zero (j:Int):mbit 0 j=false:=by simp[mbit]
theorem mem_putB' {α:Type}{u:ByteArray}{e:α}{x:ByteArray × α}:∀ {b:List (ByteArray × α)},x∈putB b u e→x=(u,e)∨x∈b
 | [],h=>by simp[putB] at h; exact .inl h
 | (k,y)::r,h=>by
  simp only[putB] at h
  split at h
  ·rcases List.mem_cons.1 h with h | h
   ·exact .inr (by simp[h])
   ·rcases mem_putB' h with h | h
    ·exact .inl h
    ·exact .inr (by simp[h])
  ·split at h
   ·rcases List.mem_cons.1 h with h | h
    ·exact .inl h
    ·exact .inr (by simp[h])
   ·rcases List.mem_cons.1 h with h | h
    ·exact .inl h
    ·exact .inr h
def Feed.watch (f:Feed)(who:Int)(u:ByteArray):Feed:=if clientB who then { f with ws:=putB f.ws u (mor (valL 0 f.ws u) who) } else f
def Feed.unwatch (f:Feed)(who:Int)(u:ByteArray):Feed :=
 if clientB who=true∧valL 0 f.ws u≠0 then (if mclr (valL 0 f.ws u) who=0 then { f with ws:=delB f.ws u } else { f with ws:=putB f.ws u (mclr (valL 0 f.ws u) who) }) else f
def Feed.count (f:Feed)(who:Int):Nat:=(f.ws.filter fun x=>clientB who && mbit x.2 who).length
def Feed.drain (f:Feed)(who:Int):Feed:=if clientB who then { f with qs:=qset f.qs who.toNat ⟨(f.qs who.toNat).room,[],false⟩ } else f
def Feed.told (f:Feed)(who:Int):List Evt:=if clientB who then (f.qs who.toNat).l else []
def Feed.lost (f:Feed)(who:Int):Bool:=clientB who && (f.qs who.toNat).lost
end Go.Den
namespace Go.Den
open Go
set_option linter.unusedVariables false
set_option linter.unusedSimpArgs false
structure PairD where
 who:Int
 user:ByteArray
theorem putB_perm {α:Type}{u:ByteArray}{e:α}:∀ {b:List (ByteArray × α)},SrtK (keysL b)→(putB b u e).Perm ((u,e)::delB b u)
 | [],_=>by simp[putB,delB]
 | (k,x)::r,s=>by
  obtain⟨s1,s2⟩:=List.pairwise_cons.1 s
  simp only[putB]
  cases hk:ltS k u with
  | true =>
   have hne:k≠u:=fun e=>by rw[e,ltS_irrefl] at hk; cases hk
   have e:delB ((k,x)::r) u=(k,x)::delB r u:=by simp[delB,hne]
   rw[if_pos rfl,e]
   exact (List.Perm.cons _ (putB_perm s2)).trans (List.Perm.swap _ _ _)
  | false =>
   simp only[Bool.false_eq_true,if_false]
   by_cases hku:k=u
   ·rw[if_pos hku]
    have hn:u ∉ keysL r:=fun h=>by
     have:=s1 u h
     rw[hku,ltS_irrefl] at this; cases this
    have e:delB ((k,x)::r) u=r:=by
     have:=delB_none hn
     unfold delB at this ⊢
     simp[hku,this]
    rw[e]
   ·rw[if_neg hku]
    have hn:u ∉ keysL r:=fun h=>by
     have:=s1 u h
     rw[hk] at this; cases this
    have e:delB ((k,x)::r) u=(k,x)::r:=by
     have:=delB_none hn
     unfold delB at this ⊢
     simp[hku,this]
    rw[e]
theorem self_perm {u:ByteArray}{α:Type}{d:α}:∀ {b:List (ByteArray × α)},SrtK (keysL b)→u∈keysL b→b.Perm ((u,valL d b u)::delB b u)
 | [],_,h=>by simp[keysL] at h
 | (k,x)::r,s,h=>by
  obtain⟨s1,s2⟩:=List.pairwise_cons.1 s
  by_cases hku:k=u
  ·have hn:u ∉ keysL r:=fun h=>by
    have:=s1 u h
    rw[hku,ltS_irrefl] at this; cases this
   have e:delB ((k,x)::r) u=r:=by
    have:=delB_none hn
    unfold delB at this ⊢
    simp[hku,this]
   rw[e]; simp[valL,hku]
  ·have hr:u∈keysL r:=by
    simp only[keysL,List.map_cons,List.mem_cons] at h
    exact h.resolve_left (Ne.symm hku)
   have e:delB ((k,x)::r) u=(k,x)::delB r u:=by simp[delB,hku]
   rw[e]; simp only[valL,if_neg hku]
   exact (List.Perm.cons _ (self_perm s2 hr)).trans (List.Perm.swap _ _ _)
def wsOf (ws:List (ByteArray × Int))(j:Nat):List ByteArray:=(ws.filter fun x=>mbit x.2 j).map (·.1)
def psOf (ps:List PairD)(j:Nat):List ByteArray:=(ps.filter fun p=>decide (p.who=(j:Int))).map (·.user)
theorem wsOf_put {ws:List (ByteArray × Int)}(s:SrtK (keysL ws))(u:ByteArray)(e:Int)(j:Nat):(wsOf (putB ws u e) j).Perm ((if mbit e j then [u] else [])++wsOf (delB ws u) j):=by
 refine (((putB_perm s).filter _).map _).trans ?_
 rw[List.filter_cons]
 unfold wsOf
 split<;>simp
theorem wsOf_self {ws:List (ByteArray × Int)}(s:SrtK (keysL ws))(u:ByteArray)(j:Nat):(wsOf ws j).Perm ((if mbit (valL 0 ws u) j then [u] else [])++wsOf (delB ws u) j):=by
 by_cases h:u∈keysL ws
 ·refine (((self_perm (d:=0) s h).filter _).map _).trans ?_
  rw[List.filter_cons]
  unfold wsOf
  split<;>simp
 ·rw[valL_none h,mbit_zero,delB_none h]; simp
theorem wsOf_del_not {ws:List (ByteArray × Int)}{u:ByteArray}{j:Nat}:u ∉ wsOf (delB ws u) j:=by
 intro h
 obtain⟨x,hx,rfl⟩:=List.mem_map.1 h
 have:=(List.mem_filter.1 hx).1
 simp[delB] at this
theorem wsOf_mem {ws:List (ByteArray × Int)}(s:SrtK (keysL ws)){u:ByteArray}{j:Nat}:u∈wsOf ws j↔mbit (valL 0 ws u) j=true:=by
 rw[(wsOf_self s u j).mem_iff,List.mem_append]
 constructor
 ·rintro (h | h)
  ·split at h
   ·assumption
   ·simp at h
  ·exact absurd h wsOf_del_not
 ·intro h; rw[if_pos h]; simp
structure FdP (f:Feed)(ps:List PairD):Prop where
 pm:∀ j,j<8→(psOf ps j).Perm (wsOf f.ws j)
 rg:∀ p∈ps,0≤p.who∧p.who<8
def pairIs (who:Int)(u:ByteArray)(p:PairD):Bool:=decide (p.who=who) && decide (p.user=u)
theorem psOf_mem {ps:List PairD}{u:ByteArray}{j:Nat}:u∈psOf ps j↔ps.any (pairIs j u)=true:=by
 unfold psOf
 simp only[List.mem_map,List.mem_filter,List.any_eq_true,pairIs,Bool.and_eq_true,decide_eq_true_eq]
 constructor
 ·rintro⟨p,⟨h1,h2⟩,h3⟩; exact⟨p,h1,h2,h3⟩
 ·rintro⟨p,h1,h2,h3⟩; exact⟨p,⟨h1,h2⟩,h3⟩
theorem FdP.watching {f:Feed}{ps:List PairD}(x:FdP f ps)(g:FdG f)(who:Int)(u:ByteArray):ps.any (pairIs who u)=f.watching who u:=by
 unfold Feed.watching
 cases hc:clientB who with
 | false =>
  rw[Bool.false_and,Bool.eq_false_iff]
  intro h
  obtain⟨p,hp,hq⟩:=List.any_eq_true.1 h
  have:=x.rg p hp
  simp only[pairIs,Bool.and_eq_true,decide_eq_true_eq] at hq
  rw[hq.1] at this
  simp[clientB] at hc; omega
 | true =>
  have hc':0≤who∧who<8:=by simpa [clientB] using hc
  obtain⟨j,rfl⟩:∃ j:Nat,who=j:=⟨who.toNat,by omega⟩
  rw[Bool.true_and,Bool.eq_iff_iff,← psOf_mem,(x.pm j (by omega)).mem_iff,wsOf_mem g.so]
theorem FdP.count {f:Feed}{ps:List PairD}(x:FdP f ps)(who:Int):(ps.filter fun p=>decide (p.who=who)).length=f.count who:=by
 unfold Feed.count
 cases hc:clientB who with
 | false =>
  have:ps.filter (fun p=>decide (p.who=who))=[]:=List.filter_eq_nil_iff.2 fun p hp hq=>by
   have:=x.rg p hp
   simp only[decide_eq_true_eq] at hq
   rw[hq] at this
   simp[clientB] at hc; omega
  rw[this]; simp[List.filter_eq_nil_iff.2]
 | true =>
  have hc':0≤who∧who<8:=by simpa [clientB] using hc
  obtain⟨j,rfl⟩:∃ j:Nat,who=j:=⟨who.toNat,by omega⟩
  have:=(x.pm j (by omega)).length_eq
  simpa [psOf,wsOf] using this
theorem psOf_append (ps qs:List PairD)(j:Nat):psOf (ps++qs) j=psOf ps j++psOf qs j:=by simp[psOf]
def psWatch (ps:List PairD)(who:Int)(u:ByteArray):List PairD:=if clientB who=true∧ps.any (pairIs who u)=false then ps++[⟨who,u⟩] else ps
def psUnwatch (ps:List PairD)(who:Int)(u:ByteArray):List PairD:=ps.filter fun p=>!pairIs who u p
theorem FdP.watch {f:Feed}{ps:List PairD}(x:FdP f ps)(g:FdG f)(who:Int)(u:ByteArray):FdP (f.watch who u) (psWatch ps who u):=by
 unfold Feed.watch psWatch
 cases hc:clientB who with
 | false=>simp; exact x
 | true =>
  have hc':0≤who∧who<8:=by simpa [clientB] using hc
  obtain⟨w,rfl⟩:∃ j:Nat,who=j:=⟨who.toNat,by omega⟩
  have hwt:=x.watching g w u
  obtain⟨m0,m1⟩:=valL_rng (u:=u) g.ms
  simp only[Feed.watching,hc,Bool.true_and] at hwt
  rw[hwt]
  simp only[if_true,true_and]
  constructor
  ·intro j hj
   refine List.Perm.trans ?_ (wsOf_put g.so u _ j).symm
   rw[mbit_mor m0 m1 (by omega) hj]
   have h1:=(x.pm j hj).trans (wsOf_self g.so u j)
   by_cases hjw:j=w
   ·subst hjw
    cases hm:mbit (valL 0 f.ws u) j with
    | true=>rw[hm] at h1; simpa using h1
    | false =>
     rw[hm] at h1
     simp only[Bool.false_eq_true,if_false,List.nil_append] at h1
     simp only[if_true,psOf_append,Bool.false_or,decide_true]
     have e:psOf [⟨(j:Int),u⟩] j=[u]:=by simp[psOf]
     rw[e]
     exact (List.perm_append_comm).trans (List.Perm.append_left _ h1)
   ·have e:(mbit (valL 0 f.ws u) j || decide (j=w))=mbit (valL 0 f.ws u) j:=by simp[hjw]
    rw[e]
    have e2:psOf [⟨(w:Int),u⟩] j=[]:=by
     have:¬ ((w:Int)=j):=by omega
     simp[psOf,this]
    split
    ·rw[psOf_append,e2,List.append_nil]; exact h1
    ·exact h1
  ·intro p hp
   split at hp
   ·rcases List.mem_append.1 hp with hp | hp
    ·exact x.rg p hp
    ·simp at hp; subst hp; exact hc'
   ·exact x.rg p hp
theorem psOf_un (ps : List PairD) (w j : Nat) (u : ByteArray) : psOf (psUnwatch ps w u) j = if j = w then (psOf ps j).filter (fun k => !decide (k = u)) else psOf ps j := by
  induction ps with
  | nil => simp [psUnwatch, psOf]
  | cons p ps ih =>
    unfold psOf psUnwatch at ih ⊢
    rw [List.filter_cons]
    cases hp : pairIs w u p with
    | true =>
      simp only [Bool.not_true, Bool.false_eq_true, if_false]
      simp only [pairIs, Bool.and_eq_true, decide_eq_true_eq] at hp
      rw [ih]
      by_cases hjw : j = w
      · subst hjw; simp [List.filter_cons, hp.1, hp.2]
      · have : ¬ ((w : Int) = j) := by omega
        simp [hjw, List.filter_cons, hp.1, this]
    | false =>
      simp only [Bool.not_false, if_true, List.filter_cons]
      simp only [pairIs, Bool.and_eq_false_iff, decide_eq_false_iff_not] at hp
      by_cases hq : p.who = j
      · simp only [hq, decide_true, if_true, List.map_cons, ih]
        by_cases hjw : j = w
        · subst hjw
          have : ¬ p.user = u := by rcases hp with hp | hp; · exact absurd hq hp
                                    · exact hp
          simp [this]
        · simp [hjw]
      · simp only [hq, decide_false, Bool.false_eq_true, if_false, ih]
theorem FdP.unwatch {f:Feed}{ps:List PairD}(x:FdP f ps)(g:FdG f)(who:Int)(u:ByteArray):FdP (f.unwatch who u) (psUnwatch ps who u):=by
 have hrg:∀ p∈psUnwatch ps who u,0≤p.who∧p.who<8:=fun p hp=>x.rg p (List.mem_filter.1 hp).1
 have hsame:(∀ p∈ps,pairIs who u p=false)→psUnwatch ps who u=ps:=fun h=>List.filter_eq_self.2 fun p hp=>by rw[h p hp]; rfl
 have hwt:=x.watching g who u
 unfold Feed.unwatch
 cases hc:clientB who with
 | false =>
  simp
  rw[hsame fun p hp=>?_]
  ·exact x
  ·have:=x.rg p hp
   have hne:¬ p.who=who:=fun h=>by simp[clientB] at hc; omega
   simp[pairIs,hne]
 | true =>
  have hc':0≤who∧who<8:=by simpa [clientB] using hc
  obtain⟨w,rfl⟩:∃ j:Nat,who=j:=⟨who.toNat,by omega⟩
  obtain⟨m0,m1⟩:=valL_rng (u:=u) g.ms
  by_cases hv:valL 0 f.ws u=0
  ·simp only[hv,ne_eq,not_true_eq_false,and_false,if_false]
   rw[hsame fun p hp=>?_]
   ·exact x
   ·rw[Feed.watching,hv,mbit_zero,Bool.and_false] at hwt
    have:=List.any_eq_false.1 hwt p hp
    simpa using this
  ·have main:∀ ws':List (ByteArray × Int),(∀ j,j<8→(wsOf ws' j).Perm ((if mbit (mclr (valL 0 f.ws u) w) j then [u] else [])++wsOf (delB f.ws u) j))→FdP { f with ws:=ws' } (psUnwatch ps w u):=by
    intro ws' hws
    refine⟨fun j hj=>?_,hrg⟩
    refine List.Perm.trans ?_ (hws j hj).symm
    rw[mbit_mclr m0 m1 (by omega) hj,psOf_un]
    have h1:=(x.pm j hj).trans (wsOf_self g.so u j)
    by_cases hjw:j=w
    ·subst hjw
     rw[if_pos rfl]
     have h2:=h1.filter (fun k=>!decide (k=u))
     refine h2.trans ?_
     rw[List.filter_append]
     have e1:(if mbit (valL 0 f.ws u) j=true then [u] else []).filter (fun k=>!decide (k=u))=[]:=by split<;>simp
     have e2:(wsOf (delB f.ws u) j).filter (fun k=>!decide (k=u))=wsOf (delB f.ws u) j:=List.filter_eq_self.2 fun k hk=>by
      have:¬ k=u:=fun h=>wsOf_del_not (h▸hk)
      simp[this]
     rw[e1,e2]; simp
    ·rw[if_neg hjw]
     simpa [hjw] using h1
   simp only[ne_eq,hv,not_false_eq_true,and_true,if_true]
   split
   ·rename_i h0
    refine main _ fun j hj=>?_
    rw[h0,mbit_zero]; simp
   ·exact main _ fun j hj=>wsOf_put g.so u _ j
theorem FdP.of_ws {f f':Feed}{ps:List PairD}(x:FdP f ps)(h:f'.ws=f.ws):FdP f' ps:=⟨fun j hj=>by rw[h]; exact x.pm j hj,x.rg⟩
end Go.Den
namespace Go.Den
open Go
set_option linter.unusedVariables false
set_option linter.unusedSimpArgs false
structure BkM (m:Nat)(b:Book):Prop where
 bw:BkW b
 bl:b.length≤m
 bs:∀ y∈b,y.1.size≤maxLen
 bn:∀ y∈b,y.2.ss.length≤m
structure FdM (m:Nat)(f:Feed):Prop where
 so:SrtK (keysL f.ws)
 len:f.ws.length≤m
 ms:∀ x∈f.ws,0≤x.2∧x.2<4294967296
 ks:∀ x∈f.ws,x.1.size≤maxLen
 qs:∀ j,j<8→RiG (f.qs j)
structure StM (m:Nat)(x:Strp):Prop where
 sn:BkM m x.snap
 bk:BkM m x.book
 v0:0≤x.v∧x.v≤x.bound
 vb:x.bound % 2=0∧x.bound≤18446744073709551615
 wh:0≤x.who∧x.who≤1000
 fd:FdM m x.feed
structure HS (m:Nat)(H:Hall):Prop where
 rt:rightB H.c=true
 cw:CfgW H.c
 nn:(H.n:Int)=H.c.stripes
 ac:H.acts.length≤2*m
 st:∀ s,s<H.n→StM m (H.ss s)
 tn:U64 H.t.now
 ts:U64 H.t.seq
theorem HS.n8 {m:Nat}{H:Hall}(x:HS m H):1≤H.n∧H.n≤8:=by
 have h1:=x.rt; have h2:=x.nn
 simp only[rightB,decide_eq_true_eq] at h1; omega
theorem BkM.mono {m k:Nat}{b:Book}(x:BkM m b)(h:m≤k):BkM k b:=⟨x.bw,Nat.le_trans x.bl h,x.bs,fun y hy=>Nat.le_trans (x.bn y hy) h⟩
theorem FdM.mono {m k:Nat}{f:Feed}(x:FdM m f)(h:m≤k):FdM k f:=⟨x.so,Nat.le_trans x.len h,x.ms,x.ks,x.qs⟩
theorem StM.mono {m k:Nat}{s:Strp}(x:StM m s)(h:m≤k):StM k s:=⟨x.sn.mono h,x.bk.mono h,x.v0,x.vb,x.wh,x.fd.mono h⟩
theorem HS.mono {m k:Nat}{H:Hall}(x:HS m H)(h:m≤k):HS k H:=⟨x.rt,x.cw,x.nn,Nat.le_trans x.ac (by omega),fun s hs=>(x.st s hs).mono h,x.tn,x.ts⟩
theorem FdM.g {m:Nat}{f:Feed}(x:FdM m f)(h:m<100000):FdG f:=⟨x.so,by have:=x.len; omega,x.ms,x.qs⟩
theorem BkM.ent {m:Nat}{b:Book}(x:BkM m b)(u:ByteArray):(entOf b u).ss.length≤m:=by
 rcases entOf_cases b u with e | ⟨y,h1,h2,h3⟩
 ·rw[e]; simp[ent0]
 ·rw[h3]; exact x.bn y h1
theorem StM.wr {m:Nat}{x:Strp}(s:StM m x):U64 x.v∧U64 x.bound∧(wrt x.v=true→x.v<18446744073709551615):=by
 have h1:=s.v0; have h2:=s.vb
 refine⟨by unfold U64; omega,by unfold U64; omega,fun h=>?_⟩
 simp[wrt] at h; omega
theorem HS.did {m:Nat}{H:Hall}(x:HS m H)(w k p:Int):HS (m+1) (H.did w k p) :=
 ⟨x.rt,x.cw,x.nn,by have:=x.ac; simp[Hall.did]; omega,fun s hs=>(x.st s hs).mono (by omega),x.tn,x.ts⟩
theorem HS.put {m:Nat}{H:Hall}(x:HS m H){s:Nat}{y:Strp}(h:StM m y):HS m (H.put s y) :=
 ⟨x.rt,x.cw,x.nn,x.ac,fun t ht=>by simp only[Hall.put,sput]; split; exact h; exact x.st t ht,x.tn,x.ts⟩
theorem HS.did2 {m:Nat}{H:Hall}(x:HS m H)(w k p w' k' p':Int):HS (m+1) ((H.did w k p).did w' k' p') :=
 ⟨x.rt,x.cw,x.nn,by have:=x.ac; simp[Hall.did]; omega,fun s hs=>(x.st s hs).mono (by omega),x.tn,x.ts⟩
variable {m:Nat}{H:Hall}
theorem HS.look (x:HS m H)(w:Int):HS (m+1) (H.look w):=x.did _ _ _
theorem HS.epoch (x:HS m H)(w:Int)(s:Nat):HS (m+1) (H.epoch w s):=x.did _ _ _
theorem HS.snap (x:HS m H)(w:Int)(s:Nat):HS (m+1) (H.snap w s):=x.did _ _ _
theorem HS.read (x:HS m H)(w:Int)(s:Nat):HS (m+1) (H.read w s):=x.did _ _ _
theorem HS.wr (x:HS m H)(w:Int)(s:Nat):HS (m+1) (H.wr w s):=x.did _ _ _
theorem HS.take (x:HS m H)(w:Int):HS (m+1) (H.take w) :=
 have y:=x.did w 4 0
 ⟨y.rt,y.cw,y.nn,y.ac,y.st,y.tn,addU_rng x.ts (by simp[U64])⟩
theorem HS.pass (x:HS m H)(w b:Int)(hb:U64 b):HS (m+1) (H.pass w b) :=
 have y:=x.did w 4 0
 ⟨y.rt,y.cw,y.nn,y.ac,y.st,addU_rng x.tn hb,y.ts⟩
theorem HS.shut (x:HS m H)(w:Int):HS (m+1) (H.shut w) :=
 have y:=x.did w 4 0
 ⟨y.rt,y.cw,y.nn,y.ac,y.st,y.tn,y.ts⟩
theorem HS.lock (x:HS m H){w:Int}{s:Nat}(hs:s<H.n)(hw:w≤900):HS (m+1) (H.lock w s):=by
 unfold Hall.lock
 split
 ·rename_i hc
  have hc':0≤w∧(H.ss s).who=0:=by simpa [canTake] using hc
  have y:=(x.st s hs).mono (Nat.le_succ m)
  exact (x.did _ _ _).put ⟨y.sn,y.bk,y.v0,y.vb,by show 0≤w+1∧w+1≤1000; omega,y.fd⟩
 ·exact x.mono (by omega)
theorem HS.unlock (x:HS m H){w:Int}{s:Nat}(hs:s<H.n):HS (m+1) (H.unlock w s):=by
 unfold Hall.unlock
 split
 ·have y:=(x.st s hs).mono (Nat.le_succ m)
  exact (x.did _ _ _).put ⟨y.sn,y.bk,y.v0,y.vb,by simp,y.fd⟩
 ·exact x.mono (by omega)
theorem HS.begin (x:HS m H){w:Int}{s:Nat}(hs:s<H.n):HS (m+1) (H.begin w s):=by
 have y:=(x.st s hs).mono (Nat.le_succ m)
 refine (x.did _ _ _).put ⟨y.sn,y.bk,?_,y.vb,y.wh,y.fd⟩
 have h1:=y.v0
 show 0≤bgn _ _∧bgn _ _≤(H.ss s).bound
 unfold bgn; split<;>omega
theorem HS.end_ (x:HS m H){w:Int}{s:Nat}(hs:s<H.n):HS (m+1) (H.end_ w s):=by
 have y:=(x.st s hs).mono (Nat.le_succ m)
 refine (x.did _ _ _).put ⟨y.sn,y.bk,?_,y.vb,y.wh,y.fd⟩
 have h1:=y.v0; have h2:=y.vb
 show 0≤endV _∧endV _≤(H.ss s).bound
 unfold endV wrt; simp; split<;>omega
theorem HS.pub (x:HS m H){w:Int}{s:Nat}(hs:s<H.n):HS (m+1) (H.pub w s):=by
 have y:=(x.st s hs).mono (Nat.le_succ m)
 exact (x.did2 _ _ _ _ _ _).put ⟨y.bk,y.bk,y.v0,y.vb,y.wh,y.fd⟩
theorem FdM.tell1 {f:Feed}(g:FdM m f)(c:Chg)(seq:Int):∀ n,FdM m (f.tell1 c seq n)
 | 0=>g
 | n+1=>by
  have ih:=FdM.tell1 g c seq n
  simp only[Feed.tell1]
  split
  ·refine⟨ih.so,ih.len,ih.ms,ih.ks,fun j hj=>?_⟩
   simp only[qset]
   split
   ·rename_i h; subst h; exact (ih.qs _ hj).put _
   ·exact ih.qs j hj
  ·exact ih
theorem FdM.tell {f:Feed}(g:FdM m f)(seq:Int):∀ l:List Chg,FdM m (f.tell l seq):=by
 intro l
 unfold Feed.tell
 induction l generalizing f with
 | nil=>exact g
 | cons c l ih=>exact ih (g.tell1 c seq 8)
theorem settle_mem {b:Book}{u:ByteArray}{ss:List Sess}{now:Int}{y:ByteArray × Ent}(h:y∈(settleB b u ss now).1):y=(u,⟨ss,presOf ss now⟩)∨y∈b:=by
 unfold settleB at h
 dsimp only at h
 split at h
 ·exact .inr (List.mem_filter.1 h).1
 ·exact mem_putB' h
theorem BkM.settle {b:Book}(x:BkM m b){k:Nat}(hk:m≤k){u:ByteArray}(hu:u.size≤maxLen){ss:List Sess}(now:Int)(h1:SrtI ss)(h2:∀ s∈ss,U64 s.un)(h3:ss.length≤k)(h4:(settleB b u ss now).1.length≤k):BkM k (settleB b u ss now).1:=by
 refine⟨x.bw.settle u now h1 h2,h4,fun y hy=>?_,fun y hy=>?_⟩
 ·rcases settle_mem hy with rfl | hy
  ·exact hu
  ·exact x.bs y hy
 ·rcases settle_mem hy with rfl | hy
  ·exact h3
  ·exact Nat.le_trans (x.bn y hy) hk
theorem BkM.write {b:Book}(x:BkM m b){o:OpD}(ow:OpW o){now:Int}(hn:U64 now)(most:Int):BkM (m+1) (writeB b o now most).1:=by
 obtain⟨h1,h2⟩:=x.bw.ent o.user
 obtain⟨h3,h4⟩:=BkW.purge h1 h2 now
 have hp:(purgeS (entOf b o.user).ss now).length≤m:=Nat.le_trans (List.length_filter_le _ _) (x.ent o.user)
 have hw:=work_len (ss:=purgeS (entOf b o.user).ss now) o now most
 refine x.settle (k:=m+1) (by omega) ow.s1 now (work_srt h3 o now most) (work_un h4 o most hn ow.u1) (by omega) ?_
 have:=settle_len b o.user (workS (purgeS (entOf b o.user).ss now) o now most).1 now
 have:=x.bl; omega
theorem BkM.sweepTo {b:Book}(x:BkM m b)(now:Int):∀ n,n≤b.length→BkM m (sweepTo b now n).1
 | 0,_=>x
 | n+1,hn=>by
  have ih:=BkM.sweepTo x now n (by omega)
  have hm:b.getD n (⟨#[]⟩,ent0)∈b:=by rw[List.getD_eq_getElem?_getD,List.getElem?_eq_getElem (by omega)]; exact List.getElem_mem _
  obtain⟨h1,h2⟩:=x.bw.us _ hm
  obtain⟨h3,h4⟩:=BkW.purge h1 h2 now
  exact ih.settle (Nat.le_refl _) (x.bs _ hm) now h3 h4 (Nat.le_trans (List.length_filter_le _ _) (x.bn _ hm)) (Nat.le_trans (sweep_len x.bw (now:=now) hn) x.bl)
theorem HS.sweep (x:HS m H){w:Int}{s:Nat}(t:Tm)(hs:s<H.n):HS (m+1) (H.sweep w s t):=by
 have y:=(x.st s hs).mono (Nat.le_succ m)
 exact (x.wr w s).put ⟨y.sn,y.bk.sweepTo t.now _ (Nat.le_refl _),y.v0,y.vb,y.wh,y.fd.tell _ _⟩
theorem HS.write (x:HS m H){w:Int}{s:Nat}{o:OpD}(ow:OpW o)(t:Tm)(ht:U64 t.now)(hs:s<H.n):HS (m+1) (H.write w s o t).1:=by
 have y:=x.st s hs
 have y':=y.mono (Nat.le_succ m)
 unfold Hall.write
 split
 ·exact x.wr w s
 ·exact (x.wr w s).put ⟨y'.sn,y.bk.write ow ht _,y.v0,y.vb,y.wh,y'.fd.tell _ _⟩
theorem FdM.watch {f:Feed}(g:FdM m f)(who:Int)(u:ByteArray)(hu:u.size≤maxLen):FdM (m+1) (f.watch who u):=by
 have g':=g.mono (Nat.le_succ m)
 unfold Feed.watch
 split
 ·refine⟨putB_srt g.so,?_,fun x hx=>?_,fun x hx=>?_,g.qs⟩
  ·have:=putB_len (u:=u) (e:=mor (valL 0 f.ws u) who) (b:=f.ws); have:=g.len; show (putB _ _ _).length≤_; omega
  ·rcases mem_putB' (b:=f.ws) hx with rfl | hx
   ·exact mor_rng _ _
   ·exact g.ms x hx
  ·rcases mem_putB' (b:=f.ws) hx with rfl | hx
   ·exact hu
   ·exact g.ks x hx
 ·exact g'
theorem FdM.unwatch {f:Feed}(g:FdM m f)(who:Int)(u:ByteArray)(hu:u.size≤maxLen):FdM (m+1) (f.unwatch who u):=by
 have g':=g.mono (Nat.le_succ m)
 unfold Feed.unwatch
 split
 ·split
  ·refine⟨delB_srt g.so,?_,fun x hx=>g.ms x (List.mem_filter.1 hx).1,fun x hx=>g.ks x (List.mem_filter.1 hx).1,g.qs⟩
   have:=delB_len (u:=u) (b:=f.ws); have:=g.len; show (delB _ _).length≤_; omega
  ·refine⟨putB_srt g.so,?_,fun x hx=>?_,fun x hx=>?_,g.qs⟩
   ·have:=putB_len (u:=u) (e:=mclr (valL 0 f.ws u) who) (b:=f.ws); have:=g.len; show (putB _ _ _).length≤_; omega
   ·rcases mem_putB' (b:=f.ws) hx with rfl | hx
    ·exact mclr_rng _ _
    ·exact g.ms x hx
   ·rcases mem_putB' (b:=f.ws) hx with rfl | hx
    ·exact hu
    ·exact g.ks x hx
 ·exact g'
theorem FdM.drain {f:Feed}(g:FdM m f)(who:Int):FdM m (f.drain who):=by
 unfold Feed.drain
 split
 ·refine⟨g.so,g.len,g.ms,g.ks,fun j hj=>?_⟩
  simp only[qset]
  split
  ·rename_i h; subst h; exact⟨(g.qs _ hj).1,(g.qs _ hj).2.1,by simp⟩
  ·exact g.qs j hj
 ·exact g
def Hall.fed (H:Hall)(who:Int)(s:Nat)(f:Feed):Hall:=(H.wr who s).put s { H.ss s with feed:=f }
def Hall.watch (H:Hall)(who:Int)(s:Nat)(u:ByteArray)(on:Bool):Hall:=H.fed who s (if on then (H.ss s).feed.watch who u else (H.ss s).feed.unwatch who u)
def Hall.drain (H:Hall)(who:Int)(s:Nat):Hall:=H.fed who s ((H.ss s).feed.drain who)
theorem HS.fed (x:HS m H){w:Int}{s:Nat}{f:Feed}(hs:s<H.n)(hf:FdM (m+1) f):HS (m+1) (H.fed w s f):=by
 have y:=(x.st s hs).mono (Nat.le_succ m)
 exact (x.wr w s).put ⟨y.sn,y.bk,y.v0,y.vb,y.wh,hf⟩
theorem HS.watch (x:HS m H){w:Int}{s:Nat}(hs:s<H.n){u:ByteArray}(hu:u.size≤maxLen)(on:Bool):HS (m+1) (H.watch w s u on):=by
 refine x.fed hs ?_
 split
 ·exact (x.st s hs).fd.watch w u hu
 ·exact (x.st s hs).fd.unwatch w u hu
theorem HS.drain (x:HS m H){w:Int}{s:Nat}(hs:s<H.n):HS (m+1) (H.drain w s):=x.fed hs (((x.st s hs).fd.drain w).mono (by omega))
theorem HS.new {c:Cfg}(cw:CfgW c)(hr:rightB c=true){n:Nat}(hn:(n:Int)=c.stripes):HS 0 (hall0 c n):=by
 have hr':=hr
 simp only[rightB,decide_eq_true_eq] at hr'
 have h1:=cw.u1
 have he:0≤evn c.epochs∧evn c.epochs % 2=0∧evn c.epochs≤18446744073709551615:=by unfold evn U64 at *; omega
 have bk:BkM 0 []:=⟨⟨List.Pairwise.nil,by simp⟩,by simp,by simp,by simp⟩
 refine⟨hr,cw,hn,by simp[hall0],fun s hs=>⟨bk,bk,⟨by show (0:Int)≤0; omega,he.1⟩,he.2,by simp[hall0,strp0],⟨List.Pairwise.nil,by simp[hall0,strp0,feed0],by simp[hall0,strp0,feed0],by simp[hall0,strp0,feed0],fun j hj=>?_⟩⟩,cw.u2,by simp[hall0,U64]⟩
 simp only[hall0,strp0,feed0,ring0,RiG,List.length_nil]
 omega
end Go.Den
namespace Go.Proofs.YtmbningljbcpkaaGreat
open Go Go.Den Go.MapKept
set_option linter.unusedSimpArgs false
set_option linter.unusedVariables false
set_option maxRecDepth 20000
structure StG (x:Strp):Prop where
 bw:BkW x.book
 bl:x.book.length<100000
 bs:∀ y∈x.book,y.1.size≤maxLen
 bn:∀ y∈x.book,y.2.ss.length<900000
 fg:FdG x.feed
theorem stG_of {m:Nat}{x:Strp}(s:StM m x)(h:m<100000):StG x:=⟨s.bk.bw,by have:=s.bk.bl; omega,s.bk.bs,fun y hy=>by have:=s.bk.bn y hy; omega,s.fd.g h⟩
theorem HallX.own {T T':Tags}{h h':Heap}{g:Tag}{p:Nat}{H:Hall}{sv av:Value}{Y:Nat→SV}(x:HallX T h g p H sv av Y)(k:Kp non T h T' h'):HallX T' h' g p H sv av Y :=
 ⟨(k.at x.hp x.tp (not_non _)).1,(k.at x.hp x.tp (not_non _)).2,x.st.kp k (not_non _),x.ac.kp k (not_non _),fun i hi=>(x.sr i hi).kp k (Off.non _) (not_non _)⟩
theorem put_put (H:Hall)(s:Nat)(y z:Strp):(H.put s y).put s z=H.put s z:=by
 unfold Hall.put
 congr 1
 funext k
 simp -implicitDefEqProofs only[sput]
 split<;>rfl
theorem put_at (H:Hall)(s:Nat)(y:Strp):(H.put s y).ss s=y:=by simp[Hall.put,sput]
theorem book_tell {T:Tags}{h:Heap}{g:Tag}{p b s:Nat}{H:Hall}{sv av k v cv:Value}{Y:Nat→SV}(w:Wf T h)(gg:Gd g)(x:HallX T h g p H sv av Y)(hs:s<H.n)(rb:rowOf sv=some b){B:Book}{l:List Chg}{seq:Int}
  (hb:BookR (fz T h) k v B) (hc:Sl 7 ChgR (fz T h) cv l) (hl:l.length<1000000) (fg:FdG (H.ss s).feed) {K:Heap→Prop}
  (hk:∀ h3,Only (fun t=>t=g++[1]) T h T h3→cel h3 b (s*8+7)=some (ptr (Y s).fp)→(∀ K':Value→Heap→Prop,(∀ T' h',Only (pre g) T h T' h'→HallR T' h' g p (H.put s { H.ss s with book:=B,feed:=(H.ss s).feed.tell l seq })→K' (.tuple #[]) h')→callM P qepZ #[ptr (Y s).fp,cv,.int .u64 seq] h3 K')→K h3) :
  stM (some 2) (.pointer (some ⟨b,s*8+5,none⟩)) (.agg #[k,v]) h K:=by
 have hsr:=x.sr s hs
 have u1:=hb.1.one
 have u2:=hb.2.1.one
 refine x.stw w (off:=5) (X':={ H.ss s with book:=B }) (y':={ Y s with bk:=k,bv:=v }) hs rb rfl (by rfl) (by omega) (by simp[u1.1,u2.1]) (by simp[spl,strC]) ⟨hsr.1,hb,hsr.2.2⟩ fun h3 o3 x3=>?_
 obtain⟨b',ob,rb',hb1,tb,ia,l1,l2,l3,l4,l5,l6⟩:=x3.lds (s:=s) (k:=.i64) hs
 have hbb:b'=b:=by rw[rb] at rb'; cases rb'; rfl
 subst hbb
 rw[if_pos rfl] at l5
 refine hk h3 o3 l5 fun K' hk'=>?_
 have hf:=(x3.sr s hs).2.2
 rw[if_pos rfl,put_at] at hf
 refine tell_ok l seq o3.wf (gg.app [3,s]) hf fg (hc.ext (R:=ChgR) (@ChgR.ext) (o3.ext (by simp))) hl fun T4 h4 o4 r4=>?_
 have x4:=x3.fed hs o4 gg (f:=(H.ss s).feed.tell l seq) (by rw[if_pos rfl]; exact r4)
 rw[put_put,put_at] at x4
 exact hk' T4 h4 ((o3.mono fun t=>eq_pre).up o4 fun t=>pre_trans) ⟨sv,av,_,x4⟩
variable {K:KTy}
set_option maxHeartbeats 2000000 in
theorem hsweep_ok (who:Int){s:Nat}(t:Tm){T:Tags}{h:Heap}{g:Tag}{p:Nat}{H:Hall}(w:Wf T h)(gg:Gd g)(x:HallR T h g p H)(hs:s<H.n)(h8:H.n≤8)(hl:H.acts.length<1000000)(sg:StG (H.ss s))
  (hk:∀ T' h',Only (pre g) T h T' h'→HallR T' h' g p (H.sweep who s t)→K (.tuple #[]) h'):callM P qkeZ #[ptr p,.int .i64 who,.int .i64 s,.agg (tmC t).toArray] h K:=by
 apply qveZ
 unfold qlmZ
 refine nw_agg fun v1 h1 n1 e1 c1=>?_
 simp -implicitDefEqProofs only[tmC] at c1
 have o1:Only non T h T h1:=Only.of_ext w e1
 have t1:T v1=[]:=w v1 n1
 obtain⟨sv,av,Y,x1⟩:=x.up o1 (Off.non _) (not_non _)
 refine hwr_ok who o1.wf gg x1 hs h8 hl fun T2 h2 av2 b o2 x2 rb=>?_
 have b1:=o2.k.at c1 t1 (fun h=>U012.nil g h.up)
 unfold qqpZ
 rw[seqM_eq]
 unfold qqnZ
 obtain⟨b',ob,rb',hb1,tb,ia,l1,l2,l3,l4,l5,l6⟩:=x2.lds (s:=s) (k:=.i64) hs
 have hbb:b'=b:=by rw[rb] at rb'; cases rb'; rfl
 subst hbb
 have hsr:=x2.sr s hs
 have c1':=b1.1
 have hlen:(sweepB (H.ss s).book t.now).2.length<100000:=Nat.lt_of_le_of_lt (sweep_chg (H.ss s).book t.now (H.ss s).book.length) sg.bl
 have fin:∀ (h5:Heap) (s6:Env) (k v cv:Value) (vb:Nat),Ext h2 h5→BookR (fz T2 h5) k v (sweepB (H.ss s).book t.now).1→Sl 7 ChgR (fz T2 h5) cv (sweepB (H.ss s).book t.now).2→h5 vb=some (.cells #[k,v] qaZ (0,0))→s6 7=ptr v1→s6 8 = .pointer (some ⟨b',s*8,none⟩)→s6 9=ptr vb→s6 10=cv→qjDZ s6 h5 K []:=by
  intro h5 s6 k v cv vb e5 hb hc cvb s7 s8 s9 s10
  have o5:Only non T2 h2 T2 h5:=Only.of_ext o2.wf e5
  have x5:=x2.own o5.k
  have c1:=e5 _ _ c1'
  unfold qjDZ
  simp -implicitDefEqProofs[s7,s8,s9,s10,ld_at cvb,cel_of cvb,stm_at cvb,stm_upd,ld_same,cel_same,over]
  refine book_tell (seq:=t.seq) o5.wf gg x5 hs rb hb hc (by omega) sg.fg fun h6 o6 l6 hT=>?_
  have c1:=(o6.k.at c1 b1.2 (by simp)).1
  simp -implicitDefEqProofs[l6,ld_at c1,cel_of c1,stm_at c1,stm_upd,ld_same,cel_same,over]
  refine hT _ fun T7 h7 o7 x7=>?_
  unfold qqoZ
  simp -implicitDefEqProofs
  exact hk T7 h7 ((((o1.mono non_up).up o2 fun _=>U02.pre).up o5 non_up).up o7 fun t h=>h) x7
 simp -implicitDefEqProofs[ld_at c1',cel_of c1',stm_at c1',stm_upd,ld_same,cel_same,over,l4]
 refine⟨?_,?_⟩
 ·unfold qqlZ
  refine bsweep_ok _ sg.bw sg.bl sg.bs sg.bn t.now o2.wf hsr.2.1 fun h5 k v cv e5 hb hc=>?_
  unfold qqkZ
  have p1:=hb.1.one
  have p2:=hb.2.1.one
  simp -implicitDefEqProofs only[exV_0,exV_1,ov_s,zcMap]
  refine nw_st (by simp) (by simp) (by simp[p1.1,p2.1]) fun vb h6 n6 e6 c6=>?_
  simp -implicitDefEqProofs only[cells_agg] at c6
  try simp only[thenM_n]
  refine fin h6 _ k v cv vb (e5.trans e6) (hb.ext (fz_of_ext e6)) (hc.ext (R:=ChgR) (@ChgR.ext) (fz_of_ext e6)) c6 ?_ ?_ ?_ ?_<;>simp
 ·unfold qqmZ
  rw[zcMap]
  refine nw_intro fun vb h5 n5 e5 c5=>?_
  have o5:Only non T2 h2 T2 h5:=Only.of_ext o2.wf e5
  have x5:=x2.own o5.k
  obtain⟨b'',ob',rb'',hb1',tb',ia',l1',l2',l3',l4',l5',l6'⟩:=x5.lds (s:=s) (k:=.i64) hs
  have hbb:b''=b':=by rw[rb] at rb''; cases rb''; rfl
  subst hbb
  have c1:=e5 _ _ c1'
  refine⟨l4',by simp[ld_at c1,cel_of c1,stm_at c1,stm_upd,ld_same,cel_same,over],?_⟩
  have wt:Wf (tset T2 vb lc) h5:=wf_loc o5.wf c5
  refine bsweep_ok _ sg.bw sg.bl sg.bs sg.bn t.now wt (hsr.2.1.ext (fz_in n5 e5)) fun h6 k v cv e6 hb hc=>?_
  have p1:=hb.1.one
  have p2:=hb.2.1.one
  have c6:=e6 _ _ c5
  simp -implicitDefEqProofs[ld_at c6,cel_of c6,stm_at c6,stm_upd,ld_same,cel_same,over,p1.1,p2.1]
  try simp only[thenM_n]
  refine fin _ _ k v cv vb (ext_upd n5 (e5.trans e6)) (hb.ext fz_loc) (hc.ext (R:=ChgR) (@ChgR.ext) fz_loc) (upd_same' _ _ _) ?_ ?_ ?_ ?_<;>simp
theorem settle_chg (b:Book)(u:ByteArray)(ss:List Sess)(now:Int):(settleB b u ss now).2.length≤1:=by unfold settleB; dsimp only; split<;>simp
set_option maxHeartbeats 2000000 in
theorem hwrite_ok (who:Int){s:Nat}(o:OpD)(ow:OpW o){uv:Value}(ou:One uv)(t:Tm)(ht:U64 t.now){T:Tags}{h:Heap}{g:Tag}{p:Nat}{H:Hall}(w:Wf T h)(gg:Gd g)(x:HallR T h g p H)(hs:s<H.n)(h8:H.n≤8)(hl:H.acts.length<1000000)(sg:StG (H.ss s))
  (hk:∀ T' h',Only (pre g) T h T' h'→HallR T' h' g p (H.write who s o t).1→K (.int .i64 (H.write who s o t).2) h'):callM P qkdZ #[ptr p,.int .i64 who,.int .i64 s,.agg (opC o uv).toArray,.agg (tmC t).toArray] h K:=by
 apply qvdZ
 unfold qllZ
 refine nw_agg fun v1 h0 n0 e0 c0=>?_
 refine nw_agg fun v3 h1 n1 e1 c3=>?_
 simp -implicitDefEqProofs only[tmC] at c3
 simp -implicitDefEqProofs only[opC] at c0
 have o1:Only non T h T h1:=Only.of_ext w (e0.trans e1)
 have c0:=e1 _ _ c0
 have t1:T v1=[]:=w v1 n0
 have t3:T v3=[]:=w v3 (fresh_of e0 n1)
 obtain⟨sv,av,Y,x1⟩:=x.up o1 (Off.non _) (not_non _)
 refine hwr_ok who o1.wf gg x1 hs h8 hl fun T2 h2 av2 b o2 x2 rb=>?_
 have b1:=o2.k.at c0 t1 (fun h=>U012.nil g h.up)
 have b3:=o2.k.at c3 t3 (fun h=>U012.nil g h.up)
 have c1':=b1.1
 have c3':=b3.1
 have oh:Only (pre g) T h T2 h2:=(o1.mono non_up).up o2 fun _=>U02.pre
 unfold qqjZ
 cases htc:t.closed with
 | true =>
  rw[htc] at c3'
  have e:H.write who s o t=(H.wr who s,5):=by simp[Hall.write,htc]
  rw[e] at hk
  simp -implicitDefEqProofs[ld_at c3',cel_of c3',stm_at c3',stm_upd,ld_same,cel_same,over]
  exact hk T2 h2 oh ⟨sv,av2,Y,x2⟩
 | false =>
 rw[htc] at c3'
 obtain⟨r,hr⟩:∃ r,writeB (H.ss s).book o t.now H.c.sessions=r:=⟨_,rfl⟩
 have e:H.write who s o t=((H.wr who s).put s { H.ss s with book:=r.1,feed:=(H.ss s).feed.tell r.2.1 t.seq },r.2.2):=by simp[Hall.write,htc,hr]
 rw[e] at hk
 simp -implicitDefEqProofs[ld_at c3',cel_of c3',stm_at c3',stm_upd,ld_same,cel_same,over]
 unfold qqiZ
 rw[seqM_eq]
 unfold qqgZ
 obtain⟨b',ob,rb',hb1,tb,ia,l1,l2,l3,l4,l5,l6⟩:=x2.lds (s:=s) (k:=.i64) hs
 have hbb:b'=b:=by rw[rb] at rb'; cases rb'; rfl
 subst hbb
 have hsr:=x2.sr s hs
 have cp:=x2.hp
 simp -implicitDefEqProofs only[hallC] at cp
 have hlen:r.2.1.length≤1:=by rw[← hr]; exact settle_chg _ _ _ _
 have fin:∀ (h5:Heap) (s6:Env) (k v cv:Value) (vb:Nat),Ext h2 h5→BookR (fz T2 h5) k v r.1→Sl 7 ChgR (fz T2 h5) cv r.2.1→h5 vb=some (.cells #[k,v] qaZ (0,0))→s6 9=ptr v3→s6 11 = .pointer (some ⟨b',s*8,none⟩)→s6 12=ptr vb→s6 13=cv→s6 14 = .int .i64 r.2.2→qjCZ s6 h5 K []:=by
  intro h5 s6 k v cv vb e5 hb hc cvb s9 s11 s12 s13 s14
  have o5:Only non T2 h2 T2 h5:=Only.of_ext o2.wf e5
  have x5:=x2.own o5.k
  have c3:=e5 _ _ c3'
  unfold qjCZ
  simp -implicitDefEqProofs[s9,s11,s12,s13,ld_at cvb,cel_of cvb,stm_at cvb,stm_upd,ld_same,cel_same,over]
  refine book_tell (seq:=t.seq) o5.wf gg x5 hs rb hb hc (by omega) sg.fg fun h6 o6 l6 hT=>?_
  have c3:=(o6.k.at c3 b3.2 (by simp)).1
  simp -implicitDefEqProofs[l6,ld_at c3,cel_of c3,stm_at c3,stm_upd,ld_same,cel_same,over]
  refine hT _ fun T7 h7 o7 x7=>?_
  unfold qqhZ
  simp -implicitDefEqProofs[s14]
  exact hk T7 h7 ((oh.up o5 non_up).up o7 fun t h=>h) x7
 have oa:ldV (some (some 7)) (ptr v1) h2=some (.agg (opC o uv).toArray):=by simp[ld_at c1',opC]
 have hse:(Hall.wr H who s).c.sessions=H.c.sessions:=rfl
 simp -implicitDefEqProofs[ld_at c3',cel_of c3',stm_at c3',ld_at cp,cel_of cp,stm_at cp,stm_upd,ld_same,cel_same,over,l4,oa,hse]
 refine⟨?_,?_⟩
 ·unfold qqeZ
  refine bwrite_ok _ sg.bw o ow ou ht H.c.sessions o2.wf hsr.2.1 (by have:=sg.bl; omega) ?_ fun h5 k v cv e5 hb hc=>?_
  ·rcases entOf_cases (H.ss s).book o.user with h | ⟨y,h1,h2,h3⟩
   ·show (entOf (H.ss s).book o.user).ss.length<_
    rw[h]; simp[ent0]
   ·show (entOf (H.ss s).book o.user).ss.length<_
    rw[h3]; exact sg.bn y h1
  have hb:BookR (fz T2 h5) k v r.1:=by rw[← hr]; exact hb
  have hc:Sl 7 ChgR (fz T2 h5) cv r.2.1:=by rw[← hr]; exact hc
  have hrr:(writeB ((H.wr who s).ss s).book o t.now H.c.sessions).2.2=r.2.2:=by rw[← hr]; rfl
  unfold qqdZ
  have p1:=hb.1.one
  have p2:=hb.2.1.one
  simp -implicitDefEqProofs only[exV_0,exV_1,exV_2,ov_s,zcMap,hrr]
  refine nw_st (by simp) (by simp) (by simp[p1.1,p2.1]) fun vb h6 n6 e6 c6=>?_
  simp -implicitDefEqProofs only[cells_agg] at c6
  try simp only[thenM_n]
  refine fin h6 _ k v cv vb (e5.trans e6) (hb.ext (fz_of_ext e6)) (hc.ext (R:=ChgR) (@ChgR.ext) (fz_of_ext e6)) c6 ?_ ?_ ?_ ?_ ?_<;>simp[hr]
 ·unfold qqfZ
  rw[zcMap]
  refine nw_intro fun vb h5 n5 e5 c5=>?_
  have o5:Only non T2 h2 T2 h5:=Only.of_ext o2.wf e5
  have x5:=x2.own o5.k
  obtain⟨b'',ob',rb'',hb1',tb',ia',l1',l2',l3',l4',l5',l6'⟩:=x5.lds (s:=s) (k:=.i64) hs
  have hbb:b''=b':=by rw[rb] at rb''; cases rb''; rfl
  subst hbb
  have c3:=e5 _ _ c3'
  have c1:=e5 _ _ c1'
  have cp:=x5.hp
  simp -implicitDefEqProofs only[hallC] at cp
  have oa:ldV (some (some 7)) (ptr v1) h5=some (.agg (opC o uv).toArray):=by simp[ld_at c1,opC]
  refine⟨l4',oa,by simp[ld_at c3,cel_of c3,stm_at c3,stm_upd,ld_same,cel_same,over],by simp[ld_at cp,cel_of cp,stm_at cp,stm_upd,ld_same,cel_same,over,hse],?_⟩
  have wt:Wf (tset T2 vb lc) h5:=wf_loc o5.wf c5
  refine bwrite_ok _ sg.bw o ow ou ht H.c.sessions wt (hsr.2.1.ext (fz_in n5 e5)) (by have:=sg.bl; omega) ?_ fun h6 k v cv e6 hb hc=>?_
  ·rcases entOf_cases (H.ss s).book o.user with h | ⟨y,h1,h2,h3⟩
   ·show (entOf (H.ss s).book o.user).ss.length<_
    rw[h]; simp[ent0]
   ·show (entOf (H.ss s).book o.user).ss.length<_
    rw[h3]; exact sg.bn y h1
  have hb:BookR (fz (tset T2 vb lc) h6) k v r.1:=by rw[← hr]; exact hb
  have hc:Sl 7 ChgR (fz (tset T2 vb lc) h6) cv r.2.1:=by rw[← hr]; exact hc
  have hrr:(writeB ((H.wr who s).ss s).book o t.now H.c.sessions).2.2=r.2.2:=by rw[← hr]; rfl
  have p1:=hb.1.one
  have p2:=hb.2.1.one
  have c6:=e6 _ _ c5
  try simp only[hrr]
  simp -implicitDefEqProofs[ld_at c6,cel_of c6,stm_at c6,stm_upd,ld_same,cel_same,over,p1.1,p2.1]
  try simp only[thenM_n]
  refine fin _ _ k v cv vb (ext_upd n5 (e5.trans e6)) (hb.ext fz_loc) (hc.ext (R:=ChgR) (@ChgR.ext) fz_loc) (upd_same' _ _ _) ?_ ?_ ?_ ?_ ?_<;>simp[hr]
end Go.Proofs.YtmbningljbcpkaaGreat
namespace Go.Proofs.YtmbningljbcpkaaGreat
open Go Go.Den Go.MapKept
set_option linter.unusedSimpArgs false
set_option linter.unusedVariables false
set_option maxRecDepth 20000
theorem fz_get {T:Tags}{h:Heap}{b:Nat}{o:Obj}(e:fz T h b=some o):h b=some o∧T b=[]:=by
 unfold fz at e
 split at e
 ·rename_i ht; exact⟨e,ht⟩
 ·cases e
end Go.Proofs.YtmbningljbcpkaaGreat
namespace Go.Den
open Go
set_option linter.unusedVariables false
set_option linter.unusedSimpArgs false
deriving instance DecidableEq for Ent
deriving instance DecidableEq for Evt
end Go.Den
namespace Go.Den
open Go
set_option linter.unusedVariables false
set_option linter.unusedSimpArgs false
def Hall.quiet (H:Hall)(s:Nat):Bool:=!wrt (H.ss s).v && decide ((H.ss s).snap=(H.ss s).book)
end Go.Den
namespace Go.Den
open Go
set_option linter.unusedVariables false
set_option linter.unusedSimpArgs false
def Lv (b:Book)(now:Int):Prop:=∀ x∈b,∀ s∈x.2.ss,now<s.un
end Go.Den
namespace Go.Den
open Go
set_option linter.unusedVariables false
def wo (h:Heap)(l:List Nat):Heap:=fun q=>if q∈l then none else h q
theorem wo_out {h:Heap}{l:List Nat}{q:Nat}(hq:q ∉ l):wo h l q=h q:=if_neg hq
theorem wo_ext {F h:Heap}{l:List Nat}(e:Ext F h)(hl:∀ q∈l,F q=none):Ext F (wo h l):=fun b o hb=>by
 rw[wo_out (fun hm=>by rw[hl b hm] at hb; cases hb)]; exact e b o hb
theorem wo_get {h:Heap}{l:List Nat}{q:Nat}{o:Obj}(e:wo h l q=some o):q ∉ l∧h q=some o:=by
 unfold wo at e
 split at e
 ·cases e
 ·rename_i hq; exact⟨hq,e⟩
theorem wo_keep {h h' h'':Heap}{l:List Nat}{b:Nat}(e:Ext (wo h l) h')(hb:h b=none)(k:Keep (some b) h' h''):Ext (wo h l) h'':=fun q o hq=>by
 refine k q o (e q o hq) fun hh=>?_
 cases hh
 rw[(wo_get hq).2] at hb; cases hb
theorem wo_upd {h h':Heap}{l:List Nat}{b:Nat}{o:Obj}(e:Ext (wo h l) h')(hb:b∈l):Ext (wo h l) (upd h' b o):=fun q x hq=>by
 rw[upd_ne (fun hh=>(wo_get hq).1 (by rw[hh]; exact hb))]; exact e q x hq
theorem ext_wo {h0 h h':Heap}{l:List Nat}(e0:Ext h0 h)(hl:∀ q∈l,h0 q=none)(e:Ext (wo h l) h'):Ext h0 h':=(wo_ext e0 hl).trans e
end Go.Den
namespace Go.Proofs.YtmbningljbcpkaaGreat
open Go Go.Den Go.MapKept
set_option linter.unusedSimpArgs false
set_option linter.unusedVariables false
set_option maxRecDepth 20000
theorem allX_at {b:Book}{Lv:List (List Value)}{F:Heap}(l2:El 4 EntR F Lv (b.map (·.2))){i:Nat}(hi:i<(allX b Lv).length):∃ (hb:i<b.length) (v:Value),(allX b Lv)[i]=#[.string b[i].1,.agg (v::presC b[i].2.told).toArray]∧Sl 4 SessR F v b[i].2.ss∧Sn v:=by
 have hb:i<b.length:=by simpa [allX] using hi
 have hL:i<Lv.length:=by rw[l2.len]; simpa using hb
 have he:=l2.el i hL (by simpa using hb)
 obtain⟨v,h1,h2,h3⟩:=he
 simp -implicitDefEqProofs only[List.getElem_map] at h1 h2
 refine⟨hb,v,?_,h2,h3⟩
 simp -implicitDefEqProofs only[allX,List.getElem_map,List.getElem_range]
 have e1:b.getD i (⟨#[]⟩,ent0)=b[i]:=by rw[List.getD_eq_getElem?_getD,List.getElem?_eq_getElem hb]; rfl
 have e2:Lv.getD i []=Lv[i]:=by rw[List.getD_eq_getElem?_getD,List.getElem?_eq_getElem hL]; rfl
 rw[e1,e2,h1]
theorem zcStripe:zc P qaxZ=some #[.int .i64 0,.int .u64 0,.int .u64 0,.slice none 0 0,.slice none 0 0,.slice none 0 0,.slice none 0 0,.pointer none]:=by kernel_rfl
end Go.Proofs.YtmbningljbcpkaaGreat
namespace Go.Proofs.YtmbningljbcpkaaGreat
open Go Go.Den Go.MapKept
set_option linter.unusedSimpArgs false
set_option linter.unusedVariables false
set_option maxRecDepth 20000
def small:Cfg:=⟨3,2,16,4,1,100,0⟩
theorem bdSmall:bdV (binf P qKZ) [(0,.int .i64 3),(1,.int .i64 2),(2,.int .i64 16),(3,.int .i64 4),(4,.int .i64 1),(5,.int .u64 100)]=some (.agg (cfgC small).toArray):=by kernel_rfl
theorem smallW:CfgW small:=by constructor<;>simp[small,I64,U64]
variable {K:KTy}
theorem small_ok {h:Heap}(hk:∀ h',Ext h h'→K (.agg (cfgC small).toArray) h'):callM P qdNZ #[] h K:=by
 apply qtGZ
 unfold qiBZ
 rw[zcCfg,bdSmall]
 simp -implicitDefEqProofs only[nwM_s]
 intro v1 n1
 simp -implicitDefEqProofs[stm_upd,ld_same,cel_same,over,cfgC]
 exact hk _ (Ext.upd n1 _)
end Go.Proofs.YtmbningljbcpkaaGreat
namespace Go.Proofs.YtmbningljbcpkaaGreat
open Go Go.Den Go.MapKept
set_option linter.unusedSimpArgs false
set_option linter.unusedVariables false
set_option maxRecDepth 20000
theorem g1:Gd [1]:=⟨0,[],rfl⟩
theorem g2:Gd [2]:=⟨1,[],rfl⟩
end Go.Proofs.YtmbningljbcpkaaGreat
namespace Go.Proofs.YtmbningljbcpkaaGreat
open Go Go.Den Go.MapKept
set_option linter.unusedSimpArgs false
set_option linter.unusedVariables false
set_option maxRecDepth 20000
theorem ext_of_only {U:Tag→Prop}{h:Heap}{T':Tags}{h':Heap}(o:Only U (fun _=>[]) h T' h')(u:¬ U []):Ext h h':=by
 have:=(o.ext u).trans (fz_ext _ _)
 rw[fz_nil] at this; exact this
def c2:Cfg:=⟨2,2,16,4,1,100,0⟩
end Go.Proofs.YtmbningljbcpkaaGreat
namespace Go.Proofs.YtmbningljbcpkaaGreat
open Go Go.Den Go.MapKept
set_option linter.unusedSimpArgs false
set_option linter.unusedVariables false
set_option maxRecDepth 20000
theorem bin_neqS (t:Nat)(c:Bool)(a b:ByteArray):binV .neq t c (.string a) (.string b)=some (.bool (!decide (a=b))):=by
 simp -implicitDefEqProofs only[binV,strV]
 by_cases h:a=b
 ·subst h; simp
 ·have:¬ a.toList=b.toList:=fun e=>h (str_inj e)
  simp -implicitDefEqProofs[h,this]
theorem take_eq_succ {α:Type}{xs ys:List α}{i:Nat}(h:xs.take i=ys.take i)(h1:i<xs.length)(h2:i<ys.length)(e:xs[i]=ys[i]):xs.take (i+1)=ys.take (i+1):=by
 rw[List.take_succ_eq_append_getElem h1,List.take_succ_eq_append_getElem h2,h,e]
variable {K:KTy}
set_option maxHeartbeats 1000000 in
theorem eqStr_ok (xs ys : List ByteArray) {h : Heap} {v u : Value} (x : Sl 1 StrR h v xs) (y : Sl 1 StrR h u ys) (hl : xs.length < 1000000) (hk : K (.bool (decide (xs = ys))) h) : callM P qctZ #[v, u] h K := by
  apply qraZ
  unfold qcRZ
  have lx := x.len
  have ly := y.len
  by_cases hlen : xs.length = ys.length
  rotate_left
  · have hne : xs ≠ ys := fun e => hlen (by rw [e])
    have hi : ¬ (xs.length : Int) = ys.length := by omega
    simp -implicitDefEqProofs [lx, ly, hi]
    rw [decide_eq_false hne] at hk; exact hk
  · have hi : (xs.length : Int) = ys.length := by omega
    simp -implicitDefEqProofs [lx, ly, hi]
    unfold qgCZ
    rw [seqM_eq]
    unfold qgBZ
    simp -implicitDefEqProofs only [lx, ov_s]
    refine loop_on [0, 1, 4, 12] (fun s h' => h' = h ∧ ∃ i : Nat, i ≤ xs.length ∧ s 13 = .int .i64 i ∧ xs.take i = ys.take i) (fun s _ => (xs.length - num (s 13)).toNat) ⟨rfl, 0, by omega, rfl, by simp⟩ ?_
    rintro s h1 hf ⟨rfl, i, hi, s13, hT⟩
    have s0 : s 0 = v := by simpa using hf 0 (by simp)
    have s1 : s 1 = u := by simpa using hf 1 (by simp)
    have s4 : s 4 = .bool false := by simpa using hf 4 (by simp)
    have s12 : s 12 = .int .i64 xs.length := by simpa using hf 12 (by simp)
    unfold qgAZ
    simp -implicitDefEqProofs only [s13, s12, bin_lss, ov_s, cd_b]
    refine ⟨fun hc => ?_, fun hc => ?_⟩
    · have hlt : i < xs.length := by have : ((i : Int) < xs.length) := by simpa using hc
                                     omega
      have hly : i < ys.length := by omega
      have hw : IntKind.i64.wrap ((i : Int) + 1) = (i + 1 : Nat) := by rw [wrap64_id (by omega) (by omega)]; omega
      obtain ⟨b, p, i1, i2⟩ := str_at x (k := .i64) hlt
      obtain ⟨b', p', j1, j2⟩ := str_at y (k := .i64) hly
      unfold qgzZ
      simp -implicitDefEqProofs only [s0, s1, s13, i1, j1, ov_s, ldV_c, i2 _ (Ext.refl _), j2 _ (Ext.refl _), bin_neqS, cd_b]
      refine ⟨fun hd => ?_, fun hd => ?_⟩
      · have hne : xs[i] ≠ ys[i] := by simpa using hd
        have hne' : xs ≠ ys := fun e => hne (by subst e; rfl)
        unfold qgxZ
        simp -implicitDefEqProofs [s4]
        rw [decide_eq_false hne'] at hk; exact hk
      · have he : xs[i] = ys[i] := by simpa using hd
        unfold qgyZ
        simp -implicitDefEqProofs [s0, s1, s4, s12, s13, hw, -Int.natCast_add]
        exact ⟨⟨i + 1, by omega, rfl, take_eq_succ hT hlt hly he⟩, by omega⟩
    · have : i = xs.length := by have : ¬ ((i : Int) < xs.length) := by simpa using hc
                                 omega
      subst this
      have he : xs = ys := by
        rw [List.take_of_length_le (Nat.le_refl _), List.take_of_length_le (by omega)] at hT; exact hT
      simp -implicitDefEqProofs
      rw [decide_eq_true he] at hk; exact hk
theorem sessNe (p q:Sess){x y:Operand}{K:Value→Prop}:pvM P (do eqGuard .neq qdZ x y (.agg (sessC p).toArray) (.agg (sessC q).toArray); binOp .neq qdZ (.agg (sessC p).toArray) (.agg (sessC q).toArray)) K=K (.bool (!decide (p=q))):=by
 simp -implicitDefEqProofs only[sessC]
 rw[pv_neq (d:=5) (b:=(p.id == q.id) && ((p.st == q.st) && ((p.pr == q.pr) && ((p.un == q.un) && true)))) (by kernel_rfl) (by omega) (by kernel_rfl)]
 have:((p.id == q.id) && ((p.st == q.st) && ((p.pr == q.pr) && ((p.un == q.un) && true))))=decide (p=q):=by
  rw[Bool.eq_iff_iff]; cases p; cases q; simp
 rw[this]
set_option maxHeartbeats 1000000 in
theorem eqSess_ok (xs ys : List Sess) {h : Heap} {v u : Value} (x : Sl 4 SessR h v xs) (y : Sl 4 SessR h u ys) (hl : xs.length < 1000000) (hk : K (.bool (decide (xs = ys))) h) : callM P qatZ #[v, u] h K := by
  apply qjKZ
  unfold qazZ
  have lx := x.len
  have ly := y.len
  by_cases hlen : xs.length = ys.length
  rotate_left
  · have hne : xs ≠ ys := fun e => hlen (by rw [e])
    have hi : ¬ (xs.length : Int) = ys.length := by omega
    simp -implicitDefEqProofs [lx, ly, hi]
    rw [decide_eq_false hne] at hk; exact hk
  · have hi : (xs.length : Int) = ys.length := by omega
    simp -implicitDefEqProofs [lx, ly, hi]
    unfold qccZ
    rw [seqM_eq]
    unfold qcbZ
    simp -implicitDefEqProofs only [lx, ov_s]
    refine loop_on [0, 1, 4, 12] (fun s h' => h' = h ∧ ∃ i : Nat, i ≤ xs.length ∧ s 13 = .int .i64 i ∧ xs.take i = ys.take i) (fun s _ => (xs.length - num (s 13)).toNat) ⟨rfl, 0, by omega, rfl, by simp⟩ ?_
    rintro s h1 hf ⟨rfl, i, hi, s13, hT⟩
    have s0 : s 0 = v := by simpa using hf 0 (by simp)
    have s1 : s 1 = u := by simpa using hf 1 (by simp)
    have s4 : s 4 = .bool false := by simpa using hf 4 (by simp)
    have s12 : s 12 = .int .i64 xs.length := by simpa using hf 12 (by simp)
    unfold qcaZ
    simp -implicitDefEqProofs only [s13, s12, bin_lss, ov_s, cd_b]
    refine ⟨fun hc => ?_, fun hc => ?_⟩
    · have hlt : i < xs.length := by have : ((i : Int) < xs.length) := by simpa using hc
                                     omega
      have hly : i < ys.length := by omega
      have hw : IntKind.i64.wrap ((i : Int) + 1) = (i + 1 : Nat) := by rw [wrap64_id (by omega) (by omega)]; omega
      obtain ⟨b, p, i1, i2⟩ := sess_ld x (k := .i64) hlt
      obtain ⟨b', p', j1, j2⟩ := sess_ld y (k := .i64) hly
      unfold qbZZ
      simp -implicitDefEqProofs only [s0, s1, s13, i1, j1, ov_s, ldV_n (i2 _ (Ext.refl _)), ldV_n (j2 _ (Ext.refl _)), sessNe, cd_b]
      refine ⟨fun hd => ?_, fun hd => ?_⟩
      · have hne : xs[i] ≠ ys[i] := by simpa using hd
        have hne' : xs ≠ ys := fun e => hne (by subst e; rfl)
        unfold qbXZ
        simp -implicitDefEqProofs [s4]
        rw [decide_eq_false hne'] at hk; exact hk
      · have he : xs[i] = ys[i] := by simpa using hd
        unfold qbYZ
        simp -implicitDefEqProofs [s0, s1, s4, s12, s13, hw, -Int.natCast_add]
        exact ⟨⟨i + 1, by omega, rfl, take_eq_succ hT hlt hly he⟩, by omega⟩
    · have : i = xs.length := by have : ¬ ((i : Int) < xs.length) := by simpa using hc
                                 omega
      subst this
      have he : xs = ys := by
        rw [List.take_of_length_le (Nat.le_refl _), List.take_of_length_le (by omega)] at hT; exact hT
      simp -implicitDefEqProofs
      rw [decide_eq_true he] at hk; exact hk
def KyJ (hB:Heap)(v3:Nat)(b:Book)(l b' i:Nat)(h':Heap):Prop :=
 ∃ kv,h' v3=some (.cells #[kv] qhZ (0,0))∧Row 1 qWZ h' kv i (((keysB b).take i).flatMap strC1)∧Ext (wo hB [v3]) h'∧∀ r,rowOf kv=some r→r≠v3∧r≠l∧r≠b'∧hB r=none
def KyC (hB:Heap)(v3:Nat)(b:Book)(l b' i:Nat)(s2:Env)(h':Heap):Prop:=KyJ hB v3 b l b' i h'∧s2 3=ptr v3∧∃ hi:i<b.length,s2 4 = .string b[i].1
theorem KyJ.keep {hB:Heap}{v3:Nat}{b:Book}{l b' i:Nat}{h' h'':Heap}(J:KyJ hB v3 b l b' i h')(hl':hB l=none)(h3:hB v3≠none)(k:Keep (some l) h' h''):KyJ hB v3 b l b' i h'':=by
 obtain⟨kv,c,r,e,n⟩:=J
 refine⟨kv,k _ _ c (fun hh=>by cases hh; exact h3 hl'),r.of_at fun g hg=>?_,wo_keep e hl' k,n⟩
 obtain⟨o,ho⟩:=r.lt g hg
 rw[ho]; exact k _ _ ho (fun hh=>(n g hg).2.1 (by cases hh; rfl))
theorem zcSlStr:zc P qhZ=some #[.slice none 0 0]:=by kernel_rfl
set_option maxHeartbeats 1000000 in
theorem keys_ok (b:Book)(hl:b.length<1000000){F h:Heap}(eF:Ext F h){kw vw:Value}(x:BookR F kw vw b)(hk:∀ v' h',Ext h h'→Sl 1 StrR h' v' (keysB b)→K v' h'):callM P qyZ #[.agg #[kw,vw]] h K:=by
 apply qniZ
 unfold qbjZ
 refine nw_agg fun v1 h1 n1 e1 c1=>?_
 rw[zcSlStr]
 refine nw_intro fun v3 h3 n3 e3 c3=>?_
 have c1:=e3 _ _ c1
 have e0:=e1.trans e3
 have n3':h v3=none:=fresh_of e1 n3
 have o1:=x.1.one
 have o2:=x.2.1.one
 rw[seqM_eq]
 unfold qdTZ
 simp -implicitDefEqProofs[ld_at c1,cel_of c1,stm_at c1,stm_upd,ld_same,cel_same,over,o1.1,o2.1]
 refine all_ok b (eF.trans e0) x fun pA hB nA eA cA=>?_
 have nA3:v3≠pA:=ne_fresh c3 nA
 have c3:=eA _ _ c3
 have h3B:hB v3≠none:=by rw[c3]; simp
 have e0B:=e0.trans eA
 obtain⟨Lv,l1,l2⟩:=x.2.1.els EntR.one
 simp -implicitDefEqProofs only[List.length_map] at l1
 have hF3:F v3=none:=by
  cases hh:F v3 with
  | none=>rfl
  | some o=>rw[eF _ _ hh] at n3'; cases n3'
 have F1:Ext F (wo hB [v3]):=wo_ext (eF.trans e0B) (by simpa using hF3)
 have hlx:(allX b Lv).length=b.length:=by simp[allX]
 have klen:(keysB b).length=b.length:=by simp[keysB]
 unfold qdSZ
 refine rf_go good mixed rfl (by kernel_rfl) (all_it b (hA:=wo hB [v3]) (p:=pA) (kw:=kw) (vw:=vw) (Lv:=Lv) (by rw[wo_out (by simpa using Ne.symm nA3)]; exact cA) (x.ext F1) (l1.ext F1) l2.size (by simpa using l2.len))
  (fun l b' i h'=>KyJ hB v3 b l b' i h') (fun _ _ _ _=>False) (fun l b' i s2 h'=>KyC hB v3 b l b' i s2 h') ?_ ?_ ?_ (fun _ _ _ _ _ _ _ h _=>h) ?_ ?_ ?_ ?_ ?_ (fun _ _ _ _ _ _ _ h=>h.elim) (fun _ _ _ _ _ _ _ _ h=>h.elim)
 ·intro l b' hl' hb'
  exact⟨_,c3,by simpa using (Rf.nil (sz:=1) (e:=qWZ) (Ext.refl hB)).row,fun q o hq=>(wo_get hq).2,fun r hr=>by simp[rowOf] at hr⟩
 ·intro l b' i h' J; obtain⟨kv,_,_,e,_⟩:=J; exact e
 ·intro l b' hl' hb' i h' h'' J k
  exact J.keep hl' h3B k
 ·rintro l b' i s2 ha hb hl' hb' ⟨J,s3,hi,s4⟩ k
  exact⟨J.keep hl' h3B k,s3,hi,s4⟩
 ·intro i hi; simp[allX]
 ·rintro i hi l b' h2 hl' hb' ⟨ol,hol⟩ ⟨ob,hob⟩ J
  rw[qkxZ]
  unfold qdoZ
  obtain⟨hib,sv,hx,hsv,hsn⟩:=allX_at l2 hi
  rw[hx]
  simp -implicitDefEqProofs
  exact⟨J,by simp,hib,by simp⟩
 ·rintro i hi l b' s2 h3 hl' hb' ⟨ol,hol⟩ ⟨ob,hob⟩ ⟨⟨kv,cv,r,e,nr⟩,s3,hib,s4⟩
  rw[qkyZ]
  unfold qdpZ
  simp -implicitDefEqProofs[s3,s4,ld_at cv,cel_of cv,stm_at cv,stm_upd,ld_same,cel_same,over]
  refine app_one (x:=.string b[i].1) bsStr unSlStr apStr (by omega) (by simp) (by simp) r (by unfold maxLen; omega) (by omega) (by omega) fun a kv' h4 r4 k4 ha=>?_
  have hl3:l≠v3:=fun hh=>by subst hh; rw[hl'] at c3; cases c3
  have hb3:b'≠v3:=fun hh=>by subst hh; rw[hb'] at c3; cases c3
  have cv4:h4 v3=some (.cells #[kv] qhZ (0,0)):=k4 _ _ cv (fun hh=>(nr v3 hh.symm).1 rfl)
  have hol4:h4 l=some ol:=k4 _ _ hol (fun hh=>(nr l hh.symm).2.1 rfl)
  have hob4:h4 b'=some ob:=k4 _ _ hob (fun hh=>(nr b' hh.symm).2.2.1 rfl)
  have nr':∀ g,rowOf kv'=some g→g≠v3∧g≠l∧g≠b'∧hB g=none:=fun g hg=>by
   rcases ha with ha | ⟨j,ha,hj⟩
   ·exact nr g (by rw[← ha]; exact hg)
   ·rw[ha] at hg; cases hg
    refine⟨fun hh=>?_,fun hh=>?_,fun hh=>?_,?_⟩
    ·subst hh; rw[cv] at hj; cases hj
    ·subst hh; rw[hol] at hj; cases hj
    ·subst hh; rw[hob] at hj; cases hj
    ·by_cases hg3:g=v3
     ·subst hg3; rw[cv] at hj; cases hj
     ·cases hh:hB g with
      | none=>rfl
      | some o =>
       have:=e g o (by rw[wo_out (by simpa using hg3)]; exact hh)
       rw[this] at hj; cases hj
  have okv:kv'.cells=#[kv']:=r4.one.2
  simp -implicitDefEqProofs[ld_at cv4,cel_of cv4,stm_at cv4,stm_upd,ld_same,cel_same,over,okv,r4.one.1]
  refine⟨by rw[upd_ne hl3,hol4,hol],by rw[upd_ne hb3,hob4,hob],kv',upd_same' _ _ _,?_,wo_upd ?_ (by simp),nr'⟩
  ·have:(keysB b).take (i+1)=(keysB b).take i++[b[i].1]:=by
    rw[List.take_succ_eq_append_getElem (by omega)]; simp[keysB]
   rw[this,List.flatMap_append]
   exact (by simpa [strC1] using r4:Row 1 qWZ h4 kv' (i+1) _).of_at fun g hg=>upd_ne (nr' g hg).1
  ·intro q o hq
   have hqB:=wo_get hq
   have:=e q o hq
   exact k4 q o this fun hh=>by rw[(nr q hh.symm).2.2.2] at hqB; cases hqB.2
 ·intro l b' h' hl' hlb hb' hd J
  rw[hlx] at J
  obtain⟨kv,cv,r,e,nr⟩:=J
  rw[List.take_of_length_le (by omega)] at r
  have nb3:v3≠b':=fun hh=>by subst hh; rw[hb'] at c3; cases c3
  simp -implicitDefEqProofs only[blkM_n,thenM_n]
  simp -implicitDefEqProofs[ld_at cv,cel_of cv,stm_at cv,stm_upd,ld_same,cel_same,over,hd,ld_skip nb3,cel_skip nb3]
  refine hk _ _ (ext_upd (o:=.deferred none) (fresh_of e0B hb') (ext_wo e0B (by simpa using n3') e)) ?_
  have r':Row 1 qWZ (upd h' b' (.deferred none)) kv (keysB b).length ((keysB b).flatMap strC1):=by
   rw[klen]; exact r.of_at fun g hg=>upd_ne (nr g hg).2.2.1
  exact strR_of (Row.slE (enc:=strC1) (R:=StrE) (fun _=>rfl) (fun _=>rfl) r') (str_sizes x.1)
end Go.Proofs.YtmbningljbcpkaaGreat
namespace Go.Proofs.YtmbningljbcpkaaGreat
open Go Go.Den Go.MapKept
set_option linter.unusedSimpArgs false
set_option linter.unusedVariables false
set_option maxRecDepth 20000
def saE (a b:Book):Prop:=∀ x∈a,x.2=entOf b x.1
theorem book_eq {a b:Book}(so:SrtK (keysB a))(so':SrtK (keysB b))(hk:keysB a=keysB b):a=b↔saE a b:=by
 constructor
 ·rintro rfl x hx
  obtain⟨i,hi,rfl⟩:=List.getElem_of_mem hx
  exact (entOf_mem so hi).symm
 ·intro h
  have hl:a.length=b.length:=by have:=congrArg List.length hk; simpa [keysB] using this
  refine List.ext_getElem hl fun i h1 h2=>?_
  have hki:a[i].1=b[i].1:=by
   have:(keysB a)[i]'(by simpa [keysB] using h1)=(keysB b)[i]'(by simpa [keysB] using h2):=by simp only[hk]
   simpa [keysB] using this
  have he:=h a[i] (List.getElem_mem h1)
  rw[hki,entOf_mem so' h2] at he
  exact Prod.ext hki he
def SaJ (hB:Heap)(v5:Nat)(a b:Book)(i:Nat)(h':Heap):Prop:=Ext (wo hB [v5]) h'∧h' v5=some (.cells #[.bool false] qdQZ (0,0))∧∀ x∈a.take i,x.2=entOf b x.1
def SaS (hB:Heap)(v5:Nat)(a b:Book)(h':Heap):Prop:=Ext (wo hB [v5]) h'∧h' v5=some (.cells #[.bool false] qdQZ (0,0))∧¬ saE a b
def SaC (hB F:Heap)(v3 v5:Nat)(a b:Book)(l i:Nat)(s2:Env)(h':Heap):Prop :=
 SaJ hB v5 a b i h'∧s2 3=ptr v3∧s2 4=ptr v5∧∃ (hi:i<a.length) (xb:Nat) (sv:Value),s2 5 = .string a[i].1∧s2 6=ptr xb∧xb≠l∧xb≠v5∧h' xb=some (.cells (sv::presC a[i].2.told).toArray qqZ (0,0))∧Sl 4 SessR F sv a[i].2.ss
theorem tgBool4:tagg P 4=some none:=by kernel_rfl
theorem zcBool:zc P qdQZ=some #[.bool false]:=by kernel_rfl
variable {K:KTy}
set_option maxHeartbeats 4000000 in
theorem same_ok (a b:Book)(so:SrtK (keysB a))(so':SrtK (keysB b))(hl:a.length<1000000)(hlb:b.length<1000000)(hsn:∀ x∈a,x.2.ss.length<1000000){F h:Heap}(eF:Ext F h){kw vw kw' vw':Value}(x:BookR F kw vw a)(y:BookR F kw' vw' b)
  (hk:∀ h',Ext h h'→K (.bool (decide (a=b))) h'):callM P qeYZ #[.agg #[kw,vw],.agg #[kw',vw']] h K:=by
 apply qwaZ
 unfold qtbZ
 refine nw_agg fun v1 h1 n1 e1 c1=>?_
 refine nw_agg fun v3 h3 n3 e3 c3=>?_
 rw[zcBool]
 refine nw_intro fun v5 h5 n5 e5 c5=>?_
 have c1:=e5 _ _ (e3 _ _ c1)
 have c3:=e5 _ _ c3
 have e0:=(e1.trans e3).trans e5
 have n5':h v5=none:=fresh_of (e1.trans e3) n5
 have o1:=x.1.one
 have o2:=x.2.1.one
 have o3:=y.1.one
 have o4:=y.2.1.one
 have hag3:∀ h',h' v3=some (.cells #[kw',vw'] qaZ (0,0))→ldV (some (some 2)) (ptr v3) h'=some (.agg #[kw',vw']):=fun h' c=>by simp[ld_at c]
 have hag1:∀ h',h' v1=some (.cells #[kw,vw] qaZ (0,0))→ldV (some (some 2)) (ptr v1) h'=some (.agg #[kw,vw]):=fun h' c=>by simp[ld_at c]
 simp -implicitDefEqProofs only[hag1 _ c1,hag3 _ c3,ov_s]
 refine keys_ok a hl (eF.trans e0) x fun ka h6 e6 xa=>?_
 have c1:=e6 _ _ c1
 have c3:=e6 _ _ c3
 have c5:=e6 _ _ c5
 have e0:=e0.trans e6
 unfold qubZ
 simp -implicitDefEqProofs only[hag3 _ c3,true_and]
 refine keys_ok b hlb (eF.trans e0) y fun kB h7 e7 xb=>?_
 have c1:=e7 _ _ c1
 have c3:=e7 _ _ c3
 have c5:=e7 _ _ c5
 have e0:=e0.trans e7
 refine eqStr_ok (keysB a) (keysB b) (xa.ext (@StrR.ext) e7) xb (by simpa [keysB] using hl) ?_
 unfold quaZ
 by_cases hkk:keysB a=keysB b
 rotate_left
 ·have hne:a≠b:=fun e=>hkk (by rw[e])
  have w5:Ext h (upd h7 v5 (.cells #[.bool false] qdQZ (0,0))):=ext_upd n5' e0
  simp -implicitDefEqProofs[hkk,ld_at c5,cel_of c5,stm_at c5,stm_upd,ld_same,cel_same,over]
  refine kb (hk _ w5) (by simp[hne])
 have hbe:=book_eq so so' hkk
 simp -implicitDefEqProofs[hkk]
 unfold qtZZ
 rw[seqM_eq]
 unfold qtYZ
 simp -implicitDefEqProofs only[hag1 _ c1,ov_s]
 refine all_ok a (eF.trans e0) x fun pA hB nA eA cA=>?_
 have nA5:v5≠pA:=ne_fresh c5 nA
 have c3:=eA _ _ c3
 have c5:=eA _ _ c5
 have e0B:=e0.trans eA
 have n35:v3≠v5:=fun hh=>by subst hh; rw[c3] at c5; cases c5
 have hv3:wo hB [v5] v3=some (.cells #[kw',vw'] qaZ (0,0)):=by rw[wo_out (by simpa using n35)]; exact c3
 obtain⟨Lv,l1,l2⟩:=x.2.1.els EntR.one
 simp -implicitDefEqProofs only[List.length_map] at l1
 have hF5:F v5=none:=by
  cases hh:F v5 with
  | none=>rfl
  | some o=>rw[eF _ _ hh] at n5'; cases n5'
 have F1:Ext F (wo hB [v5]):=wo_ext (eF.trans e0B) (by simpa using hF5)
 have hlx:(allX a Lv).length=a.length:=by simp[allX]
 unfold qtXZ
 refine rf_go good mixed rfl (by kernel_rfl) (all_it a (hA:=wo hB [v5]) (p:=pA) (kw:=kw) (vw:=vw) (Lv:=Lv) (by rw[wo_out (by simpa using Ne.symm nA5)]; exact cA) (x.ext F1) (l1.ext F1) l2.size (by simpa using l2.len))
  (fun l b' i h'=>SaJ hB v5 a b i h') (fun _ _ e h'=>e = .ret∧SaS hB v5 a b h') (fun l b' i s2 h'=>SaC hB F v3 v5 a b l i s2 h') ?_ ?_ ?_ ?_ ?_ ?_ ?_ ?_ ?_ ?_ ?_
 ·intro l b' hl' hb'
  exact⟨fun q o hq=>(wo_get hq).2,c5,by simp⟩
 ·intro l b' i h' J; exact J.1
 ·intro l b' hl' hb' i h' h'' J k
  exact⟨wo_keep J.1 hl' k,k _ _ J.2.1 (fun hh=>by cases hh; rw[hl'] at c5; cases c5),J.2.2⟩
 ·rintro l b' hl' hb' e h' h'' ⟨rfl,J⟩ k
  exact⟨rfl,wo_keep J.1 hl' k,k _ _ J.2.1 (fun hh=>by cases hh; rw[hl'] at c5; cases c5),J.2.2⟩
 ·rintro l b' i s2 ha hb hl' hb' ⟨J,s3,s4,hi,xb,sv,s5,s6,nx,nx5,cx,sx⟩ k
  exact⟨⟨wo_keep J.1 hl' k,k _ _ J.2.1 (fun hh=>by cases hh; rw[hl'] at c5; cases c5),J.2.2⟩,s3,s4,hi,xb,sv,s5,s6,nx,nx5,k _ _ cx (fun hh=>nx (by cases hh; rfl)),sx⟩
 ·intro i hi; simp[allX]
 ·rintro i hi l b' h2 hl' hb' ⟨ol,hol⟩ ⟨ob,hob⟩ J
  rw[qvKZ]
  unfold qtkZ
  rw[zcEnt]
  obtain⟨hib,sv,hx,hsv,hsn'⟩:=allX_at l2 hi
  rw[hx]
  have hso:=hsv.one
  simp -implicitDefEqProofs
  refine nw_st rfl (by simp[presC]) (by simp[presC,hso.1]) fun xb h4 n4 e4 c4=>?_
  refine⟨⟨⟨J.1.trans e4,e4 _ _ J.2.1,J.2.2⟩,by simp,by simp,hib,xb,sv,by simp,by simp,fun hh=>(by subst hh; rw[hol] at n4; cases n4),fun hh=>(by subst hh; rw[J.2.1] at n4; cases n4),?_,hsv⟩,by rw[hol,e4 _ _ hol],by rw[hob,e4 _ _ hob]⟩
  simpa using c4
 ·rintro i hi l b' s2 h3 hl' hb' ⟨ol,hol⟩ ⟨ob,hob⟩ ⟨J,s3,s4,hib,xb,sv,s5,s6,nx,nx5,cx,sx⟩
  rw[qvLZ]
  unfold qtlZ
  have c3':=J.1 _ _ hv3
  simp -implicitDefEqProofs only[s3,s5,hag3 _ c3',ov_s]
  refine get_ok b so' a[i].1 (F1.trans J.1) y hlb fun h8 sv' e8 xs' xn'=>?_
  have cx:=e8 _ _ cx
  have c58:=e8 _ _ J.2.1
  have e38:=J.1.trans e8
  simp -implicitDefEqProofs only[exV_0,exV_1,ov_s,zcEnt]
  have hso':=xs'.one
  have hso:=sx.one
  refine nw_st rfl (by simp[presC]) (by simp[presC,hso'.1]) fun yb h9 n9 e9 c9=>?_
  have cx:=e9 _ _ cx
  have c59:=e9 _ _ c58
  have e39:=e38.trans e9
  have hol9:h9 l=some ol:=e9 _ _ (e8 _ _ hol)
  have hob9:h9 b'=some ob:=e9 _ _ (e8 _ _ hob)
  simp -implicitDefEqProofs only[presC] at cx c9
  simp -implicitDefEqProofs[s6,ld_at cx,cel_of cx,stm_at cx,ld_at c9,cel_of c9,stm_at c9,stm_upd,ld_same,cel_same,over,presNe]
  have hl5:l≠v5:=fun hh=>by subst hh; rw[hl'] at c5; cases c5
  have hb5:b'≠v5:=fun hh=>by subst hh; rw[hb'] at c5; cases c5
  have bad:a[i].2≠entOf b a[i].1→∀ h36,Ext h9 h36→(upd h36 v5 (.cells #[.bool false] qdQZ (0,0))) l=h3 l∧(upd h36 v5 (.cells #[.bool false] qdQZ (0,0))) b'=h3 b'∧SaS hB v5 a b (upd h36 v5 (.cells #[.bool false] qdQZ (0,0))):=fun hn h36 e36 =>
   ⟨by rw[upd_ne hl5,e36 _ _ hol9,hol],by rw[upd_ne hb5,e36 _ _ hob9,hob],wo_upd (e39.trans e36) (by simp),upd_same' _ _ _,fun sa=>hn (sa _ (List.getElem_mem hib))⟩
  by_cases ht:a[i].2.told=(entOf b a[i].1).told
  ·simp -implicitDefEqProofs[ht,ld_at cx,cel_of cx,stm_at cx,ld_at c9,cel_of c9,stm_at c9,stm_upd,ld_same,cel_same,over]
   refine eqSess_ok _ _ (sx.ext (@SessR.ext) (F1.trans e39)) (xs'.ext (@SessR.ext) (F1.trans e39)) (hsn _ (List.getElem_mem hib)) ?_
   by_cases hs:a[i].2.ss=(entOf b a[i].1).ss
   ·have he:a[i].2=entOf b a[i].1:=by
     cases h1:a[i].2; cases h2:entOf b a[i].1
     rw[h1,h2] at hs ht; simp_all
    simp -implicitDefEqProofs[hs]
    refine⟨by rw[hol9,hol],by rw[hob9,hob],e39,c59,fun z hz=>?_⟩
    rw[List.take_succ_eq_append_getElem hib] at hz
    rcases List.mem_append.1 hz with hz | hz
    ·exact J.2.2 z hz
    ·rw[List.mem_singleton.1 hz]; exact he
   ·simp -implicitDefEqProofs[hs,s4,ld_at c59,cel_of c59,stm_at c59,stm_upd,ld_same,cel_same,over]
    exact bad (fun e=>hs (by rw[e])) _ (Ext.refl _)
  ·simp -implicitDefEqProofs[ht,s4,ld_at c59,cel_of c59,stm_at c59,stm_upd,ld_same,cel_same,over]
   exact bad (fun e=>ht (by rw[e])) _ (Ext.refl _)
 ·intro l b' h' hl' hne hb' hd J
  rw[hlx] at J
  have hsa:a=b:=hbe.2 fun z hz=>J.2.2 z (by rw[List.take_of_length_le (Nat.le_refl _)]; exact hz)
  have nb5:v5≠b':=fun hh=>by subst hh; rw[hb'] at c5; cases c5
  have cv:=J.2.1
  simp -implicitDefEqProofs only[blkM_n,thenM_n]
  simp -implicitDefEqProofs[ld_at cv,cel_of cv,stm_at cv,stm_upd,ld_same,cel_same,over,hd,ld_skip nb5,cel_skip nb5,tgBool4,upd_ne (Ne.symm nb5)]
  refine kb (hk _ (ext_upd (o:=.deferred none) (fresh_of e0B hb') (ext_upd (o:=.cells #[.bool true] qdQZ (0,0)) n5' (ext_wo e0B (by simpa using n5') J.1)))) (by simp[hsa])
 ·rintro l b' h' hl' hne hb' hd ⟨-,J⟩
  have nb5:v5≠b':=fun hh=>by subst hh; rw[hb'] at c5; cases c5
  have cv:=J.2.1
  simp -implicitDefEqProofs[ld_at cv,cel_of cv,stm_at cv,stm_upd,ld_same,cel_same,over,hd,ld_skip nb5,cel_skip nb5,tgBool4]
  refine kb (hk _ (ext_upd (o:=.deferred none) (fresh_of e0B hb') (ext_wo e0B (by simpa using n5') J.1))) (by rw[decide_eq_false (fun e=>J.2.2 (hbe.1 e))])
 ·rintro id l b' h' hl' hne hb' hd ⟨h,-⟩
  cases h
set_option maxHeartbeats 1000000 in
theorem hquiet_ok {T:Tags}{h:Heap}{g:Tag}{p s m:Nat}{H:Hall}(w:Wf T h)(x:HallR T h g p H)(hs:HS m H)(hm:m≤100000)(hlt:s<H.n)(hk:∀ h',Ext h h'→K (.bool (H.quiet s)) h'):callM P qgpZ #[ptr p,.int .i64 s] h K:=by
 apply qvaZ
 unfold qliZ
 obtain⟨sv,av,Y,x⟩:=x
 have cp:=x.hp
 simp -implicitDefEqProofs only[hallC] at cp
 obtain⟨b,ob,rb,hb1,tb,ia,l1,l2,l3,l4,l5,l6⟩:=x.lds (s:=s) (k:=.i64) hlt
 have hsr:=x.sr s hlt
 have st:=hs.st s hlt
 have u1:=hsr.1.1.one
 have u2:=hsr.1.2.1.one
 have u3:=hsr.2.1.1.one
 have u4:=hsr.2.1.2.1.one
 simp -implicitDefEqProofs[ld_at cp,cel_of cp,stm_at cp,stm_upd,ld_same,cel_same,over]
 rw[ia,zcStripe]
 simp -implicitDefEqProofs only[strC] at l6
 simp -implicitDefEqProofs only[ov_s,l6]
 refine nw_st (by simp) (by simp) (by simp[u1.1,u2.1,u3.1,u4.1]) fun yb h2 n2 e2 c2=>?_
 simp -implicitDefEqProofs only[cells_agg] at c2
 simp -implicitDefEqProofs[ld_at c2,cel_of c2,stm_at c2,stm_upd,ld_same,cel_same,over]
 refine writing_ok _ _ st.wr.1 fun h3 e3=>?_
 have c3:=e3 _ _ c2
 have e0:=e2.trans e3
 unfold qpXZ
 cases hw:wrt (H.ss s).v with
 | true =>
  simp -implicitDefEqProofs
  refine kb (hk _ e0) (by simp[Hall.quiet,hw])
 | false =>
  simp -implicitDefEqProofs[ld_at c3,cel_of c3,stm_at c3,stm_upd,ld_same,cel_same,over]
  refine same_ok _ _ st.sn.bw.so st.bk.bw.so (by have:=st.sn.bl; omega) (by have:=st.bk.bl; omega) (fun y hy=>by have:=st.sn.bn y hy; omega) ((fz_ext T h).trans e0) hsr.1 hsr.2.1 fun h4 e4=>?_
  refine kb (hk _ (e0.trans e4)) (by simp[Hall.quiet,hw])
end Go.Proofs.YtmbningljbcpkaaGreat
namespace Go.Proofs.YtmbningljbcpkaaGreat
open Go Go.Den Go.MapKept
set_option linter.unusedSimpArgs false
set_option linter.unusedVariables false
set_option maxRecDepth 20000
theorem g3:Gd [3]:=⟨2,[],rfl⟩
end Go.Proofs.YtmbningljbcpkaaGreat
namespace Go.Proofs.YtmbningljbcpkaaGreat
open Go Go.Den Go.MapKept
set_option linter.unusedSimpArgs false
set_option linter.unusedVariables false
set_option maxRecDepth 20000
theorem evNe (p q:Evt){x y:Operand}{K:Value→Prop}:pvM P (do eqGuard .neq qsZ x y (.agg (evC p).toArray) (.agg (evC q).toArray); binOp .neq qsZ (.agg (evC p).toArray) (.agg (evC q).toArray)) K=K (.bool (!decide (p=q))):=by
 simp -implicitDefEqProofs only[evC,presC,List.cons_append,List.nil_append]
 rw[pv_neq (d:=5) (b:=(p.user.toList == q.user.toList) && (((p.old.st == q.old.st) && ((p.old.pr == q.old.pr) && ((p.old.lv == q.old.lv) && true))) && (((p.new.st == q.new.st) && ((p.new.pr == q.new.pr) && ((p.new.lv == q.new.lv) && true))) && ((p.seq == q.seq) && true)))) (by kernel_rfl) (by omega) (by kernel_rfl)]
 have:((p.user.toList == q.user.toList) && (((p.old.st == q.old.st) && ((p.old.pr == q.old.pr) && ((p.old.lv == q.old.lv) && true))) && (((p.new.st == q.new.st) && ((p.new.pr == q.new.pr) && ((p.new.lv == q.new.lv) && true))) && ((p.seq == q.seq) && true))))=decide (p=q):=by
  rw[str_beq,Bool.eq_iff_iff]
  obtain⟨u,⟨a,b,c⟩,⟨d,e,f⟩,s⟩:=p
  obtain⟨u',⟨a',b',c'⟩,⟨d',e',f'⟩,s'⟩:=q
  simp -implicitDefEqProofs[and_assoc]
 rw[this]
theorem ev_ld {F:Heap}{v:Value}{l:List Evt}(x:Sl 8 EvR F v l){i:Nat}(hi:i<l.length){k:IntKind}:∃ b p,iaV (some (none,8)) v (.int k i)=some (.pointer (some ⟨b,p,none⟩))∧∀ h',Ext F h'→cels h' b p 8=some (evC l[i]):=by
 obtain⟨b,p,c,h1,h2,h3⟩:=x.at (k:=k) (i:=i) (by omega) (by omega)
 refine⟨b,p,h1,fun h' e=>?_⟩
 have hc:c=evC l[i]:=h3
 subst hc
 exact cels_ext e h2
variable {K:KTy}
set_option maxHeartbeats 1000000 in
theorem evSame_ok (xs ys : List Evt) {h : Heap} {v u : Value} (x : Sl 8 EvR h v xs) (y : Sl 8 EvR h u ys) (hl : xs.length < 1000000) (hk : K (.bool (decide (xs = ys))) h) : callM P qirZ #[v, u] h K := by
  apply qumZ
  unfold qjEZ
  have lx := x.len
  have ly := y.len
  by_cases hlen : xs.length = ys.length
  rotate_left
  · have hne : xs ≠ ys := fun e => hlen (by rw [e])
    have hi : ¬ (xs.length : Int) = ys.length := by omega
    simp -implicitDefEqProofs [lx, ly, hi]
    rw [decide_eq_false hne] at hk; exact hk
  · have hi : (xs.length : Int) = ys.length := by omega
    simp -implicitDefEqProofs [lx, ly, hi]
    unfold qovZ
    rw [seqM_eq]
    unfold qouZ
    refine loop_on [0, 1, 4] (fun s h' => h' = h ∧ ∃ i : Nat, i ≤ xs.length ∧ s 5 = .int .i64 i ∧ xs.take i = ys.take i) (fun s _ => (xs.length - num (s 5)).toNat) ⟨rfl, 0, by omega, rfl, by simp⟩ ?_
    rintro s h1 hf ⟨rfl, i, hi, s5, hT⟩
    have s0 : s 0 = v := by simpa using hf 0 (by simp)
    have s1 : s 1 = u := by simpa using hf 1 (by simp)
    have s4 : s 4 = .bool false := by simpa using hf 4 (by simp)
    unfold qotZ
    simp -implicitDefEqProofs only [s5, s0, lx, bin_lss, ov_s, cd_b]
    refine ⟨fun hc => ?_, fun hc => ?_⟩
    · have hlt : i < xs.length := by have : ((i : Int) < xs.length) := by simpa using hc
                                     omega
      have hly : i < ys.length := by omega
      have hw : IntKind.i64.wrap ((i : Int) + 1) = (i + 1 : Nat) := by rw [wrap64_id (by omega) (by omega)]; omega
      obtain ⟨b, p, i1, i2⟩ := ev_ld x (k := .i64) hlt
      obtain ⟨b', p', j1, j2⟩ := ev_ld y (k := .i64) hly
      unfold qosZ
      simp -implicitDefEqProofs only [s0, s1, s5, i1, j1, ov_s, ldV_n (i2 _ (Ext.refl _)), ldV_n (j2 _ (Ext.refl _)), evNe, cd_b]
      refine ⟨fun hd => ?_, fun hd => ?_⟩
      · have hne : xs[i] ≠ ys[i] := by simpa using hd
        have hne' : xs ≠ ys := fun e => hne (by subst e; rfl)
        unfold qoqZ
        simp -implicitDefEqProofs [s4]
        rw [decide_eq_false hne'] at hk; exact hk
      · have he : xs[i] = ys[i] := by simpa using hd
        unfold qorZ
        simp -implicitDefEqProofs [s0, s1, s4, s5, hw, -Int.natCast_add]
        exact ⟨⟨i + 1, by omega, rfl, take_eq_succ hT hlt hly he⟩, by omega⟩
    · have : i = xs.length := by have : ¬ ((i : Int) < xs.length) := by simpa using hc
                                 omega
      subst this
      have he : xs = ys := by
        rw [List.take_of_length_le (Nat.le_refl _), List.take_of_length_le (by omega)] at hT; exact hT
      simp -implicitDefEqProofs
      rw [decide_eq_true he] at hk; exact hk
deriving instance DecidableEq for Reply
end Go.Proofs.YtmbningljbcpkaaGreat
namespace Go.Proofs.YtmbningljbcpkaaGreat
open Go Go.Den Go.MapKept
set_option linter.unusedSimpArgs false
set_option linter.unusedVariables false
set_option maxRecDepth 20000
def UsrR (h:Heap)(c:List Value)(x:ByteArray × Ent):Prop:=∃ v,c = .string x.1::v::presC x.2.told∧Sl 4 SessR h v x.2.ss
theorem UsrR.ext {h h':Heap}{c:List Value}{x:ByteArray × Ent}(e:Ext h h')(r:UsrR h c x):UsrR h' c x:=let ⟨v,h1,h2⟩:=r; ⟨v,h1,h2.ext (@SessR.ext) e⟩
theorem unSlUsr:P.underlying qiZ=some (.slice qkZ):=by kernel_rfl
theorem apUsr:apC P qkZ=some (5,64,5):=by kernel_rfl
theorem bsUsr:bsI P qiZ=some (qkZ,5,#[.string ⟨#[]⟩,.slice none 0 0,.int .i64 0,.int .i64 0,.int .i64 0]):=by kernel_rfl
theorem zcSlUsr:zc P qiZ=some #[.slice none 0 0]:=by kernel_rfl
theorem bdUsr (k:ByteArray)(b:Option Addr)(n c:Nat)(p q r:Int):bdV (binf P qkZ) [(0,.string k),(1,.slice b n c),(2,.agg #[.int .i64 p,.int .i64 q,.int .i64 r])]=some (.agg #[.string k,.slice b n c,.int .i64 p,.int .i64 q,.int .i64 r]):=by kernel_rfl
theorem Sl.slice' {α:Type}{sz:Nat}{R:Heap→List Value→α→Prop}{h:Heap}{v:Value}{xs:List α}(x:Sl sz R h v xs):∃ b n c,v = .slice b n c:=by
 rcases x with ⟨_,a,c,rfl⟩ | ⟨b,o,cap,rfl,_⟩
 ·exact⟨_,_,_,rfl⟩
 ·exact⟨_,_,_,rfl⟩
theorem usersc_ok (k:ByteArray)(e:Ent){hA h:Heap}{bl n:Nat}{out:Value}{xs:List Value}(hb:hA bl=none)(cl:h bl=some (.cells #[out] qiZ (0,0)))(r:Rf 5 qkZ hA h out n xs)(hne:rowOf out≠some bl)(hn:n<1000000)
  {F:Heap} {sv:Value} (hs:Sl 4 SessR F sv e.ss) {K:KTy}
  (hk:∀ h' out',h' bl=some (.cells #[out'] qiZ (0,0))→Rf 5 qkZ hA h' out' (n+1) (xs++(.string k::sv::presC e.told))→rowOf out'≠some bl→K (.bool true) h') :
  callM P qaJZ #[.string k,.agg (sv::presC e.told).toArray,ptr bl] h K:=by
 obtain⟨sb,sn,sc,rfl⟩:=Sl.slice' hs
 apply qsGZ
 unfold qgmZ
 refine nw_agg fun v1 h1 n1 e1 c1=>?_
 simp -implicitDefEqProofs only[presC] at c1
 have cl1:=e1 _ _ cl
 simp -implicitDefEqProofs[ld_at c1,cel_of c1,stm_at c1,ld_at cl1,cel_of cl1,stm_at cl1,stm_upd,ld_same,cel_same,over,bdUsr]
 refine bs_one bsUsr rfl (by omega) fun b2 h2 n2 e2 c2=>?_
 have cl2:=e2 _ _ cl1
 have r2:=r.ext (e1.trans e2)
 refine Rf.app2 (m:=1) unSlUsr apUsr (by omega) r2 (.inr ⟨b2,0,1,rfl,cels_one c2 rfl⟩) (by simp) (by unfold maxLen; omega) (by omega) fun v' h3 r3 hkp hrow=>?_
 have cl3:=hkp _ _ cl2 hne
 have hne3:rowOf v'≠some bl:=fun hh=>by
  rcases hrow with h | ⟨b,h,hn⟩
  ·rw[h] at hh; exact hne hh
  ·rw[h] at hh; cases hh; rw[cl2] at hn; cases hn
 have ro:=r3.row.one
 rw[stm_at (n:=1) (v:=v') cl3 (by rw[ro.2]; rfl) (by simp) (by simp[ro.2,ro.1])]
 have ov:over (#[out]:Array Value) 0 v'.cells.toList=#[v']:=by rw[ro.2]; rfl
 rw[ov]
 refine hk _ v' (upd_same' _ _ _) ?_ hne3
 exact r3.skip hb hne3
variable {K:KTy}
theorem users08_ok (b:Book)(hl:b.length≤100000){T:Tags}{h:Heap}{kw vw:Value}(w:Wf T h)(xb:BookR (fz T h) kw vw b)(hk:∀ v h',Ext h h'→Sl 5 UsrR (fz T h') v b→K v h'):callM P qhcZ #[.agg #[kw,vw]] h K:=by
 apply qtIZ
 unfold qiCZ
 have k1:=xb.1.one
 have k2:=xb.2.1.one
 refine nw_agg fun v1 h1 n1 e1 c1=>?_
 rw[zcSlUsr]
 refine nw_intro fun bl h2 n2 e2 c2=>?_
 have c1:=e2 _ _ c1
 simp -implicitDefEqProofs[ld_at c1,cel_of c1,stm_at c1,stm_upd,ld_same,cel_same,over]
 have e02:=e1.trans e2
 refine all_ok b ((fz_ext T h).trans e02) xb fun p h3 n3 e3 c3=>?_
 have e03:=e02.trans e3
 have c2':=e3 _ _ c2
 have nbl:h bl=none:=fresh_of e1 n2
 unfold qmLZ
 simp -implicitDefEqProofs
 refine nx_fn good (by kernel_rfl) ?_
 obtain⟨T0,hT0⟩:∃ T0:Tags,T0=tset (fun _=>[]) bl lc:=⟨_,rfl⟩
 have w0:Wf T0 h3:=fun j hj=>by
  have:j≠bl:=fun e=>by subst e; rw[c2'] at hj; cases hj
  rw[hT0,tset_ne this]
 have f0:∀ j o,j≠bl→h3 j=some o→fz T0 h3 j=some o:=fun j o hj ho=>fz_at ho (by rw[hT0,tset_ne hj])
 have fbl:fz T0 h3 bl=none:=by
  unfold fz
  rw[hT0,tset_same,if_neg (by simp[lc])]
 have eA:Ext h (fz T0 h3):=fun j o ho=>f0 j o (fun e=>by subst e; rw[nbl] at ho; cases ho) (e03 _ _ ho)
 have xA:BookR (fz T0 h3) kw vw b:=xb.ext ((fz_ext T h).trans eA)
 have npl:p≠bl:=fun e=>by subst e; rw[c2] at n3; cases n3
 obtain⟨Lv,l1,l2⟩:=xb.2.1.els EntR.one
 simp -implicitDefEqProofs only[List.length_map] at l1
 have hlx:(allX b Lv).length=b.length:=by simp[allX]
 refine all_it b (hA:=fz T0 h3) (p:=p) (kw:=kw) (vw:=vw) (Lv:=Lv) (f0 _ _ npl c3) xA (l1.ext ((fz_ext T h).trans eA)) l2.size (by simpa using l2.len) (.func (.func qaJZ) #[] #[ptr bl])
  (fun i h'=>∃ out L,h' bl=some (.cells #[out] qiZ (0,0))∧Rf 5 qkZ (fz T0 h3) h' out i (List.flatten L)∧rowOf out≠some bl∧El 5 UsrR (fz T h) L (b.take i)) (fun _=>False) h3 _ ?_ ?_ ?_ ?_ ?_ (fun _ _ h=>h.elim)
 ·rintro i h' ⟨out,L,c,r,ne,el⟩
  exact r.ex
 ·rintro i h' h'' ⟨out,L,c,r,ne,el⟩ e
  exact⟨out,L,e _ _ c,r.ext e,ne,el⟩
 ·exact⟨.slice none 0 0,[],c2',Rf.nil (fz_ext _ _),by simp[rowOf],by simpa using El.nil⟩
 ·rintro i hi h' K' ⟨out,L,c,r,ne,el⟩ hK' -
  obtain⟨hib,sv,hx,hsv,hsn⟩:=allX_at l2 hi
  rw[hx]
  refine nx_fn good (by kernel_rfl) ?_
  show callM P qaJZ #[.string b[i].1,.agg (sv::presC b[i].2.told).toArray,ptr bl] h' K'
  refine usersc_ok b[i].1 b[i].2 fbl c r ne (by omega) hsv fun h'' out' c' r' ne'=>hK' _ ⟨out',L++[.string b[i].1::sv::presC b[i].2.told],c',?_,ne',?_⟩
  ·rw[List.flatten_append]; simpa using r'
  ·rw[List.take_succ_eq_append_getElem hib]
   exact el.app (El.sing (by simp[presC]) (by simp[presC,hsv.one.1]) ⟨sv,rfl,hsv⟩)
 ·rintro v h' ⟨out,L,c,r,ne,el⟩
  rw[hlx] at r el
  rw[List.take_of_length_le (Nat.le_refl _)] at el
  have e0:Ext h h':=eA.trans r.ex
  have wA:Wf T (fz T0 h3):=fun j hj=>by
   by_cases hjb:j=bl
   ·subst hjb; exact w _ nbl
   ·cases hh:h j with
    | none=>exact w j hh
    | some o=>rw[f0 j o hjb (e03 _ _ hh)] at hj; cases hj
  have cc:cel h' bl 0=some out:=by simp[cel_of c]
  simp -implicitDefEqProofs[cc]
  exact hk out h' e0 (r.sl wA rfl (el.ext (@UsrR.ext) (fz_of_ext e0)))
theorem sessSame_ok (xs ys : List Sess) {h : Heap} {v u : Value} (x : Sl 4 SessR h v xs) (y : Sl 4 SessR h u ys) (hl : xs.length < 1000000) (hk : K (.bool (decide (xs = ys))) h) : callM P qisZ #[v, u] h K := by
  apply qunZ
  unfold qjFZ
  have lx := x.len
  have ly := y.len
  by_cases hlen : xs.length = ys.length
  rotate_left
  · have hne : xs ≠ ys := fun e => hlen (by rw [e])
    have hi : ¬ (xs.length : Int) = ys.length := by omega
    simp -implicitDefEqProofs [lx, ly, hi]
    rw [decide_eq_false hne] at hk; exact hk
  · have hi : (xs.length : Int) = ys.length := by omega
    simp -implicitDefEqProofs [lx, ly, hi]
    unfold qoBZ
    rw [seqM_eq]
    unfold qoAZ
    refine loop_on [0, 1, 4] (fun s h' => h' = h ∧ ∃ i : Nat, i ≤ xs.length ∧ s 5 = .int .i64 i ∧ xs.take i = ys.take i) (fun s _ => (xs.length - num (s 5)).toNat) ⟨rfl, 0, by omega, rfl, by simp⟩ ?_
    rintro s h1 hf ⟨rfl, i, hi, s5, hT⟩
    have s0 : s 0 = v := by simpa using hf 0 (by simp)
    have s1 : s 1 = u := by simpa using hf 1 (by simp)
    have s4 : s 4 = .bool false := by simpa using hf 4 (by simp)
    unfold qozZ
    simp -implicitDefEqProofs only [s5, s0, lx, bin_lss, ov_s, cd_b]
    refine ⟨fun hc => ?_, fun hc => ?_⟩
    · have hlt : i < xs.length := by have : ((i : Int) < xs.length) := by simpa using hc
                                     omega
      have hly : i < ys.length := by omega
      have hw : IntKind.i64.wrap ((i : Int) + 1) = (i + 1 : Nat) := by rw [wrap64_id (by omega) (by omega)]; omega
      obtain ⟨b, p, i1, i2⟩ := sess_ld x (k := .i64) hlt
      obtain ⟨b', p', j1, j2⟩ := sess_ld y (k := .i64) hly
      unfold qoyZ
      simp -implicitDefEqProofs only [s0, s1, s5, i1, j1, ov_s, ldV_n (i2 _ (Ext.refl _)), ldV_n (j2 _ (Ext.refl _)), sessNe, cd_b]
      refine ⟨fun hd => ?_, fun hd => ?_⟩
      · have hne : xs[i] ≠ ys[i] := by simpa using hd
        have hne' : xs ≠ ys := fun e => hne (by subst e; rfl)
        unfold qowZ
        simp -implicitDefEqProofs [s4]
        rw [decide_eq_false hne'] at hk; exact hk
      · have he : xs[i] = ys[i] := by simpa using hd
        unfold qoxZ
        simp -implicitDefEqProofs [s0, s1, s4, s5, hw, -Int.natCast_add]
        exact ⟨⟨i + 1, by omega, rfl, take_eq_succ hT hlt hly he⟩, by omega⟩
    · have : i = xs.length := by have : ¬ ((i : Int) < xs.length) := by simpa using hc
                                 omega
      subst this
      have he : xs = ys := by
        rw [List.take_of_length_le (Nat.le_refl _), List.take_of_length_le (by omega)] at hT; exact hT
      simp -implicitDefEqProofs
      rw [decide_eq_true he] at hk; exact hk
theorem usr_ld {F:Heap}{v:Value}{l:Book}(x:Sl 5 UsrR F v l){i:Nat}(hi:i<l.length):∃ b p sv,iaV (some (none,5)) v (.int .i64 i)=some (.pointer (some ⟨b,p,none⟩))∧(∀ h',Ext F h'→cel h' b p=some (.string l[i].1)∧cel h' b (p+1)=some sv∧ldV (some (some 3)) (.pointer (some ⟨b,p+2,none⟩)) h'=some (.agg (presC l[i].2.told).toArray))∧Sl 4 SessR F sv l[i].2.ss:=by
 obtain⟨b,p,c,h1,h2,h3⟩:=x.at (k:=.i64) (i:=i) (by omega) (by omega)
 simp -implicitDefEqProofs only[Int.toNat_natCast] at h3
 obtain⟨sv,rfl,hs⟩:=h3
 refine⟨b,p,sv,h1,fun h' e=>?_,hs⟩
 have hc:=cels_ext e h2
 have g:=(cels_get hc).2
 refine⟨g 0 (by simp[presC]),g 1 (by simp[presC]),?_⟩
 have:=cels_sub hc (j:=2) (m:=3) (by omega)
 rw[ldV_n (l:=presC l[i].2.told) (by simpa [presC] using this)]
set_option maxHeartbeats 2000000 in
theorem usrSame_ok (xs ys : Book) {h : Heap} {v u : Value} (x : Sl 5 UsrR h v xs) (y : Sl 5 UsrR h u ys) (hl : xs.length < 1000000) (hs : ∀ z ∈ xs, z.2.ss.length < 1000000) (hk : K (.bool (decide (xs = ys))) h) : callM P qipZ #[v, u] h K := by
  apply qukZ
  unfold qjAZ
  have lx := x.len
  have ly := y.len
  by_cases hlen : xs.length = ys.length
  rotate_left
  · have hne : xs ≠ ys := fun e => hlen (by rw [e])
    have hi : ¬ (xs.length : Int) = ys.length := by omega
    simp -implicitDefEqProofs [lx, ly, hi]
    rw [decide_eq_false hne] at hk; exact hk
  · have hi : (xs.length : Int) = ys.length := by omega
    simp -implicitDefEqProofs [lx, ly, hi]
    unfold qolZ
    rw [seqM_eq]
    unfold qokZ
    refine loop_on [0, 1, 4] (fun s h' => h' = h ∧ ∃ i : Nat, i ≤ xs.length ∧ s 5 = .int .i64 i ∧ xs.take i = ys.take i) (fun s _ => (xs.length - num (s 5)).toNat) ⟨rfl, 0, by omega, rfl, by simp⟩ ?_
    rintro s h1 hf ⟨rfl, i, hi, s5, hT⟩
    have s0 : s 0 = v := by simpa using hf 0 (by simp)
    have s1 : s 1 = u := by simpa using hf 1 (by simp)
    have s4 : s 4 = .bool false := by simpa using hf 4 (by simp)
    unfold qojZ
    simp -implicitDefEqProofs only [s5, s0, lx, bin_lss, ov_s, cd_b]
    refine ⟨fun hc => ?_, fun hc => ?_⟩
    · have hlt : i < xs.length := by have : ((i : Int) < xs.length) := by simpa using hc
                                     omega
      have hly : i < ys.length := by omega
      have hw : IntKind.i64.wrap ((i : Int) + 1) = (i + 1 : Nat) := by rw [wrap64_id (by omega) (by omega)]; omega
      obtain ⟨b, p, sv, i1, i2, i3⟩ := usr_ld x hlt
      obtain ⟨b', p', sv', j1, j2, j3⟩ := usr_ld y hly
      obtain ⟨p1, p2, p3⟩ := i2 _ (Ext.refl _)
      obtain ⟨q1, q2, q3⟩ := j2 _ (Ext.refl _)
      have hss := hs _ (List.getElem_mem hlt)
      have fin : xs[i] ≠ ys[i] → K (.bool false) h1 := fun hne => by
        have hne' : xs ≠ ys := fun e => hne (by subst e; rfl)
        rw [decide_eq_false hne'] at hk; exact hk
      have hd : xs[i] = ys[i] ↔ xs[i].1 = ys[i].1 ∧ xs[i].2.told = ys[i].2.told ∧ xs[i].2.ss = ys[i].2.ss := by
        constructor
        · intro e; rw [e]; exact ⟨rfl, rfl, rfl⟩
        · rintro ⟨a1, a2, a3⟩
          have : xs[i].2 = ys[i].2 := by cases h1 : xs[i].2; cases h2 : ys[i].2; rw [h1, h2] at a2 a3; simp at a2 a3; rw [a2, a3]
          exact Prod.ext a1 this
      unfold qoiZ
      have bn : binV .neq 3 false (.string xs[i].1) (.string ys[i].1) = some (.bool (!decide (xs[i].1 = ys[i].1))) := bin_neqS _ _ _ _
      by_cases d1 : xs[i].1 = ys[i].1
      rotate_left
      · simp -implicitDefEqProofs [s0, s1, s5, i1, j1, p1, q1, bn, d1]
        unfold qdRZ
        simp -implicitDefEqProofs [s4]
        exact fin fun e => d1 (hd.1 e).1
      by_cases d2 : xs[i].2.told = ys[i].2.told
      rotate_left
      · have p3' : ldV (some (some 3)) (.pointer (some ⟨b, p + 2, none⟩)) h1 = some (.agg #[.int .i64 xs[i].2.told.st, .int .i64 xs[i].2.told.pr, .int .i64 xs[i].2.told.lv]) := p3
        have q3' : ldV (some (some 3)) (.pointer (some ⟨b', p' + 2, none⟩)) h1 = some (.agg #[.int .i64 ys[i].2.told.st, .int .i64 ys[i].2.told.pr, .int .i64 ys[i].2.told.lv]) := q3
        simp -implicitDefEqProofs [s0, s1, s5, i1, j1, p1, q1, bn, d1, p3', q3', presNe, d2]
        unfold qdRZ
        simp -implicitDefEqProofs [s4]
        exact fin fun e => d2 (hd.1 e).2.1
      have p3' : ldV (some (some 3)) (.pointer (some ⟨b, p + 2, none⟩)) h1 = some (.agg #[.int .i64 xs[i].2.told.st, .int .i64 xs[i].2.told.pr, .int .i64 xs[i].2.told.lv]) := p3
      have q3' : ldV (some (some 3)) (.pointer (some ⟨b', p' + 2, none⟩)) h1 = some (.agg #[.int .i64 ys[i].2.told.st, .int .i64 ys[i].2.told.pr, .int .i64 ys[i].2.told.lv]) := q3
      simp -implicitDefEqProofs [s0, s1, s5, i1, j1, p1, q1, p2, q2, bn, d1, p3', q3', presNe, d2]
      refine sessSame_ok _ _ i3 j3 hss ?_
      by_cases d3 : xs[i].2.ss = ys[i].2.ss
      · simp -implicitDefEqProofs [d3]
        unfold qohZ
        simp -implicitDefEqProofs [s0, s1, s4, s5, hw, -Int.natCast_add]
        exact ⟨⟨i + 1, by omega, rfl, take_eq_succ hT hlt hly (hd.2 ⟨d1, d2, d3⟩)⟩, by omega⟩
      · simp -implicitDefEqProofs [d3]
        unfold qdRZ
        simp -implicitDefEqProofs [s4]
        exact fin fun e => d3 (hd.1 e).2.2
    · have : i = xs.length := by have : ¬ ((i : Int) < xs.length) := by simpa using hc
                                 omega
      subst this
      have he : xs = ys := by
        rw [List.take_of_length_le (Nat.le_refl _), List.take_of_length_le (by omega)] at hT; exact hT
      simp -implicitDefEqProofs
      rw [decide_eq_true he] at hk; exact hk
end Go.Proofs.YtmbningljbcpkaaGreat
namespace Go.Den
open Go
set_option linter.unusedVariables false
set_option linter.unusedSimpArgs false
def insS:List Sess→Sess→List Sess
 | [],s=>[s]
 | x::r,s=>if s.id<x.id then s::x::r else x::insS r s
theorem ins_del {s:Sess}:∀ {l:List Sess},SrtI l→insS (delS l s.id) s=putS l s
 | [],_=>rfl
 | x::r,so=>by
  obtain⟨s1,s2⟩:=List.pairwise_cons.1 so
  have ih:=ins_del (s:=s) s2
  have hr:x.id ≥ s.id→delS r s.id=r:=fun h=>List.filter_eq_self.2 fun y hy=>by
   have:=s1 y hy
   have:¬ y.id=s.id:=by omega
   simp[this]
  simp only[putS]
  by_cases h1:x.id<s.id
  ·have e:delS (x::r) s.id=x::delS r s.id:=by
    have:¬ x.id=s.id:=by omega
    simp[delS,this]
   rw[if_pos h1,e,insS,if_neg (by omega),ih]
  rw[if_neg h1]
  by_cases h2:x.id=s.id
  ·have e:delS (x::r) s.id=r:=by
    have:=hr (by omega)
    unfold delS at this ⊢
    rw[List.filter_cons,if_neg (by simp[h2]),this]
   rw[if_pos h2,e]
   cases r with
   | nil=>rfl
   | cons y r' =>
    have:=s1 y (by simp)
    rw[insS,if_pos (by omega)]
  ·have e:delS (x::r) s.id=x::r:=by
    have:=hr (by omega)
    unfold delS at this ⊢
    rw[List.filter_cons,if_pos (by simp[h2]),this]
   rw[if_neg h2,e,insS,if_pos (by omega)]
theorem del_none {l:List Sess}{id:Int}(h:hasI l id=false):delS l id=l:=List.filter_eq_self.2 fun y hy=>by
 have:¬ y.id=id:=fun e=>by
  have:hasI l id=true:=hasI_iff.2 ⟨y,hy,e⟩
  rw[h] at this; cases this
 simp[this]
theorem clear_eq (l:List Sess)(id:Int):clearS l id=(delS l id,if hasI l id then 0 else 3):=by
 unfold clearS
 cases h:hasI l id with
 | true=>simp
 | false=>simp[del_none h]
def beat1 (id un:Int)(s:Sess):Sess:=if s.id=id∧s.un<un then { s with un:=un } else s
theorem beat_eq (l:List Sess)(id un:Int):beatS l id un=if hasI l id then (l.map (beat1 id un),0) else (l,3):=by
 unfold beatS
 split
 ·congr 1
  refine List.map_congr_left fun s _=>?_
  unfold beat1
  by_cases h:s.id=id
  ·by_cases h2:s.un<un
   ·simp only[h,h2,and_self,if_true]
    congr 1; omega
   ·rw[if_pos h,if_neg (by omega)]
    have:max s.un un=s.un:=by omega
    rw[this]
  ·simp[h]
 ·rfl
def beatsI (l:List Sess)(k i:Nat):Prop:=∃ (hk:k<l.length) (hi:i<l.length),l[i].pr<l[k].pr∨(l[k].pr=l[i].pr∧(l[k].id<l[i].id∨(l[k].id=l[i].id∧k<i)))
def accL (l:List Sess):Sess × Nat:=l.foldl (fun x s=>(if x.2=0 || better s x.1 then s else x.1,x.2+1)) (⟨0,0,0,0⟩,0)
theorem accL_purge (l:List Sess)(now:Int):ofAcc l now=accL (purgeS l now):=by
 unfold ofAcc accL
 generalize ((⟨0,0,0,0⟩,0):Sess × Nat)=z
 induction l generalizing z with
 | nil=>rfl
 | cons s l ih =>
  rw[List.foldl_cons,ih]
  unfold purgeS
  rw[List.filter_cons]
  unfold ofStep
  cases h:late now s.un with
  | true=>simp[h]
  | false=>simp[h]
theorem accL_snoc (l:List Sess)(s:Sess):accL (l++[s])=(if (accL l).2=0 || better s (accL l).1 then s else (accL l).1,(accL l).2+1):=by simp[accL]
theorem snoc_ind {α:Type}{P:List α→Prop}(h0:P [])(h1:∀ l a,P l→P (l++[a])):∀ l,P l:=fun l=>by
 have:∀ m:List α,P m.reverse:=fun m=>by
  induction m with
  | nil=>exact h0
  | cons a m ih=>rw[List.reverse_cons]; exact h1 _ _ ih
 have h:=this l.reverse
 rwa [List.reverse_reverse] at h
theorem accL_spec (l:List Sess):(accL l).2=l.length∧(l≠[]→∃ i,∃ hi:i<l.length,l[i]=(accL l).1∧∀ k,¬ beatsI l k i):=by
 refine snoc_ind (P:=fun l=>(accL l).2=l.length∧(l≠[]→∃ i,∃ hi:i<l.length,l[i]=(accL l).1∧∀ k,¬ beatsI l k i)) ⟨rfl,fun h=>absurd rfl h⟩ (fun l s ih=>?_) l
 obtain⟨h1,h2⟩:=ih
 rw[accL_snoc]
 refine⟨by simp[h1],fun _=>?_⟩
 have hget:∀ k (hk:k<l.length),(l++[s])[k]'(by simp; omega)=l[k]:=fun k hk=>List.getElem_append_left hk
 have hlast:∀ (h:l.length<(l++[s]).length),(l++[s])[l.length]=s:=fun h=>by simp
 by_cases hl:l=[]
 ·subst hl
  refine⟨0,by simp,by simp[accL],fun k hk=>?_⟩
  obtain⟨a,b,c⟩:=hk
  have:k=0:=by simp at a; omega
  subst this
  simp at c
 obtain⟨i,hi,e,hb⟩:=h2 hl
 have hlen:¬ (accL l).2=0:=by
  rw[h1]; intro h; exact hl (List.length_eq_zero_iff.1 h)
 by_cases hbt:better s (accL l).1=true
 ·simp only[hbt,Bool.or_true,if_true]
  refine⟨l.length,by simp,hlast _,fun k hk=>?_⟩
  obtain⟨a,b,c⟩:=hk
  rw[hlast b] at c
  have ha:k≤l.length:=by simp at a; omega
  by_cases hkl:k=l.length
  ·subst hkl
   rw[hlast a] at c
   omega
  have hk':k<l.length:=by omega
  rw[hget k hk'] at c
  have hnb:¬ beatsI l k i:=hb k
  apply hnb
  refine⟨hk',hi,?_⟩
  rw[e]
  simp only[better,Bool.or_eq_true,Bool.and_eq_true,decide_eq_true_eq] at hbt
  omega
 ·have hbt':better s (accL l).1=false:=by simpa using hbt
  have hz:(decide ((accL l).2=0) || better s (accL l).1)=false:=by simp[hlen,hbt']
  rw[hz]
  refine⟨i,by simp; omega,by rw[hget i hi]; simpa using e,fun k hk=>?_⟩
  obtain⟨a,b,c⟩:=hk
  rw[hget i hi] at c
  have ha:k≤l.length:=by simp at a; omega
  by_cases hkl:k=l.length
  ·subst hkl
   rw[hlast a] at c
   rw[e] at c
   simp only[better,Bool.or_eq_false_iff,Bool.and_eq_false_iff,decide_eq_false_iff_not] at hbt'
   omega
  have hk':k<l.length:=by omega
  rw[hget k hk'] at c
  exact hb k ⟨hk',hi,c⟩
theorem pres_first {l:List Sess}{now:Int}{i:Nat}(hi:i<(purgeS l now).length)(hf:∀ k,¬ beatsI (purgeS l now) k i):presOf l now=⟨(purgeS l now)[i].st,(purgeS l now)[i].pr,(purgeS l now).length⟩:=by
 have hne:purgeS l now≠[]:=fun h=>by rw[h] at hi; simp at hi
 obtain⟨h1,h2⟩:=accL_spec (purgeS l now)
 obtain⟨j,hj,e,hb⟩:=h2 hne
 have hij:i=j:=by
  by_cases hc:i=j
  ·exact hc
  exfalso
  have n1:=hf j
  have n2:=hb i
  have n1:¬ ((purgeS l now)[i].pr<(purgeS l now)[j].pr∨((purgeS l now)[j].pr=(purgeS l now)[i].pr∧((purgeS l now)[j].id<(purgeS l now)[i].id∨((purgeS l now)[j].id=(purgeS l now)[i].id∧j<i)))):=fun h=>n1 ⟨hj,hi,h⟩
  have n2:¬ ((purgeS l now)[j].pr<(purgeS l now)[i].pr∨((purgeS l now)[i].pr=(purgeS l now)[j].pr∧((purgeS l now)[i].id<(purgeS l now)[j].id∨((purgeS l now)[i].id=(purgeS l now)[j].id∧i<j)))):=fun h=>n2 ⟨hi,hj,h⟩
  omega
 subst hij
 unfold presOf
 rw[accL_purge,← e,h1]
theorem pres_none {l:List Sess}{now:Int}(h:purgeS l now=[]):presOf l now=⟨0,0,0⟩:=by
 unfold presOf
 rw[accL_purge,h]; rfl
theorem pres_some {l:List Sess}{now:Int}(h:purgeS l now≠[]):∃ i,i<(purgeS l now).length∧∀ k,¬ beatsI (purgeS l now) k i:=by
 obtain⟨i,hi,_,hb⟩:=(accL_spec (purgeS l now)).2 h
 exact⟨i,hi,hb⟩
def becR (u:ByteArray)(e:Ent):Book→Bool→Book
 | [],put=>if put then [] else [(u,e)]
 | x::r,put=>(if !put && !ltS x.1 u then [(u,e)] else [])++((if x.1=u then [] else [x])++becR u e r (put || !ltS x.1 u))
theorem becR_put (u:ByteArray)(e:Ent):∀ b:Book,becR u e b true=delB b u
 | []=>rfl
 | x::r=>by
  unfold becR
  rw[Bool.true_or,becR_put u e r]
  unfold delB
  by_cases h:x.1=u
  ·simp[h]
  ·simp[h]
theorem becR_new (u:ByteArray)(e:Ent):∀ {b:Book},SrtK (keysL b)→becR u e b false=putB b u e
 | [],_=>rfl
 | (k,y)::r,so=>by
  obtain⟨s1,s2⟩:=List.pairwise_cons.1 so
  unfold becR
  simp only[putB]
  cases hk:ltS k u with
  | true =>
   have hne:¬ k=u:=fun e=>by rw[e,ltS_irrefl] at hk; cases hk
   simp[hk,hne,becR_new u e s2]
  | false =>
   have hn:u ∉ keysL r:=fun h=>by
    have:=s1 u h
    have:=ltS_asymm this
    by_cases hku:k=u
    ·subst hku
     have h2:=s1 k h
     rw[ltS_irrefl] at h2; cases h2
    ·rcases (ltS_total hk (by simpa using this)) with rfl
     exact hku rfl
   by_cases hku:k=u
   ·simp[hk,hku,becR_put,delB_none hn]
   ·simp[hk,hku,becR_put,delB_none hn]
theorem settle_eq {b:Book}(so:SrtK (keysL b))(u:ByteArray)(ss:List Sess)(now:Int):(settleB b u ss now).1=becR u ⟨ss,presOf ss now⟩ b (decide (ss=[])):=by
 unfold settleB
 by_cases h:ss=[]
 ·simp[h,becR_put]
 ·simp[h,becR_new _ _ so]
end Go.Den
namespace Go.Proofs.YtmbningljbcpkaaGreat
open Go Go.Den Go.MapKept
set_option linter.unusedSimpArgs false
set_option linter.unusedVariables false
set_option maxRecDepth 20000
theorem unSlSs:P.underlying qcZ=some (.slice qdZ):=by kernel_rfl
theorem apSs:apC P qdZ=some (4,32,4):=by kernel_rfl
theorem bsSs:bsI P qcZ=some (qdZ,4,#[.int .i64 0,.int .i64 0,.int .i64 0,.int .u64 0]):=by kernel_rfl
theorem purgeS_snoc (l:List Sess)(s:Sess)(now:Int):purgeS (l++[s]) now=if now<s.un then purgeS l now++[s] else purgeS l now:=by
 unfold purgeS
 rw[List.filter_append]
 by_cases h:now<s.un
 ·rw[if_pos h,List.filter_cons_of_pos (by simp[late]; omega)]; rfl
 ·rw[if_neg h,List.filter_cons_of_neg (by simp[late]; omega)]; simp
variable {K:KTy}
theorem rpurge_ok (l:List Sess)(now:Int){h:Heap}{v:Value}(x:Sl 4 SessR h v l)(hl:l.length<1000000)
  (hk:∀ h' v',Rf 4 qdZ h h' v' (purgeS l now).length ((purgeS l now).flatMap sessC)→K v' h'):callM P qbCZ #[v,.int .u64 now] h K:=by
 apply qtVZ
 unfold qiJZ
 have lx:=x.len
 rw[seqM_eq]
 unfold qnoZ
 refine loop_on [0,1] (fun s h'=>∃ i:Nat,i≤l.length∧s 6 = .int .i64 i∧Rf 4 qdZ h h' (s 5) (purgeS (l.take i) now).length ((purgeS (l.take i) now).flatMap sessC)) (fun s _=>(l.length-num (s 6)).toNat) ⟨0,by omega,by simp,by simpa [purgeS] using Rf.nil (Ext.refl _)⟩ ?_
 rintro s h1 hf ⟨i,hi,s6,r⟩
 have s0:s 0=v:=by simpa using hf 0 (by simp)
 have s1:s 1 = .int .u64 now:=by simpa using hf 1 (by simp)
 unfold qnnZ
 simp -implicitDefEqProofs[s0,s6,lx]
 refine⟨fun hc=>?_,fun hc=>?_⟩
 rotate_left
 ·have hie:i=l.length:=by omega
  subst hie
  rw[List.take_of_length_le (Nat.le_refl _)] at r
  exact hk _ _ r
 ·have hlt:i<l.length:=by omega
  have hw:IntKind.i64.wrap ((i:Int)+1)=(i+1:Nat):=by rw[wrap64_id (by omega) (by omega)]; omega
  obtain⟨b,p,i1,i2⟩:=sess_ld x hlt (k:=.i64)
  have i2:=i2 h1 r.ex
  have un:cel h1 b (p+3)=some (.int .u64 l[i].un):=(cels_get i2).2 3 (by simp[sessC])
  have ps:=purgeS_snoc (l.take i) l[i] now
  rw[← List.take_succ_eq_append_getElem hlt] at ps
  have hlen:(purgeS (l.take i) now).length≤l.length:=by unfold purgeS; have:=List.length_filter_le (fun s=>!late now s.un) (l.take i); simp at this ⊢; omega
  unfold qnmZ
  rw[seqM_eq]
  unfold qnlZ
  simp -implicitDefEqProofs[s0,s1,s6,i1,un]
  refine⟨fun hc2=>?_,fun hc2=>?_⟩
  ·rw[if_pos hc2] at ps
   unfold qnkZ
   simp -implicitDefEqProofs[s0,s6,i1,ldV_n i2]
   refine bs_one bsSs (by simp[sessC]) (by simp[sessC]) fun b2 h2 n2 e2 c2=>?_
   refine Rf.app2 (m:=1) (news:=sessC l[i]) unSlSs apSs (by omega) (r.ext e2) (.inr ⟨b2,0,1,rfl,cels_one c2 (by simp[sessC])⟩) (by simp[sessC]) (by unfold maxLen; omega) (by omega) fun v' h3 r3 hkp hrow=>?_
   unfold qnjZ
   simp -implicitDefEqProofs[s0,s1,s6,hw,-Int.natCast_add]
   refine⟨⟨i+1,by omega,rfl,?_⟩,by omega⟩
   rw[ps]
   simpa using r3
  ·rw[if_neg (by omega)] at ps
   simp -implicitDefEqProofs[s0,s1,s6,hw,-Int.natCast_add]
   exact⟨⟨i+1,by omega,rfl,by rw[ps]; exact r⟩,by omega⟩
theorem bdPres0:bdV (binf P qnZ) []=some (.agg #[.int .i64 0,.int .i64 0,.int .i64 0]):=by kernel_rfl
theorem bdPres (a b c:Int):bdV (binf P qnZ) [(0,.int .i64 a),(1,.int .i64 b),(2,.int .i64 c)]=some (.agg #[.int .i64 a,.int .i64 b,.int .i64 c]):=by kernel_rfl
theorem beats_iff {l:List Sess}{k i:Nat}(hk:k<l.length)(hi:i<l.length):beatsI l k i↔(l[i].pr<l[k].pr∨(l[k].pr=l[i].pr∧(l[k].id<l[i].id∨(l[k].id=l[i].id∧k<i)))) :=
 ⟨fun ⟨_,_,h⟩=>h,fun h=>⟨hk,hi,h⟩⟩
def OfI (L:List Sess)(i k:Nat)(v:Value):Prop:=∃ f:Bool,v = .bool f∧(f=true→∀ j,j<k→¬ beatsI L j i)∧(f=false→∃ j,beatsI L j i)
set_option maxHeartbeats 4000000 in
theorem rof_ok (l:List Sess)(now:Int){h:Heap}{v:Value}(x:Sl 4 SessR h v l)(hl:l.length<1000000)
  (hk:∀ h',Ext h h'→K (.agg (presC (presOf l now)).toArray) h'):callM P qknZ #[v,.int .u64 now] h K:=by
 apply qvpZ
 unfold qlxZ
 rw[zcPres]
 refine nw_agg fun v1 h1 n1 e1 c1=>?_
 refine rpurge_ok l now (x.ext (@SessR.ext) e1) hl fun h4 v3 r4=>?_
 have c1:=r4.ex _ _ c1
 have e4:=e1.trans r4.ex
 obtain⟨L,hL⟩:∃ L,purgeS l now=L:=⟨_,rfl⟩
 rw[hL] at r4
 have y:=rf_sess r4
 have ly:=y.len
 have hle:L.length≤l.length:=by rw[← hL]; unfold purgeS; exact List.length_filter_le _ _
 unfold qqOZ
 rw[seqM_eq]
 unfold qqNZ
 refine loop_on [4,5] (fun s h'=>h'=h4∧∃ i:Nat,i≤L.length∧s 6 = .int .i64 i∧∀ j,j<i→∃ k,beatsI L k j) (fun s _=>(L.length-num (s 6)).toNat) ⟨rfl,0,by omega,by simp,fun j hj=>by omega⟩ ?_
 rintro s h5 hf ⟨rfl,i,hi,s6,hb⟩
 have s4:s 4=ptr v1:=by simpa using hf 4 (by simp)
 have s5:s 5=v3:=by simpa using hf 5 (by simp)
 unfold qqMZ
 simp -implicitDefEqProofs[s5,s6,ly]
 refine⟨fun hc=>?_,fun hc=>?_⟩
 rotate_left
 ·have hie:i=L.length:=by omega
  have hnil:purgeS l now=[]:=by
   by_cases hne:purgeS l now=[]
   ·exact hne
   ·obtain⟨j,h1,h2⟩:=pres_some hne
    rw[hL] at h1 h2
    obtain⟨k,hk⟩:=hb j (by omega)
    exact absurd hk (h2 k)
  rw[pres_none hnil] at hk
  have tg:tagg P qnZ=some (some 3):=by kernel_rfl
  simp -implicitDefEqProofs[s4,bdPres0,ld_at c1,cel_of c1,stm_at c1,stm_upd,ld_same,cel_same,over,tg]
  exact hk _ (ext_upd n1 e4)
 ·have hlt:i<L.length:=by omega
  have hw:IntKind.i64.wrap ((i:Int)+1)=(i+1:Nat):=by rw[wrap64_id (by omega) (by omega)]; omega
  obtain⟨bi,pi,i1,i2⟩:=sess_ld y hlt (k:=.i64)
  have i2:=(cels_get (i2 _ (Ext.refl _))).2
  have i20:cel h5 bi pi=some (.int .i64 L[i].id):=i2 0 (by simp[sessC])
  have i21:cel h5 bi (pi+1)=some (.int .i64 L[i].st):=i2 1 (by simp[sessC])
  have i22:cel h5 bi (pi+2)=some (.int .i64 L[i].pr):=i2 2 (by simp[sessC])
  unfold qqLZ
  rw[seqM_eq]
  unfold qqKZ
  rw[seqM_eq]
  unfold qqJZ
  refine loop_on [4,5,6] (fun r h'=>h'=h5∧∃ k:Nat,k≤L.length∧r 8 = .int .i64 k∧OfI L i k (r 7)) (fun r _=>(L.length-num (r 8)).toNat) ⟨rfl,0,by omega,by simp,true,by simp,fun _ j hj=>by omega,fun h=>by cases h⟩ ?_
  rintro r h6 hf6 ⟨rfl,k,hk',r8,f,r7,ft,ff⟩
  have r4':r 4=ptr v1:=by simpa [s4] using hf6 4 (by simp)
  have r5:r 5=v3:=by simpa [s5] using hf6 5 (by simp)
  have r6:r 6 = .int .i64 i:=by simpa [s6] using hf6 6 (by simp)
  unfold qqIZ
  simp -implicitDefEqProofs[r5,r8,ly]
  refine⟨fun hc2=>?_,fun hc2=>?_⟩
  ·have hlk:k<L.length:=by omega
   have hwk:IntKind.i64.wrap ((k:Int)+1)=(k+1:Nat):=by rw[wrap64_id (by omega) (by omega)]; omega
   obtain⟨bk,pk,k1,k2⟩:=sess_ld y hlk (k:=.i64)
   have k2:=(cels_get (k2 _ (Ext.refl _))).2
   have k20:cel h6 bk pk=some (.int .i64 L[k].id):=k2 0 (by simp[sessC])
   have k22:cel h6 bk (pk+2)=some (.int .i64 L[k].pr):=k2 2 (by simp[sessC])
   have bi':=beats_iff hlk hlt
   unfold qqHZ
   rw[seqM_eq]
   unfold qqGZ
   by_cases p1:L[i].pr<L[k].pr
   ·have bb:=bi'.2 (.inl p1)
    simp -implicitDefEqProofs[r5,r6,r8,i1,k1,i20,i22,k20,k22,p1]
    unfold qePZ
    simp -implicitDefEqProofs[r4',r5,r6,r8,r7,hwk,s4,s5,s6,-Int.natCast_add]
    exact⟨⟨k+1,by omega,rfl,⟨false,rfl,(fun h=>by cases h),fun _=>⟨k,bb⟩⟩⟩,by omega⟩
   have keep:¬ beatsI L k i→∀ j,j<k+1→f=true→¬ beatsI L j i:=fun nb j hj hft=>by
    by_cases hjk:j<k
    ·exact ft hft j hjk
    ·have:j=k:=by omega
     subst this; exact nb
   by_cases p2:L[k].pr=L[i].pr
   rotate_left
   ·have nb:¬ beatsI L k i:=fun h=>by rcases bi'.1 h with h | h; exact p1 h; exact p2 h.1
    simp -implicitDefEqProofs[r5,r6,r8,i1,k1,i20,i22,k20,k22,p1,p2]
    unfold qeQZ
    simp -implicitDefEqProofs[r4',r5,r6,r8,r7,hwk,s4,s5,s6,-Int.natCast_add]
    exact⟨⟨k+1,by omega,rfl,⟨f,rfl,fun hft j hj=>keep nb j hj hft,ff⟩⟩,by omega⟩
   by_cases p3:L[k].id<L[i].id
   ·have bb:=bi'.2 (.inr ⟨p2,.inl p3⟩)
    simp -implicitDefEqProofs[r5,r6,r8,i1,k1,i20,i22,k20,k22,p1,p2,p3]
    unfold qePZ
    simp -implicitDefEqProofs[r4',r5,r6,r8,r7,hwk,s4,s5,s6,-Int.natCast_add]
    exact⟨⟨k+1,by omega,rfl,⟨false,rfl,(fun h=>by cases h),fun _=>⟨k,bb⟩⟩⟩,by omega⟩
   by_cases p4:L[k].id=L[i].id
   rotate_left
   ·have nb:¬ beatsI L k i:=fun h=>by rcases bi'.1 h with h | ⟨_,h | h⟩; exact p1 h; exact p3 h; exact p4 h.1
    simp -implicitDefEqProofs[r5,r6,r8,i1,k1,i20,i22,k20,k22,p1,p2,p3,p4]
    unfold qeQZ
    simp -implicitDefEqProofs[r4',r5,r6,r8,r7,hwk,s4,s5,s6,-Int.natCast_add]
    exact⟨⟨k+1,by omega,rfl,⟨f,rfl,fun hft j hj=>keep nb j hj hft,ff⟩⟩,by omega⟩
   by_cases p5:k<i
   ·have bb:=bi'.2 (.inr ⟨p2,.inr ⟨p4,p5⟩⟩)
    have p5':(k:Int)<i:=by omega
    simp -implicitDefEqProofs[r5,r6,r8,i1,k1,i20,i22,k20,k22,p1,p2,p3,p4,p5]
    unfold qePZ
    simp -implicitDefEqProofs[r4',r5,r6,r8,r7,hwk,s4,s5,s6,-Int.natCast_add]
    exact⟨⟨k+1,by omega,rfl,⟨false,rfl,(fun h=>by cases h),fun _=>⟨k,bb⟩⟩⟩,by omega⟩
   ·have nb:¬ beatsI L k i:=fun h=>by rcases bi'.1 h with h | ⟨_,h | ⟨_,h⟩⟩; exact p1 h; exact p3 h; exact p5 h
    simp -implicitDefEqProofs[r5,r6,r8,i1,k1,i20,i22,k20,k22,p1,p2,p3,p4,p5]
    unfold qeQZ
    simp -implicitDefEqProofs[r4',r5,r6,r8,r7,hwk,s4,s5,s6,-Int.natCast_add]
    exact⟨⟨k+1,by omega,rfl,⟨f,rfl,fun hft j hj=>keep nb j hj hft,ff⟩⟩,by omega⟩
  ·have hke:k=L.length:=by omega
   unfold qpOZ
   cases f with
   | false =>
    simp -implicitDefEqProofs[r7,r4',r5,r6,r8,hw,s4,s5,s6,-Int.natCast_add]
    refine⟨⟨i+1,by omega,rfl,fun j hj=>?_⟩,by omega⟩
    by_cases hji:j<i
    ·exact hb j hji
    ·have:j=i:=by omega
     subst this; exact ff rfl
   | true =>
    have hfi:∀ j,¬ beatsI L j i:=fun j hj=>by
     have h1:=hj
     obtain⟨h1,_⟩:=h1
     exact ft rfl j (by omega) hj
    have hp:=pres_first (l:=l) (now:=now) (i:=i) (by rw[hL]; exact hlt) (by rw[hL]; exact hfi)
    simp -implicitDefEqProofs only[hL] at hp
    have tg:tagg P qnZ=some (some 3):=by kernel_rfl
    simp -implicitDefEqProofs[r7]
    unfold qpNZ
    simp -implicitDefEqProofs[r4',r5,r6,i1,i21,i22,ly,bdPres,ld_at c1,cel_of c1,stm_at c1,stm_upd,ld_same,cel_same,over,tg]
    rw[hp] at hk
    exact hk _ (ext_upd n1 e4)
theorem entOf_at:∀ {b:Book} {u:ByteArray} {i:Nat} (hi:i<b.length),b[i].1=u→(∀ j (h:j<i),b[j].1≠u)→entOf b u=b[i].2
 | [],_,_,hi,_,_=>absurd hi (by simp)
 | (k,e)::r,u,0,_,h,_=>by show (if k=u then e else entOf r u)=e; exact if_pos h
 | (k,e)::r,u,i+1,hi,h,hn=>by
  show (if k=u then e else entOf r u)=_
  have h0:¬ k=u:=hn 0 (by omega)
  rw[if_neg h0]
  exact entOf_at (by simpa using hi) h fun j hj=>hn (j+1) (by omega)
theorem entOf_no:∀ {b:Book} {u:ByteArray},(∀ j (h:j<b.length),b[j].1≠u)→entOf b u=ent0
 | [],_,_=>rfl
 | (k,e)::r,u,hn=>by
  show (if k=u then e else entOf r u)=_
  have h0:¬ k=u:=hn 0 (by simp)
  rw[if_neg h0]
  exact entOf_no fun j hj=>hn (j+1) (by simpa using hj)
theorem zcUsr:zc P qkZ=some #[.string ⟨#[]⟩,.slice none 0 0,.int .i64 0,.int .i64 0,.int .i64 0]:=by kernel_rfl
theorem bdUsrN (k:ByteArray):bdV (binf P qkZ) [(0,.string k)]=some (.agg #[.string k,.slice none 0 0,.int .i64 0,.int .i64 0,.int .i64 0]):=by kernel_rfl
theorem bin_eqlS (t:Nat)(c:Bool)(a b:ByteArray):binV .eql t c (.string a) (.string b)=some (.bool (decide (a=b))):=by
 simp -implicitDefEqProofs only[binV,strV]
 by_cases h:a=b
 ·subst h; simp
 ·have:¬ a.toList=b.toList:=fun e=>h (str_inj e)
  simp -implicitDefEqProofs[h,this]
theorem rfind_ok (b:Book)(u:ByteArray){h:Heap}{v:Value}(x:Sl 5 UsrR h v b)(hl:b.length<1000000)
  (hk:∀ h' sv,Ext h h'→Sl 4 SessR h sv (entOf b u).ss→K (.agg (.string u::sv::presC (entOf b u).told).toArray) h'):callM P qeDZ #[v,.string u] h K:=by
 apply qutZ
 unfold qjMZ
 have lx:=x.len
 have tg:tagg P qkZ=some (some 5):=by kernel_rfl
 rw[zcUsr]
 refine nw_agg fun v1 h1 n1 e1 c1=>?_
 rw[seqM_eq]
 unfold qoLZ
 refine loop_on [0,1,4] (fun s h'=>h'=h1∧∃ i:Nat,i≤b.length∧s 5 = .int .i64 i∧∀ j (hj:j<b.length),j<i→b[j].1≠u) (fun s _=>(b.length-num (s 5)).toNat) ⟨rfl,0,by omega,by simp,fun j _ hj=>by omega⟩ ?_
 rintro s h2 hf ⟨rfl,i,hi,s5,hn⟩
 have s0:s 0=v:=by simpa using hf 0 (by simp)
 have s1:s 1 = .string u:=by simpa using hf 1 (by simp)
 have s4:s 4=ptr v1:=by simpa using hf 4 (by simp)
 unfold qoKZ
 simp -implicitDefEqProofs[s0,s5,lx]
 refine⟨fun hc=>?_,fun hc=>?_⟩
 ·have hlt:i<b.length:=by omega
  have hw:IntKind.i64.wrap ((i:Int)+1)=(i+1:Nat):=by rw[wrap64_id (by omega) (by omega)]; omega
  obtain⟨ub,up,uc,a1,a2,a3⟩:=x.at (k:=.i64) (i:=i) (by omega) (by omega)
  simp -implicitDefEqProofs only[Int.toNat_natCast] at a3
  obtain⟨sv,rfl,hs⟩:=a3
  have hcs:=cels_ext e1 a2
  have q0:cel h2 ub up=some (.string b[i].1):=(cels_get hcs).2 0 (by simp[presC])
  unfold qoJZ
  have bn:binV .eql 3 false (.string b[i].1) (.string u)=some (.bool (decide (b[i].1=u))):=bin_eqlS _ _ _ _
  by_cases hb:b[i].1=u
  ·have he:=entOf_at hlt hb fun j hj=>hn j (by omega) hj
   have bn:binV .eql 3 false (.string b[i].1) (.string u)=some (.bool true):=by rw[bn,decide_eq_true hb]
   simp -implicitDefEqProofs[s0,s1,s5,a1,q0,bn]
   unfold qoHZ
   have ho:=hs.one
   simp -implicitDefEqProofs[s0,s4,s5,a1,ldV_n hcs]
   rw[stm_at (n:=5) c1 (by simp[presC]) (by simp) (by simp[presC,ho.1])]
   rw[he] at hk
   have:=hk _ sv (ext_upd (o:=.cells (over #[.string ⟨#[]⟩,.slice none 0 0,.int .i64 0,.int .i64 0,.int .i64 0] 0 (Value.agg (Value.string b[i].1::sv::presC b[i].2.told).toArray).cells.toList) qkZ (0,0)) n1 e1) hs
   simp -implicitDefEqProofs[s4,tg,stm_upd,ld_same,cel_same,over,presC]
   simp -implicitDefEqProofs only[← hb,presC] at this
   simpa [over] using this
  ·have bn:binV .eql 3 false (.string b[i].1) (.string u)=some (.bool false):=by rw[bn,decide_eq_false hb]
   simp -implicitDefEqProofs[s0,s1,s5,a1,q0,bn]
   unfold qoIZ
   simp -implicitDefEqProofs[s0,s1,s4,s5,hw,-Int.natCast_add]
   refine⟨⟨i+1,by omega,rfl,fun j hj hji=>?_⟩,by omega⟩
   by_cases hjj:j<i
   ·exact hn j hj hjj
   ·have:j=i:=by omega
    subst this; exact hb
 ·have he:=entOf_no (b:=b) (u:=u) fun j hj=>hn j hj (by omega)
  unfold qoMZ
  simp -implicitDefEqProofs[s1,s4,bdUsrN,ld_at c1,cel_of c1,stm_at c1,stm_upd,ld_same,cel_same,over,tg]
  rw[he] at hk
  have:=hk (upd h2 v1 (.cells #[.string u,.slice none 0 0,.int .i64 0,.int .i64 0,.int .i64 0] qkZ (0,0))) (.slice none 0 0) (ext_upd n1 e1) (.inl ⟨rfl,_,_,rfl⟩)
  exact this
end Go.Proofs.YtmbningljbcpkaaGreat
namespace Go.Proofs.YtmbningljbcpkaaGreat
open Go Go.Den Go.MapKept
set_option linter.unusedSimpArgs false
set_option linter.unusedVariables false
set_option maxRecDepth 20000
theorem rf_sessT {T:Tags}{h0 h:Heap}{v:Value}{l:List Sess}(r:Rf 4 qdZ h0 h v l.length (l.flatMap sessC))(w:Wf T h0):Sl 4 SessR (fz T h) v l:=by
 rw[← map_flat] at r
 exact r.sl w rfl (El.enc (enc:=sessC) (fun _=>rfl) (fun y=>by simp[sessC]) fun h y=>rfl)
variable {K:KTy}
theorem rhas_ok (l:List Sess)(id:Int){h:Heap}{v:Value}(x:Sl 4 SessR h v l)(hl:l.length<1000000)(hk:K (.bool (hasI l id)) h):callM P qcFZ #[v,.int .i64 id] h K:=by
 apply quVZ
 unfold qkAZ
 have lx:=x.len
 rw[seqM_eq]
 unfold qpKZ
 refine loop_on [0,1,4] (fun s h'=>h'=h∧∃ i:Nat,i≤l.length∧s 5 = .int .i64 i∧∀ j (hj:j<l.length),j<i→l[j].id≠id) (fun s _=>(l.length-num (s 5)).toNat) ⟨rfl,0,by omega,by simp,fun j _ hj=>by omega⟩ ?_
 rintro s h1 hf ⟨rfl,i,hi,s5,hn⟩
 have s0:s 0=v:=by simpa using hf 0 (by simp)
 have s1:s 1 = .int .i64 id:=by simpa using hf 1 (by simp)
 have s4:s 4 = .bool false:=by simpa using hf 4 (by simp)
 unfold qpJZ
 simp -implicitDefEqProofs[s0,s5,lx]
 refine⟨fun hc=>?_,fun hc=>?_⟩
 rotate_left
 ·have e:hasI l id=false:=by
   rw[Bool.eq_false_iff]
   intro h
   obtain⟨y,hy,h2⟩:=hasI_iff.1 h
   obtain⟨j,hj,rfl⟩:=List.getElem_of_mem hy
   exact hn j hj (by omega) h2
  rw[e] at hk
  exact hk
 ·have hlt:i<l.length:=by omega
  have hw:IntKind.i64.wrap ((i:Int)+1)=(i+1:Nat):=by rw[wrap64_id (by omega) (by omega)]; omega
  obtain⟨b,p,i1,i2⟩:=sess_ld x hlt (k:=.i64)
  have q0:cel h1 b p=some (.int .i64 l[i].id):=(cels_get (i2 _ (Ext.refl _))).2 0 (by simp[sessC])
  unfold qpIZ
  simp -implicitDefEqProofs[s0,s1,s5,i1,q0]
  refine⟨fun he=>?_,fun he=>?_⟩
  ·have e:hasI l id=true:=hasI_iff.2 ⟨l[i],List.getElem_mem hlt,he⟩
   rw[e] at hk
   unfold qpGZ
   simp -implicitDefEqProofs
   exact hk
  ·unfold qpHZ
   simp -implicitDefEqProofs[s0,s1,s4,s5,hw,-Int.natCast_add]
   refine⟨⟨i+1,by omega,rfl,fun j hj hji=>?_⟩,by omega⟩
   by_cases hjj:j<i
   ·exact hn j hj hjj
   ·have:j=i:=by omega
    subst this; exact he
theorem delS_snoc (l:List Sess)(s:Sess)(id:Int):delS (l++[s]) id=if s.id=id then delS l id else delS l id++[s]:=by
 unfold delS
 rw[List.filter_append]
 by_cases h:s.id=id
 ·rw[if_pos h,List.filter_cons_of_neg (by simp[h])]; simp
 ·rw[if_neg h,List.filter_cons_of_pos (by simp[h])]; rfl
theorem rclear_ok (l:List Sess)(id:Int){h:Heap}{v:Value}(x:Sl 4 SessR h v l)(hl:l.length<1000000)
  (hk:∀ h' v',Rf 4 qdZ h h' v' (delS l id).length ((delS l id).flatMap sessC)→K v' h'):callM P qdPZ #[v,.int .i64 id] h K:=by
 apply qtWZ
 unfold qiLZ
 have lx:=x.len
 rw[seqM_eq]
 unfold qnuZ
 refine loop_on [0,1] (fun s h'=>∃ i:Nat,i≤l.length∧s 6 = .int .i64 i∧Rf 4 qdZ h h' (s 5) (delS (l.take i) id).length ((delS (l.take i) id).flatMap sessC)) (fun s _=>(l.length-num (s 6)).toNat) ⟨0,by omega,by simp,by simpa [delS] using Rf.nil (Ext.refl _)⟩ ?_
 rintro s h1 hf ⟨i,hi,s6,r⟩
 have s0:s 0=v:=by simpa using hf 0 (by simp)
 have s1:s 1 = .int .i64 id:=by simpa using hf 1 (by simp)
 unfold qntZ
 simp -implicitDefEqProofs[s0,s6,lx]
 refine⟨fun hc=>?_,fun hc=>?_⟩
 rotate_left
 ·have hie:i=l.length:=by omega
  subst hie
  rw[List.take_of_length_le (Nat.le_refl _)] at r
  exact hk _ _ r
 ·have hlt:i<l.length:=by omega
  have hw:IntKind.i64.wrap ((i:Int)+1)=(i+1:Nat):=by rw[wrap64_id (by omega) (by omega)]; omega
  obtain⟨b,p,i1,i2⟩:=sess_ld x hlt (k:=.i64)
  have i2:=i2 h1 r.ex
  have q0:cel h1 b p=some (.int .i64 l[i].id):=(cels_get i2).2 0 (by simp[sessC])
  have ps:=delS_snoc (l.take i) l[i] id
  rw[← List.take_succ_eq_append_getElem hlt] at ps
  have hlen:(delS (l.take i) id).length≤l.length:=by unfold delS; have:=List.length_filter_le (fun s=>!decide (s.id=id)) (l.take i); simp at this ⊢; omega
  unfold qnsZ
  rw[seqM_eq]
  unfold qnrZ
  simp -implicitDefEqProofs[s0,s1,s6,i1,q0]
  refine⟨fun hc2=>?_,fun hc2=>?_⟩
  ·rw[if_neg hc2] at ps
   unfold qnqZ
   simp -implicitDefEqProofs[s0,s6,i1,ldV_n i2]
   refine bs_one bsSs (by simp[sessC]) (by simp[sessC]) fun b2 h2 n2 e2 c2=>?_
   refine Rf.app2 (m:=1) (news:=sessC l[i]) unSlSs apSs (by omega) (r.ext e2) (.inr ⟨b2,0,1,rfl,cels_one c2 (by simp[sessC])⟩) (by simp[sessC]) (by unfold maxLen; omega) (by omega) fun v' h3 r3 hkp hrow=>?_
   unfold qnpZ
   simp -implicitDefEqProofs[s0,s1,s6,hw,-Int.natCast_add]
   refine⟨⟨i+1,by omega,rfl,?_⟩,by omega⟩
   rw[ps]
   simpa using r3
  ·rw[if_pos hc2] at ps
   simp -implicitDefEqProofs[s0,s1,s6,hw,-Int.natCast_add]
   exact⟨⟨i+1,by omega,rfl,by rw[ps]; exact r⟩,by omega⟩
theorem zcSs:zc P qdZ=some #[.int .i64 0,.int .i64 0,.int .i64 0,.int .u64 0]:=by kernel_rfl
set_option maxHeartbeats 1000000 in
theorem rbeat_ok (l:List Sess)(id un:Int){T:Tags}{h:Heap}{v:Value}(w:Wf T h)(x:Sl 4 SessR (fz T h) v l)(hl:l.length<1000000)
  (hk:∀ h' v',Ext h h'→Sl 4 SessR (fz T h') v' (beatS l id un).1→K (.tuple #[v',.int .i64 (beatS l id un).2]) h'):callM P qixZ #[v,.int .i64 id,.int .u64 un] h K:=by
 apply quuZ
 unfold qjNZ
 have lx:=x.len
 rw[beat_eq] at hk
 refine rhas_ok l id (x.ext (@SessR.ext) (fz_ext _ _)) hl ?_
 unfold qoYZ
 cases hh:hasI l id with
 | false =>
  rw[hh] at hk
  simp -implicitDefEqProofs only[Bool.false_eq_true,if_false] at hk
  simp -implicitDefEqProofs
  exact hk h v (Ext.refl _) x
 | true =>
 rw[hh] at hk
 simp -implicitDefEqProofs only[if_true] at hk
 simp -implicitDefEqProofs
 unfold qoXZ
 rw[seqM_eq]
 unfold qoWZ
 refine loop_on [0,1,2,7] (fun s h'=>∃ i:Nat,i≤l.length∧s 9 = .int .i64 i∧Rf 4 qdZ h h' (s 8) i (((l.take i).map (beat1 id un)).flatMap sessC)) (fun s _=>(l.length-num (s 9)).toNat) ⟨0,by omega,by simp,by simpa using Rf.nil (Ext.refl _)⟩ ?_
 rintro s h1 hf ⟨i,hi,s9,r⟩
 have s0:s 0=v:=by simpa using hf 0 (by simp)
 have s1:s 1 = .int .i64 id:=by simpa using hf 1 (by simp)
 have s2:s 2 = .int .u64 un:=by simpa using hf 2 (by simp)
 have s7:s 7 = .int .i64 0:=by simpa using hf 7 (by simp)
 unfold qoVZ
 simp -implicitDefEqProofs[s0,s9,lx]
 refine⟨fun hc=>?_,fun hc=>?_⟩
 rotate_left
 ·have hie:i=l.length:=by omega
  subst hie
  rw[List.take_of_length_le (Nat.le_refl _)] at r
  have r':Rf 4 qdZ h h1 (s 8) (l.map (beat1 id un)).length ((l.map (beat1 id un)).flatMap sessC):=by simpa using r
  exact hk h1 (s 8) r.ex (rf_sessT r' w)
 ·have hlt:i<l.length:=by omega
  have hw:IntKind.i64.wrap ((i:Int)+1)=(i+1:Nat):=by rw[wrap64_id (by omega) (by omega)]; omega
  obtain⟨b,p,i1,i2⟩:=sess_ld x hlt (k:=.i64)
  have i2:=i2 h1 ((fz_ext _ _).trans r.ex)
  have hfl:((l.take (i+1)).map (beat1 id un)).flatMap sessC=((l.take i).map (beat1 id un)).flatMap sessC++sessC (beat1 id un l[i]):=by
   rw[List.take_succ_eq_append_getElem hlt,List.map_append,List.flatMap_append]; simp
  unfold qoUZ
  rw[seqM_eq]
  unfold qoTZ
  rw[zcSs]
  simp -implicitDefEqProofs only[s0,s9,i1,ldV_n i2,ov_s]
  refine nw_st rfl (by simp[sessC]) (by simp[sessC]) fun bx h2 n2 e2 c2=>?_
  simp -implicitDefEqProofs only[cells_agg,sessC] at c2
  have q0:cel h2 bx 0=some (.int .i64 l[i].id):=by simp[cel_of c2]
  have q3:cel h2 bx 3=some (.int .u64 l[i].un):=by simp[cel_of c2]
  rw[seqM_eq]
  -- behind the change
  have fin:∀ (h3:Heap) (s':Env),(∀ b o,h1 b=some o→h3 b=some o)→h3 bx=some (.cells (sessC (beat1 id un l[i])).toArray qdZ (0,0))→s' 0=v→s' 1 = .int .i64 id→s' 2 = .int .u64 un→s' 7 = .int .i64 0→s' 8=s 8→s' 9 = .int .i64 i→s' 10=ptr bx→∀ {Q:Post},(∀ h' s'' (v':Value),Rf 4 qdZ h h' (s'' 8) (i+1) (((l.take (i+1)).map (beat1 id un)).flatMap sessC)→s'' 0=v→s'' 1 = .int .i64 id→s'' 2 = .int .u64 un→s'' 7 = .int .i64 0→s'' 9 = .int .i64 i→Q .normal [] s'' h')→qgKZ s' h3 Q []:=by
   intro h3 s' e3 c3 t0 t1 t2 t7 t8 t9 t10 Q hQ
   unfold qgKZ
   have ol:ldV (some (some 4)) (ptr bx) h3=some (.agg (sessC (beat1 id un l[i])).toArray):=by simp[ld_at c3,sessC]
   simp -implicitDefEqProofs[t10,t8,ol]
   refine bs_one bsSs (by simp[sessC]) (by omega) fun b2 h4 n4 e4 c4=>?_
   refine Rf.app2 (m:=1) (news:=sessC (beat1 id un l[i])) unSlSs apSs (by omega) ((r.ext e3).ext e4) (.inr ⟨b2,0,1,rfl,cels_one c4 (by simp[sessC])⟩) (by simp[sessC]) (by unfold maxLen; omega) (by omega) fun v' h5 r5 hkp hrow=>?_
   rw[← hfl] at r5
   refine hQ _ _ v' ?_ (by simpa using t0) (by simpa using t1) (by simpa using t2) (by simpa using t7) (by simpa using t9)
   simpa using r5
  unfold qoSZ
  have hb1:beat1 id un l[i]=if l[i].id=id∧l[i].un<un then { l[i] with un:=un } else l[i]:=rfl
  by_cases ci:l[i].id=id
  ·by_cases cu:l[i].un<un
   ·simp -implicitDefEqProofs[s1,s2,q0,q3,ci,cu]
    unfold qoRZ
    simp -implicitDefEqProofs only[s2]
    rw[if_pos ⟨ci,cu⟩] at hb1
    simp -implicitDefEqProofs[ld_at c2,cel_of c2,stm_at c2,stm_upd,ld_same,cel_same,over]
    refine fin _ _ ?_ ?_ (by simpa using s0) (by simpa using s1) (by simpa using s2) (by simpa using s7) (by simp) (by simpa using s9) (by simp) fun h' s'' v' r' t0 t1 t2 t7 t9=>?_
    ·intro j o ho
     have hne:j≠bx:=fun e=>by subst e; rw[n2] at ho; cases ho
     rw[upd_ne hne]; exact e2 _ _ ho
    ·rw[upd_same',hb1]; simp[sessC]
    ·simp -implicitDefEqProofs[t0,t1,t2,t7,t9,s0,s1,s2,s7,s9,hw,-Int.natCast_add]
     exact⟨⟨i+1,by omega,rfl,by rw[← List.map_take]; exact r'⟩,by omega⟩
   ·simp -implicitDefEqProofs[s1,s2,q0,q3,ci,cu]
    unfold qhoZ
    simp -implicitDefEqProofs
    rw[if_neg (by omega)] at hb1
    refine fin _ _ (fun j o ho=>e2 _ _ ho) (by rw[hb1]; exact c2) (by simpa using s0) (by simpa using s1) (by simpa using s2) (by simpa using s7) (by simp) (by simpa using s9) (by simp) fun h' s'' v' r' t0 t1 t2 t7 t9=>?_
    simp -implicitDefEqProofs[t0,t1,t2,t7,t9,s0,s1,s2,s7,s9,hw,-Int.natCast_add]
    exact⟨⟨i+1,by omega,rfl,by rw[← List.map_take]; exact r'⟩,by omega⟩
  ·simp -implicitDefEqProofs[s1,s2,q0,q3,ci]
   unfold qhoZ
   simp -implicitDefEqProofs
   rw[if_neg (fun h=>ci h.1)] at hb1
   refine fin _ _ (fun j o ho=>e2 _ _ ho) (by rw[hb1]; exact c2) (by simpa using s0) (by simpa using s1) (by simpa using s2) (by simpa using s7) (by simp) (by simpa using s9) (by simp) fun h' s'' v' r' t0 t1 t2 t7 t9=>?_
   simp -implicitDefEqProofs[t0,t1,t2,t7,t9,s0,s1,s2,s7,s9,hw,-Int.natCast_add]
   exact⟨⟨i+1,by omega,rfl,by rw[← List.map_take]; exact r'⟩,by omega⟩
theorem insS_pre {s:Sess}:∀ {l:List Sess} {i:Nat},(∀ j (h:j<l.length),j<i→¬ s.id<l[j].id)→insS l s=l.take i++insS (l.drop i) s
 | _,0,_=>by simp
 | [],i+1,_=>by simp
 | x::r,i+1,h=>by
  have h0:¬ s.id<x.id:=h 0 (by simp) (by omega)
  show (if s.id<x.id then s::x::r else x::insS r s)=_
  rw[if_neg h0,insS_pre (l:=r) (i:=i) fun j hj hji=>h (j+1) (by simpa using hj) (by omega)]
  simp -implicitDefEqProofs
def InsI (s:Sess)(l:List Sess)(i:Nat)(f:Bool)(out:List Sess):Prop:=(f=false→out=l.take i∧∀ j (h:j<l.length),j<i→¬ s.id<l[j].id)∧(f=true→out++l.drop i=insS l s∧out.length=i+1)
theorem InsI.step0 {s:Sess}{l:List Sess}{i:Nat}{out:List Sess}(x:InsI s l i false out)(hi:i<l.length)(h:¬ s.id<l[i].id):InsI s l (i+1) false (out++[l[i]]):=by
 obtain⟨h1,h2⟩:=x.1 rfl
 refine⟨fun _=>⟨by rw[h1,List.take_succ_eq_append_getElem hi],fun j hj hji=>?_⟩,fun h=>by cases h⟩
 by_cases hjj:j<i
 ·exact h2 j hj hjj
 ·have:j=i:=by omega
  subst this; exact h
theorem InsI.step1 {s:Sess}{l:List Sess}{i:Nat}{out:List Sess}(x:InsI s l i false out)(hi:i<l.length)(h:s.id<l[i].id):InsI s l (i+1) true ((out++[s])++[l[i]]):=by
 obtain⟨h1,h2⟩:=x.1 rfl
 refine⟨fun h=>(by cases h),fun _=>⟨?_,?_⟩⟩
 ·rw[insS_pre h2,List.drop_eq_getElem_cons hi]
  show _=l.take i++(if s.id<l[i].id then s::l[i]::l.drop (i+1) else _)
  rw[if_pos h,h1]; simp
 ·rw[h1]; simp; omega
theorem InsI.step2 {s:Sess}{l:List Sess}{i:Nat}{out:List Sess}(x:InsI s l i true out)(hi:i<l.length):InsI s l (i+1) true (out++[l[i]]):=by
 obtain⟨h1,h2⟩:=x.2 rfl
 refine⟨fun h=>(by cases h),fun _=>⟨?_,by simp[h2]⟩⟩
 rw[← h1,List.drop_eq_getElem_cons hi]; simp
theorem InsI.fin0 {s:Sess}{l:List Sess}{out:List Sess}(x:InsI s l l.length false out):out++[s]=insS l s:=by
 obtain⟨h1,h2⟩:=x.1 rfl
 rw[insS_pre h2,h1]; simp[insS]
theorem InsI.fin1 {s:Sess}{l:List Sess}{out:List Sess}(x:InsI s l l.length true out):out=insS l s:=by
 have:=(x.2 rfl).1
 simpa using this
theorem InsI.len {s:Sess}{l:List Sess}{i:Nat}{f:Bool}{out:List Sess}(x:InsI s l i f out)(hi:i≤l.length):out.length≤i+1:=by
 cases f with
 | false=>have:=(x.1 rfl).1; rw[this]; simp; omega
 | true=>have:=(x.2 rfl).2; omega
end Go.Proofs.YtmbningljbcpkaaGreat
namespace Go.Proofs.YtmbningljbcpkaaGreat
open Go Go.Den Go.MapKept
set_option linter.unusedSimpArgs false
set_option linter.unusedVariables false
set_option maxRecDepth 20000
structure SetE (l:List Sess)(s:Sess)(h0:Heap)(v1:Nat)(v25:Value)(i:Nat)(e:Env)(h':Heap):Prop where
 e4:e 4=ptr v1
 e10:e 10=v25
 e11:e 11 = .int .i64 i
 r:∃ (f:Bool) (out:List Sess),e 9 = .bool f∧InsI s l i f out∧Rf 4 qdZ h0 h' (e 8) out.length (out.flatMap sessC)
variable {K:KTy}
set_option maxHeartbeats 4000000 in
theorem rset_ok (l:List Sess)(so:SrtI l)(s:Sess)(most:Int){T:Tags}{h:Heap}{v:Value}(w:Wf T h)(x:Sl 4 SessR (fz T h) v l)(hl:l.length<100000)
  (hk:∀ h' v',Ext h h'→Sl 4 SessR (fz T h') v' (setS l s most).1→K (.tuple #[v',.int .i64 (setS l s most).2]) h'):callM P qjxZ #[v,.agg (sessC s).toArray,.int .i64 most] h K:=by
 apply quUZ
 unfold qkzZ
 have lx:=x.len
 refine nw_agg fun v1 h1 n1 e1 c1=>?_
 have c1':=c1
 simp -implicitDefEqProofs only[sessC] at c1'
 have q0:cel h1 v1 0=some (.int .i64 s.id):=by simp[cel_of c1']
 simp -implicitDefEqProofs[q0]
 have xh:∀ h',Ext h h'→Sl 4 SessR h' v l:=fun h' e=>x.ext (@SessR.ext) ((fz_ext _ _).trans e)
 refine rhas_ok l s.id (xh _ e1) (by omega) ?_
 unfold qpFZ
 have full:hasI l s.id=false→most≤l.length→K (.tuple #[v,.int .i64 2]) h1:=fun h2 h3=>by
  have e:setS l s most=(l,2):=by unfold setS; rw[if_pos ⟨h2,h3⟩]
  rw[e] at hk
  exact hk h1 v e1 (x.ext (@SessR.ext) (fz_of_ext e1))
 have go:setS l s most=(putS l s,0)→∀ (a b c d e f g i j:Value),qiKZ (ptr v1) h1 v (.agg (sessC s).toArray) (.int .i64 most) a b c d e f g i j K:=by
  intro hset a b c d e f g i j
  rw[hset] at hk
  unfold qiKZ
  simp -implicitDefEqProofs[q0]
  refine rclear_ok l s.id (xh _ e1) (by omega) fun h2 v25 r2=>?_
  have e2:Ext h h2:=e1.trans r2.ex
  obtain⟨L,hL⟩:∃ L,delS l s.id=L:=⟨_,rfl⟩
  have hput:insS L s=putS l s:=by rw[← hL]; exact ins_del so
  have hLl:L.length≤l.length:=by rw[← hL]; unfold delS; exact List.length_filter_le _ _
  rw[hL] at r2
  have y2:=rf_sess r2
  have ly:=y2.len
  have c2:=r2.ex _ _ c1
  unfold qpEZ
  rw[seqM_eq]
  unfold qpDZ
  refine loop_on [4,7,10] (fun e h'=>∃ i:Nat,i≤L.length∧SetE L s h2 v1 v25 i e h') (fun e _=>(L.length-num (e 11)).toNat) ⟨0,by omega,⟨by simp,by simp,by simp,false,[],by simp,⟨fun _=>⟨by simp,fun j _ hj=>by omega⟩,fun h=>by cases h⟩,by simpa using Rf.nil (Ext.refl _)⟩⟩ ?_
  rintro e h3 hf ⟨i,hi,⟨t4,t10,t11,fl,out,t9,I,r3⟩⟩
  have t7:e 7 = .int .i64 0:=by simpa using hf 7 (by simp)
  have ho:=I.len hi
  have e3:Ext h h3:=e2.trans r3.ex
  have c3:=r3.ex _ _ c2
  have c3':=c3
  simp -implicitDefEqProofs only[sessC] at c3'
  have p0:cel h3 v1 0=some (.int .i64 s.id):=by simp[cel_of c3']
  have pl:ldV (some (some 4)) (ptr v1) h3=some (.agg (sessC s).toArray):=by simp[ld_at c3',sessC]
  unfold qpCZ
  simp -implicitDefEqProofs[t10,t11,ly]
  refine⟨fun hc=>?_,fun hc=>?_⟩
  ·have hlt:i<L.length:=by omega
   have hw:IntKind.i64.wrap ((i:Int)+1)=(i+1:Nat):=by rw[wrap64_id (by omega) (by omega)]; omega
   obtain⟨b',p',i1,i2⟩:=sess_ld y2 hlt (k:=.i64)
   have i20:cel h3 b' p'=some (.int .i64 L[i].id):=(cels_get (i2 h3 r3.ex)).2 0 (by simp[sessC])
   unfold qpBZ
   rw[seqM_eq]
   unfold qpAZ
   rw[seqM_eq]
   -- the session itself is put behind
   have fin:∀ (h4:Heap) (e':Env) (fl':Bool) (out':List Sess),e' 4=ptr v1→e' 7 = .int .i64 0→e' 9 = .bool fl'→e' 10=v25→e' 11 = .int .i64 i→Rf 4 qdZ h2 h4 (e' 8) out'.length (out'.flatMap sessC)→out'.length≤i+2→InsI s L (i+1) fl' (out'++[L[i]])→∀ {Q:Post},(∀ h5 e5,e5 4=ptr v1→e5 7 = .int .i64 0→e5 9 = .bool fl'→e5 10=v25→e5 11 = .int .i64 i→Rf 4 qdZ h2 h5 (e5 8) (out'++[L[i]]).length ((out'++[L[i]]).flatMap sessC)→Q .normal [] e5 h5)→qhnZ e' h4 Q []:=by
    intro h4 e' fl' out' u4 u7 u9 u10 u11 r4 hlo I' Q hQ
    have i2':=i2 h4 r4.ex
    unfold qhnZ
    simp -implicitDefEqProofs[u10,u11,i1,ldV_n i2']
    refine bs_one bsSs (by simp[sessC]) (by omega) fun b2 h5 n5 e5 c5=>?_
    refine Rf.app2 (m:=1) (news:=sessC L[i]) unSlSs apSs (by omega) (r4.ext e5) (.inr ⟨b2,0,1,rfl,cels_one c5 (by simp[sessC])⟩) (by simp[sessC]) (by unfold maxLen; omega) (by omega) fun v' h6 r6 hkp hrow=>?_
    refine hQ _ _ (by simpa using u4) (by simpa using u7) (by simpa using u9) (by simpa using u10) (by simpa using u11) ?_
    simpa using r6
   have e4:e 4=ptr v1:=t4
   unfold qpzZ
   cases fl with
   | true =>
    simp -implicitDefEqProofs[t9]
    unfold qhmZ
    simp -implicitDefEqProofs
    refine fin _ _ true out (by simpa using t4) (by simpa using t7) (by simpa using t9) (by simpa using t10) (by simpa using t11) (by simpa using r3) (by omega) (I.step2 hlt) fun h5 e5 w4 w7 w9 w10 w11 r5=>?_
    simp -implicitDefEqProofs[w4,w7,w9,w10,w11,t4,t7,t10,t11,hw,-Int.natCast_add]
    exact⟨⟨i+1,by omega,⟨by simp[w4],by simp[w10],by simp,true,out++[L[i]],by simp[w9],I.step2 hlt,by simpa using r5⟩⟩,by omega⟩
   | false =>
    simp -implicitDefEqProofs[t9,t4,t10,t11,i1,i20,p0]
    refine⟨fun hlt2=>?_,fun hlt2=>?_⟩
    ·unfold qpyZ
     simp -implicitDefEqProofs[t4,pl]
     refine bs_one bsSs (by simp[sessC]) (by omega) fun b2 h5 n5 e5 c5=>?_
     refine Rf.app2 (m:=1) (news:=sessC s) unSlSs apSs (by omega) (r3.ext e5) (.inr ⟨b2,0,1,rfl,cels_one c5 (by simp[sessC])⟩) (by simp[sessC]) (by unfold maxLen; omega) (by omega) fun v' h6 r6 hkp hrow=>?_
     unfold qoNZ
     simp -implicitDefEqProofs
     refine fin _ _ true (out++[s]) (by simpa using t4) (by simpa using t7) (by simp) (by simpa using t10) (by simpa using t11) (by simpa using r6) (by simp; omega) (I.step1 hlt hlt2) fun h5 e5 w4 w7 w9 w10 w11 r5=>?_
     simp -implicitDefEqProofs[w4,w7,w9,w10,w11,t4,t7,t10,t11,hw,-Int.natCast_add]
     exact⟨⟨i+1,by omega,⟨by simp[w4],by simp[w10],by simp,true,(out++[s])++[L[i]],by simp[w9],I.step1 hlt hlt2,by simpa using r5⟩⟩,by omega⟩
    ·unfold qhmZ
     simp -implicitDefEqProofs
     refine fin _ _ false out (by simpa using t4) (by simpa using t7) (by simpa using t9) (by simpa using t10) (by simpa using t11) (by simpa using r3) (by omega) (I.step0 hlt (by omega)) fun h5 e5 w4 w7 w9 w10 w11 r5=>?_
     simp -implicitDefEqProofs[w4,w7,w9,w10,w11,t4,t7,t10,t11,hw,-Int.natCast_add]
     exact⟨⟨i+1,by omega,⟨by simp[w4],by simp[w10],by simp,false,out++[L[i]],by simp[w9],I.step0 hlt (by omega),by simpa using r5⟩⟩,by omega⟩
  ·have hie:i=L.length:=by omega
   subst hie
   unfold qoQZ
   rw[seqM_eq]
   unfold qoPZ
   cases fl with
   | true =>
    have ho':=I.fin1.trans hput
    subst ho'
    simp -implicitDefEqProofs[t9]
    exact hk _ _ e3 (rf_sessT (r3.back e2) w)
   | false =>
    have ho':=I.fin0.trans hput
    simp -implicitDefEqProofs[t9]
    unfold qoOZ
    simp -implicitDefEqProofs[t4,pl]
    refine bs_one bsSs (by simp[sessC]) (by omega) fun b2 h5 n5 e5 c5=>?_
    refine Rf.app2 (m:=1) (news:=sessC s) unSlSs apSs (by omega) (r3.ext e5) (.inr ⟨b2,0,1,rfl,cels_one c5 (by simp[sessC])⟩) (by simp[sessC]) (by unfold maxLen; omega) (by omega) fun v' h6 r6 hkp hrow=>?_
    have r6':Rf 4 qdZ h2 h6 v' (out++[s]).length ((out++[s]).flatMap sessC):=by simpa using r6
    rw[ho'] at r6'
    exact hk _ _ (e2.trans r6.ex) (rf_sessT (r6'.back e2) w)
 cases hh:hasI l s.id with
 | true =>
  simp -implicitDefEqProofs
  exact go (by unfold setS; rw[if_neg (by rw[hh]; simp)]) _ _ _ _ _ _ _ _ _
 | false =>
  simp -implicitDefEqProofs[lx]
  refine⟨fun hc=>full hh hc,fun hc=>?_⟩
  exact go (by unfold setS; rw[if_neg (by omega)]) _ _ _ _ _ _ _ _ _
end Go.Proofs.YtmbningljbcpkaaGreat
namespace Go.Proofs.YtmbningljbcpkaaGreat
open Go Go.Den Go.MapKept
set_option linter.unusedSimpArgs false
set_option linter.unusedVariables false
set_option maxRecDepth 20000
theorem bin_geqS (t:Nat)(c:Bool)(a b:ByteArray):binV .geq t c (.string a) (.string b)=some (.bool (!ltS a b)):=rfl
theorem becR_step (u:ByteArray)(e:Ent)(b:Book){i:Nat}(hi:i<b.length)(put:Bool):becR u e (b.drop i) put=(if !put && !ltS b[i].1 u then [(u,e)] else [])++((if b[i].1=u then [] else [b[i]])++becR u e (b.drop (i+1)) (put || !ltS b[i].1 u)):=by
 rw[List.drop_eq_getElem_cons hi]; rfl
theorem becR_len (u:ByteArray)(e:Ent):∀ (b:Book) (put:Bool),(becR u e b put).length≤b.length+1
 | [],true=>by simp[becR]
 | [],false=>by simp[becR]
 | x::r,true=>by
  rw[becR_put]; unfold delB; have:=List.length_filter_le (fun p:ByteArray × Ent=>!decide (p.1=u)) (x::r); simp at this ⊢; omega
 | x::r,false=>by
  unfold becR
  have h1:=becR_len u e r true
  have h2:=becR_len u e r false
  cases hl:ltS x.1 u with
  | true=>simp; split<;>simp<;>omega
  | false =>
   simp -implicitDefEqProofs
   rw[becR_put]
   have:(delB r u).length≤r.length:=by unfold delB; exact List.length_filter_le _ _
   split<;>simp<;>omega
theorem bsChg8:bsI P qZZ=some (qYZ,7,#[.string ⟨#[]⟩,.int .i64 0,.int .i64 0,.int .i64 0,.int .i64 0,.int .i64 0,.int .i64 0]):=by kernel_rfl
theorem bdChg8 (k:ByteArray)(a b c d e f:Int):bdV (binf P qYZ) [(0,.string k),(1,.agg #[.int .i64 a,.int .i64 b,.int .i64 c]),(2,.agg #[.int .i64 d,.int .i64 e,.int .i64 f])]=some (.agg #[.string k,.int .i64 a,.int .i64 b,.int .i64 c,.int .i64 d,.int .i64 e,.int .i64 f]):=by kernel_rfl
structure BecE (b:Book)(u:ByteArray)(ne:Ent)(R:Book)(T:Tags)(h0:Heap)(i:Nat)(s:Env)(h':Heap):Prop where
 i_:s 14 = .int .i64 i
 r:∃ (put:Bool) (out:Book) (L:List (List Value)),s 13 = .bool put∧out++becR u ne (b.drop i) put=R∧Rf 5 qkZ h0 h' (s 12) out.length L.flatten∧El 5 UsrR (fz T h0) L out
variable {K:KTy}
set_option maxHeartbeats 8000000 in
theorem rbecome_ok (b:Book)(so:SrtK (keysL b))(u:ByteArray)(ss:List Sess)(now:Int){T:Tags}{h:Heap}{v sv:Value}(w:Wf T h)(x:Sl 5 UsrR (fz T h) v b)(xs:Sl 4 SessR (fz T h) sv ss)(hl:b.length<100000)(hb:∀ y∈b,y.2.ss.length<1000000)(hss:ss.length<1000000)
  (hk:∀ h' v' cv,Ext h h'→Sl 5 UsrR (fz T h') v' (settleB b u ss now).1→Sl 7 ChgR (fz T h') cv (settleB b u ss now).2→K (.tuple #[v',cv]) h'):callM P qdiZ #[v,.string u,sv,.int .u64 now] h K:=by
 apply qtCZ
 unfold qhpZ
 have lx:=x.len
 have ls:=xs.len
 refine rfind_ok b u (x.ext (@UsrR.ext) (fz_ext _ _)) (by omega) fun h1 ov_ e1 hov=>?_
 have oo:=hov.one
 unfold qldZ
 rw[zcUsr]
 refine nw_st rfl (by simp[presC]) (by simp[presC,oo.1]) fun bu h2 n2 e2 c2=>?_
 simp -implicitDefEqProofs only[cells_agg,presC] at c2
 have e02:=e1.trans e2
 refine rof_ok ss now (xs.ext (@SessR.ext) ((fz_ext _ _).trans e02)) hss fun h3 e3=>?_
 unfold qlcZ
 rw[zcPres]
 refine nw_st rfl (by simp[presC]) (by simp[presC]) fun bp h4 n4 e4 c4=>?_
 simp -implicitDefEqProofs only[cells_agg,presC] at c4
 have e24:=e3.trans e4
 have e04:=e02.trans e24
 have cu4:=e24 _ _ c2
 have h0:(decide ((ss.length:Int)=0))=decide (ss=[]):=decide_eq_decide.2 ⟨fun hh=>List.length_eq_zero_iff.1 (by omega),fun hh=>by rw[hh]; rfl⟩
 obtain⟨ne,hne⟩:∃ ne:Ent,ne=⟨ss,presOf ss now⟩:=⟨_,rfl⟩
 obtain⟨R,hR⟩:∃ R,becR u ne b (decide (ss=[]))=R:=⟨_,rfl⟩
 have hset:(settleB b u ss now).1=R:=by rw[settle_eq so,← hne]; exact hR
 have w4:Wf T h4:=w.ext e04
 have xF:Sl 5 UsrR (fz T h4) v b:=x.ext (@UsrR.ext) (fz_of_ext e04)
 have sF:Sl 4 SessR (fz T h4) sv ss:=xs.ext (@SessR.ext) (fz_of_ext e04)
 obtain⟨svb,svn,svc,rfl⟩:=Sl.slice' xs
 have hlR:R.length≤b.length+1:=by rw[← hR]; exact becR_len _ _ _ _
 simp -implicitDefEqProofs[ls]
 rw[seqM_eq]
 unfold qlbZ
 refine loop_on [0,1,2,9,10,11] (fun s h'=>∃ i:Nat,i≤b.length∧BecE b u ne R T h4 i s h') (fun s _=>(b.length-num (s 14)).toNat) ⟨0,by omega,⟨by simp,decide (ss=[]),[],[],by simp,by simpa using hR,by simpa using Rf.nil (Ext.refl _),El.nil⟩⟩ ?_
 rintro s h5 hf ⟨i,hi,⟨s14,put,out,L,s13,hout,r5,el5⟩⟩
 have s0:s 0=v:=by simpa using hf 0 (by simp)
 have s1:s 1 = .string u:=by simpa using hf 1 (by simp)
 have s2:s 2 = .slice svb svn svc:=by simpa using hf 2 (by simp)
 have s9:s 9 = .slice none 0 0:=by simpa using hf 9 (by simp)
 have s10:s 10=ptr bu:=by simpa using hf 10 (by simp)
 have s11:s 11=ptr bp:=by simpa using hf 11 (by simp)
 have hol:out.length≤R.length:=by rw[← hout]; simp
 have c5:=r5.ex _ _ c4
 have op:∀ h',h' bp=some (.cells #[.int .i64 (presOf ss now).st,.int .i64 (presOf ss now).pr,.int .i64 (presOf ss now).lv] qnZ (0,0))→ldV (some (some 3)) (ptr bp) h'=some (.agg #[.int .i64 (presOf ss now).st,.int .i64 (presOf ss now).pr,.int .i64 (presOf ss now).lv]):=fun h' hc=>by simp[ld_at hc]
 unfold qlaZ
 simp -implicitDefEqProofs[s0,s14,lx]
 refine⟨fun hc=>?_,fun hc=>?_⟩
 ·have hlt:i<b.length:=by omega
  have hw:IntKind.i64.wrap ((i:Int)+1)=(i+1:Nat):=by rw[wrap64_id (by omega) (by omega)]; omega
  unfold qkZZ
  rw[seqM_eq]
  unfold qkYZ
  rw[seqM_eq]
  have hstep:=becR_step u ne b hlt put
  obtain⟨ub,up,uc,a1,a2,a3⟩:=xF.at (k:=.i64) (i:=i) (by omega) (by omega)
  simp -implicitDefEqProofs only[Int.toNat_natCast] at a3
  obtain⟨bv,rfl,hbv⟩:=a3
  have bvo:=hbv.one
  have q0:∀ h',Ext h4 h'→cel h' ub up=some (.string b[i].1):=fun h' e=>(cels_get (cels_ext ((fz_ext _ _).trans e) a2)).2 0 (by simp[presC])
  have fin:∀ (h6:Heap) (e':Env) (put':Bool) (out':Book) (L':List (List Value)),e' 0=v→e' 1 = .string u→e' 2 = .slice svb svn svc→e' 9 = .slice none 0 0→e' 10=ptr bu→e' 11=ptr bp→e' 13 = .bool put'→e' 14 = .int .i64 i→Rf 5 qkZ h4 h6 (e' 12) out'.length L'.flatten→El 5 UsrR (fz T h4) L' out'→out'.length≤200000→(out'++(if b[i].1=u then [] else [b[i]]))++becR u ne (b.drop (i+1)) put'=R →
    ∀ {Q:Post},(∀ h7 e'',e'' 0=v→e'' 1 = .string u→e'' 2 = .slice svb svn svc→e'' 9 = .slice none 0 0→e'' 10=ptr bu→e'' 11=ptr bp→e'' 14 = .int .i64 i→(∃ (put:Bool) (out:Book) (L:List (List Value)),e'' 13 = .bool put∧out++becR u ne (b.drop (i+1)) put=R∧Rf 5 qkZ h4 h7 (e'' 12) out.length L.flatten∧El 5 UsrR (fz T h4) L out)→Q .normal [] e'' h7)→qfhZ e' h6 Q []:=by
   intro h6 e' put' out' L' u0 u1 u2 u9 u10 u11 u13 u14 r6 el6 hlo hR' Q hQ
   have q0':=q0 h6 r6.ex
   have bn:binV .neq 3 false (.string b[i].1) (.string u)=some (.bool (!decide (b[i].1=u))):=bin_neqS _ _ _ _
   unfold qfhZ
   by_cases hu:b[i].1=u
   ·rw[if_pos hu] at hR'
    simp -implicitDefEqProofs[u0,u1,u14,a1,q0',bn,hu]
    refine hQ _ _ (by simpa using u0) (by simpa using u1) (by simpa using u2) (by simpa using u9) (by simpa using u10) (by simpa using u11) (by simpa using u14) ⟨put',out',L',by simpa using u13,by simpa using hR',by simpa using r6,el6⟩
   ·rw[if_neg hu] at hR'
    simp -implicitDefEqProofs[u0,u1,u14,a1,q0',bn,hu]
    unfold qkCZ
    simp -implicitDefEqProofs[u0,u14,a1,ldV_n (cels_ext ((fz_ext _ _).trans r6.ex) a2)]
    refine bs_one bsUsr (by simp[presC]) (by omega) fun b2 h7 n7 e7 c7=>?_
    refine Rf.app2 (m:=1) (news:=.string b[i].1::bv::presC b[i].2.told) unSlUsr apUsr (by omega) (r6.ext e7) (.inr ⟨b2,0,1,rfl,cels_one c7 (by simp[presC])⟩) (by simp[presC,bvo.1]) (by unfold maxLen; omega) (by omega) fun v' h8 r8 hkp hrow=>?_
    unfold qkBZ
    refine hQ _ _ (by simpa using u0) (by simpa using u1) (by simpa using u2) (by simpa using u9) (by simpa using u10) (by simpa using u11) (by simpa using u14) ⟨put',out'++[b[i]],L'++[.string b[i].1::bv::presC b[i].2.told],by simpa using u13,hR',?_,el6.app (El.sing (by simp[presC]) (by simp[presC,bvo.1]) ⟨bv,rfl,hbv⟩)⟩
    rw[List.flatten_append]; simpa using r8
  have noput:(put=true∨ltS b[i].1 u=true)→(out++(if b[i].1=u then [] else [b[i]]))++becR u ne (b.drop (i+1)) put=R:=fun hh=>by
   rw[← hout,hstep]
   rcases hh with hh | hh
   ·subst hh; simp
   ·rw[hh]; simp
  have q0':=q0 h5 r5.ex
  unfold qkXZ
  cases put with
  | true =>
   simp -implicitDefEqProofs[s13]
   unfold qfgZ
   simp -implicitDefEqProofs
   refine fin _ _ true out L (by simpa using s0) (by simpa using s1) (by simpa using s2) (by simpa using s9) (by simpa using s10) (by simpa using s11) (by simpa using s13) (by simpa using s14) (by simpa using r5) el5 (by omega) (noput (.inl rfl)) fun h7 e'' w0 w1 w2 w9 w10 w11 w14 w=>?_
   simp -implicitDefEqProofs[w0,w1,w2,w9,w10,w11,w14,s0,s1,s2,s9,s10,s11,s14,hw,-Int.natCast_add]
   exact⟨⟨i+1,by omega,⟨by simp,by simpa using w⟩⟩,by omega⟩
  | false =>
   simp -implicitDefEqProofs[s13,s0,s1,s14,a1,q0',bin_geqS]
   cases hlt2:ltS b[i].1 u with
   | true =>
    simp -implicitDefEqProofs
    unfold qfgZ
    simp -implicitDefEqProofs
    refine fin _ _ false out L (by simpa using s0) (by simpa using s1) (by simpa using s2) (by simpa using s9) (by simpa using s10) (by simpa using s11) (by simpa using s13) (by simpa using s14) (by simpa using r5) el5 (by omega) (noput (.inr hlt2)) fun h7 e'' w0 w1 w2 w9 w10 w11 w14 w=>?_
    simp -implicitDefEqProofs[w0,w1,w2,w9,w10,w11,w14,s0,s1,s2,s9,s10,s11,s14,hw,-Int.natCast_add]
    exact⟨⟨i+1,by omega,⟨by simp,by simpa using w⟩⟩,by omega⟩
   | false =>
    simp -implicitDefEqProofs
    unfold qkWZ
    simp -implicitDefEqProofs only[s11,s1,s2,op _ c5,ov_s]
    simp -implicitDefEqProofs[bdUsr]
    refine bs_one bsUsr (by simp) (by omega) fun b2 h6 n6 e6 c6=>?_
    refine Rf.app2 (m:=1) (news:=.string u::.slice svb svn svc::presC ne.told) unSlUsr apUsr (by omega) (r5.ext e6) (.inr ⟨b2,0,1,rfl,by rw[hne]; exact cels_one c6 (by simp)⟩) (by simp[presC]) (by unfold maxLen; omega) (by omega) fun v' h7 r7 hkp hrow=>?_
    unfold qkVZ
    simp -implicitDefEqProofs
    have hR':((out++[(u,ne)])++(if b[i].1=u then [] else [b[i]]))++becR u ne (b.drop (i+1)) true=R:=by
     rw[← hout,hstep,hlt2]; simp
    refine fin _ _ true (out++[(u,ne)]) (L++[.string u::.slice svb svn svc::presC ne.told]) (by simpa using s0) (by simpa using s1) (by simpa using s2) (by simpa using s9) (by simpa using s10) (by simpa using s11) (by simp) (by simpa using s14) (by rw[List.flatten_append]; simpa using r7) (el5.app (El.sing (by simp[presC]) (by simp[presC]) ⟨_,rfl,by rw[hne]; exact sF⟩)) (by simp; omega) hR' fun h8 e'' w0 w1 w2 w9 w10 w11 w14 w=>?_
    simp -implicitDefEqProofs[w0,w1,w2,w9,w10,w11,w14,s0,s1,s2,s9,s10,s11,s14,hw,-Int.natCast_add]
    exact⟨⟨i+1,by omega,⟨by simp,by simpa using w⟩⟩,by omega⟩
 ·have hie:i=b.length:=by omega
  subst hie
  -- what is told
  have fin:∀ (h6:Heap) (e':Env),Ext h4 h6→e' 1 = .string u→e' 10=ptr bu→e' 11=ptr bp→Sl 5 UsrR (fz T h6) (e' 12) R→qfiZ e' h6 K []:=by
   intro h6 e' e46 u1 u10 u11 xR
   have cp6:=e46 _ _ c4
   have cu6:=e46 _ _ cu4
   have oq:ldV (some (some 3)) (.pointer (some ⟨bu,2,none⟩)) h6=some (.agg #[.int .i64 (entOf b u).told.st,.int .i64 (entOf b u).told.pr,.int .i64 (entOf b u).told.lv]):=by simp[ld_at cu6]
   unfold qfiZ
   simp -implicitDefEqProofs[u10,u11,op _ cp6,oq,presNe]
   refine⟨fun hne'=>?_,fun heq'=>?_⟩
   ·have hne2:¬ presOf ss now=(entOf b u).told:=by simpa using hne'
    have hs2:(settleB b u ss now).2=[⟨u,(entOf b u).told,presOf ss now⟩]:=by unfold settleB; simp[hne2]
    unfold qkFZ
    simp -implicitDefEqProofs[u1,u10,u11,op _ cp6,oq,bdChg8]
    refine bs_one bsChg8 (by simp) (by omega) fun b2 h7 n7 e7 c7=>?_
    refine hk h7 _ _ ((e04.trans e46).trans e7) (by rw[hset]; exact xR.ext (@UsrR.ext) (fz_of_ext e7)) ?_
    rw[hs2]
    have cc:=fz_new (T:=T) (w.ext (e04.trans e46)) n7 c7
    refine .inr ⟨b2,0,1,rfl,by simp,by unfold maxLen; omega,fun i hi=>?_⟩
    have hi0:i=0:=by simp at hi; omega
    subst hi0
    exact⟨_,by simpa using cels_one cc (by simp),by simp[ChgR,chgC,presC]⟩
   ·have heq2:presOf ss now=(entOf b u).told:=by simpa using heq'
    have hs2:(settleB b u ss now).2=[]:=by unfold settleB; simp[heq2]
    refine hk h6 _ _ (e04.trans e46) (by rw[hset]; exact xR) ?_
    rw[hs2]
    exact .inl ⟨rfl,_,_,rfl⟩
  rw[List.drop_of_length_le (Nat.le_refl _)] at hout
  unfold qkGZ
  rw[seqM_eq]
  unfold qkEZ
  cases put with
  | true =>
   have hR':out=R:=by simpa [becR] using hout
   subst hR'
   simp -implicitDefEqProofs[s13]
   exact fin _ _ r5.ex (by simpa using s1) (by simpa using s10) (by simpa using s11) (by simpa using r5.sl w4 rfl (el5.ext (@UsrR.ext) (fz_of_ext r5.ex)))
  | false =>
   have hR':out++[(u,ne)]=R:=by simpa [becR] using hout
   simp -implicitDefEqProofs[s13]
   unfold qkDZ
   simp -implicitDefEqProofs[s11,s1,s2,op _ c5,bdUsr]
   refine bs_one bsUsr (by simp) (by omega) fun b2 h6 n6 e6 c6=>?_
   refine Rf.app2 (m:=1) (news:=.string u::.slice svb svn svc::presC ne.told) unSlUsr apUsr (by omega) (r5.ext e6) (.inr ⟨b2,0,1,rfl,by rw[hne]; exact cels_one c6 (by simp)⟩) (by simp[presC]) (by unfold maxLen; omega) (by omega) fun v' h7 r7 hkp hrow=>?_
   have el7:=el5.app (El.sing (c:=.string u::.slice svb svn svc::presC ne.told) (y:=(u,ne)) (R:=UsrR) (h:=fz T h4) (sz:=5) (by simp[presC]) (by simp[presC]) ⟨_,rfl,by rw[hne]; exact sF⟩)
   have r7':Rf 5 qkZ h4 h7 v' (out++[(u,ne)]).length (L++[.string u::.slice svb svn svc::presC ne.told]).flatten:=by rw[List.flatten_append]; simpa using r7
   rw[hR'] at r7' el7
   exact fin _ _ r7'.ex (by simpa using s1) (by simpa using s10) (by simpa using s11) (by simpa using r7'.sl w4 rfl (el7.ext (@UsrR.ext) (fz_of_ext r7'.ex)))
end Go.Proofs.YtmbningljbcpkaaGreat
namespace Go.Proofs.YtmbningljbcpkaaGreat
open Go Go.Den Go.MapKept
set_option linter.unusedSimpArgs false
set_option linter.unusedVariables false
set_option maxRecDepth 20000
variable {K:KTy}
set_option maxHeartbeats 8000000 in
theorem rwrite_ok {m:Nat}(b:Book)(g:BkM m b)(hm:m<90000)(o:OpD)(ow:OpW o)(now:Int)(hn:U64 now)(most:Int){T:Tags}{h:Heap}{v uv:Value}(ou:One uv)(w:Wf T h)(x:Sl 5 UsrR (fz T h) v b)
  (hk:∀ h' v' cv,Ext h h'→Sl 5 UsrR (fz T h') v' (writeB b o now most).1→Sl 7 ChgR (fz T h') cv (writeB b o now most).2.1→K (.tuple #[v',cv,.int .i64 (writeB b o now most).2.2]) h'):callM P qhgZ #[v,.agg (opC o uv).toArray,.int .u64 now,.int .i64 most] h K:=by
 apply qtOZ
 unfold qiGZ
 refine nw_agg fun v1 h1 n1 e1 c1=>?_
 simp -implicitDefEqProofs only[opC] at c1
 have cs:∀ h',Ext h1 h'→cel h' v1 0=some (.int .i64 o.kind)∧cel h' v1 1=some (.string o.user)∧cel h' v1 2=some (.int .i64 o.id)∧cel h' v1 3=some (.int .i64 o.status)∧cel h' v1 4=some (.int .i64 o.prio)∧cel h' v1 5=some (.int .u64 o.ttl):=fun h' e=>by
  have:=e _ _ c1
  simp -implicitDefEqProofs[cel_of this]
 obtain⟨k0,k1,k2,k3,k4,k5⟩:=cs h1 (Ext.refl _)
 simp -implicitDefEqProofs[k1]
 refine rfind_ok b o.user (x.ext (@UsrR.ext) ((fz_ext _ _).trans e1)) (by have:=g.bl; omega) fun h2 sv e2 hsv=>?_
 have e02:=e1.trans e2
 unfold qnaZ
 simp -implicitDefEqProofs[fdV]
 have w2:Wf T h2:=w.ext e02
 obtain⟨S,hS⟩:∃ S,purgeS (entOf b o.user).ss now=S:=⟨_,rfl⟩
 have he:(entOf b o.user).ss.length≤m∧SrtI (entOf b o.user).ss:=by
  rcases entOf_cases b o.user with e | ⟨y,h1,h2,h3⟩
  ·rw[e]; exact⟨by simp[ent0],List.Pairwise.nil⟩
  ·rw[h3]; exact⟨g.bn y h1,(g.bw.us y h1).1⟩
 have hSl:S.length≤m:=by rw[← hS]; unfold purgeS; exact Nat.le_trans (List.length_filter_le _ _) he.1
 have hSs:SrtI S:=by rw[← hS]; exact he.2.purge now
 refine rpurge_ok (entOf b o.user).ss now (hsv.ext (@SessR.ext) e2) (by omega) fun h3 sv3 r3=>?_
 rw[hS] at r3
 have xs3:Sl 4 SessR (fz T h3) sv3 S:=rf_sessT r3 w2
 have e03:=e02.trans r3.ex
 have e13:=e2.trans r3.ex
 have w3:Wf T h3:=w.ext e03
 obtain⟨k0,k1,k2,k3,k4,k5⟩:=cs h3 e13
 unfold qmZZ
 simp -implicitDefEqProofs[k5]
 refine refAdd_ok hn ow.u1 ?_
 obtain⟨un,hun⟩:∃ un,addU now o.ttl=un:=⟨_,rfl⟩
 rw[hun]
 unfold qmYZ
 rw[seqM_eq]
 have fin:∀ (h4:Heap) (s:Env) (W:List Sess × Int),Ext h3 h4→s 0=v→s 2 = .int .u64 now→s 5=ptr v1→s 13 = .int .i64 W.2→Sl 4 SessR (fz T h4) (s 11) W.1→workS S o now most=W→W.1.length<1000000→qcDZ s h4 K []:=by
  intro h4 s W e34 u0 u2 u5 u13 xW hW hl
  have e04:=e03.trans e34
  obtain⟨_,q1,_⟩:=cs h4 (e13.trans e34)
  have w4:Wf T h4:=w.ext e04
  unfold qcDZ
  simp -implicitDefEqProofs[u0,u2,u5,q1]
  have hwr:writeB b o now most=((settleB b o.user W.1 now).1,(settleB b o.user W.1 now).2,W.2):=by unfold writeB; simp only[hS,hW]
  rw[hwr] at hk
  refine rbecome_ok b (by have:=g.bw.so; exact this) o.user W.1 now w4 (x.ext (@UsrR.ext) (fz_of_ext e04)) xW (by have:=g.bl; omega) (fun y hy=>by have:=g.bn y hy; omega) hl fun h5 v' cv e5 xv xc=>?_
  unfold qkUZ
  simp -implicitDefEqProofs[u13]
  exact hk h5 v' cv (e04.trans e5) xv xc
 unfold qmXZ
 simp -implicitDefEqProofs[k0]
 have hWl:(workS S o now most).1.length<1000000:=by have:=work_len (ss:=S) o now most; omega
 have xs3h:∀ h',Ext h3 h'→Sl 4 SessR (fz T h') sv3 S:=fun h' e=>xs3.ext (@SessR.ext) (fz_of_ext e)
 refine⟨fun c1'=>?_,fun c1'=>?_⟩
 ·have hW:workS S o now most=setS S ⟨o.id,o.status,o.prio,un⟩ most:=by unfold workS; rw[if_pos c1',hun]
  rw[hW] at hWl
  unfold qmTZ
  simp -implicitDefEqProofs[k2,k3,k4,bdSess]
  refine rset_ok S hSs ⟨o.id,o.status,o.prio,un⟩ most w3 xs3 (by omega) fun h4 sv4 e4 xs4=>?_
  unfold qmSZ
  simp -implicitDefEqProofs
  exact fin h4 _ _ e4 (by simp) (by simp) (by simp) (by simp) (by simpa using xs4) hW hWl
 unfold qmWZ
 simp -implicitDefEqProofs
 refine⟨fun c2'=>?_,fun c2'=>?_⟩
 ·have hW:workS S o now most=beatS S o.id un:=by unfold workS; rw[if_neg c1',if_pos c2',hun]
  rw[hW] at hWl
  unfold qmVZ
  simp -implicitDefEqProofs[k2]
  refine rbeat_ok S o.id un w3 xs3 (by omega) fun h4 sv4 e4 xs4=>?_
  unfold qmUZ
  simp -implicitDefEqProofs
  exact fin h4 _ _ e4 (by simp) (by simp) (by simp) (by simp) (by simpa using xs4) hW hWl
 unfold qkTZ
 simp -implicitDefEqProofs
 refine⟨fun c3'=>?_,fun c3'=>?_⟩
 ·have hW:workS S o now most=(delS S o.id,if hasI S o.id then 0 else 3):=by unfold workS; rw[if_neg c1',if_neg c2',if_pos c3',clear_eq]
  rw[hW] at hWl
  unfold qkRZ
  rw[seqM_eq]
  unfold qkQZ
  simp -implicitDefEqProofs[k2]
  refine rhas_ok S o.id (xs3.ext (@SessR.ext) (fz_ext _ _)) (by omega) ?_
  have clr:∀ (s:Env),s 0=v→s 2 = .int .u64 now→s 5=ptr v1→s 11=sv3→s 13 = .int .i64 (if hasI S o.id then 0 else 3)→qgoZ s h3 (thenM (fun m s15 h16=>qcDZ s15 h16 K m) (retM P [ResultVar.tmp 8,ResultVar.tmp 9,ResultVar.tmp 10] K)) []:=by
   intro s u0 u2 u5 u11 u13
   unfold qgoZ
   simp -implicitDefEqProofs[u5,u11,k2]
   refine rclear_ok S o.id (xs3.ext (@SessR.ext) (fz_ext _ _)) (by omega) fun h4 sv4 r4=>?_
   exact fin h4 _ _ r4.ex (by simpa using u0) (by simpa using u2) (by simpa using u5) (by simpa using u13) (by simpa using rf_sessT r4 w3) hW hWl
  unfold qkPZ
  cases hh:hasI S o.id with
  | true =>
   rw[hh] at clr
   simp -implicitDefEqProofs
   unfold qkOZ
   simp -implicitDefEqProofs
   exact clr _ (by simp) (by simp) (by simp) (by simp) (by simp)
  | false =>
   rw[hh] at clr
   simp -implicitDefEqProofs
   unfold qkNZ
   simp -implicitDefEqProofs
   exact clr _ (by simp) (by simp) (by simp) (by simp) (by simp)
 ·have hW:workS S o now most=(S,0):=by unfold workS; rw[if_neg c1',if_neg c2',if_neg c3']
  rw[hW] at hWl
  unfold qkSZ
  simp -implicitDefEqProofs
  exact fin h3 _ _ (Ext.refl _) (by simp) (by simp) (by simp) (by simp) (by simpa using xs3) hW hWl
end Go.Proofs.YtmbningljbcpkaaGreat
namespace Go.Proofs.YtmbningljbcpkaaGreat
open Go Go.Den Go.MapKept
set_option linter.unusedSimpArgs false
set_option linter.unusedVariables false
set_option maxRecDepth 20000
def rt (T:Tags)(v:Value):Tags:=fun k=>if rowOf v=some k then lc else T k
theorem rt_nil {T:Tags}{v:Value}{k:Nat}(h:rt T v k=[]):rowOf v≠some k∧T k=[]:=by
 unfold rt at h
 by_cases hv:rowOf v=some k
 ·rw[if_pos hv] at h; cases h
 ·rw[if_neg hv] at h; exact⟨hv,h⟩
theorem rt_of {T:Tags}{v:Value}{k:Nat}(h1:rowOf v≠some k)(h2:T k=[]):rt T v k=[]:=by unfold rt; rw[if_neg h1]; exact h2
theorem rt_fz {T:Tags}{v:Value}{h:Heap}:Ext (fz (rt T v) h) (fz T h):=fun b o e=>by
 obtain⟨h1,h2⟩:=fz_get e
 exact fz_at h1 (rt_nil h2).2
theorem rt_wf {T:Tags}{v:Value}{sz n:Nat}{e:TypeId}{xs:List Value}{h0 h:Heap}(w:Wf T h0)(r:Rf sz e h0 h v n xs):Wf (rt T v) h:=fun b hb=>by
 refine rt_of (fun hh=>?_) ?_
 ·obtain⟨o,ho⟩:=r.row.lt b hh
  rw[ho] at hb; cases hb
 ·exact w.ext r.ex b hb
theorem rt_old {T:Tags}{v:Value}{sz n:Nat}{e:TypeId}{xs:List Value}{h0 h:Heap}(r:Rf sz e h0 h v n xs):Ext (fz T h0) (fz (rt T v) h):=fun b o hb=>by
 obtain⟨h1,h2⟩:=fz_get hb
 exact fz_at (r.ex _ _ h1) (rt_of (fun hh=>by rw[r.new b hh] at h1; cases h1) h2)
theorem rt_app {T:Tags}{v v':Value}{h h':Heap}(kp:∀ b o,h b=some o→rowOf v≠some b→h' b=some o)(ha:rowOf v'=rowOf v∨∃ b,rowOf v'=some b∧h b=none):Ext (fz (rt T v) h) (fz (rt T v') h'):=fun b o hb=>by
 obtain⟨h1,h2⟩:=fz_get hb
 obtain⟨h3,h4⟩:=rt_nil h2
 refine fz_at (kp b o h1 h3) (rt_of (fun hh=>?_) h4)
 rcases ha with ha | ⟨k,ha,hk⟩
 ·exact h3 (by rw[← ha]; exact hh)
 ·rw[ha] at hh; cases hh; rw[hk] at h1; cases h1
theorem unSlChg8:P.underlying qZZ=some (.slice qYZ):=by kernel_rfl
theorem apChg8:apC P qYZ=some (7,64,7):=by kernel_rfl
structure RsE (b:Book)(now:Int)(T:Tags)(h0:Heap)(i:Nat)(s:Env)(h':Heap):Prop where
 i_:s 8 = .int .i64 i
 r:Rf 7 qYZ h0 h' (s 6) (sweepTo b now i).2.length ((sweepTo b now i).2.flatMap chgC)
 o:Sl 5 UsrR (fz (rt T (s 6)) h') (s 7) (sweepTo b now i).1
variable {K:KTy}
set_option maxHeartbeats 8000000 in
theorem rsweep_ok {m:Nat}(b:Book)(g:BkM m b)(hm:m<90000)(now:Int){T:Tags}{h:Heap}{v:Value}(w:Wf T h)(x:Sl 5 UsrR (fz T h) v b)
  (hk:∀ h' v' cv,Ext h h'→Sl 5 UsrR (fz T h') v' (sweepB b now).1→Sl 7 ChgR (fz T h') cv (sweepB b now).2→K (.tuple #[v',cv]) h'):callM P qhhZ #[v,.int .u64 now] h K:=by
 apply qtPZ
 unfold qiHZ
 have lx:=x.len
 rw[seqM_eq]
 unfold qnfZ
 refine loop_on [0,1] (fun s h'=>∃ i:Nat,i≤b.length∧RsE b now T h i s h') (fun s _=>(b.length-num (s 8)).toNat) ⟨0,by omega,⟨by simp,by simpa [sweepTo] using Rf.nil (Ext.refl _),?_⟩⟩ ?_
 ·simp -implicitDefEqProofs only[sweepTo]
  have:Sl 5 UsrR (fz (rt T (.slice none 0 0)) h) v b:=x.ext (@UsrR.ext) (rt_old (sz:=7) (e:=qYZ) (Rf.nil (Ext.refl h)))
  simpa using this
 rintro s h1 hf ⟨i,hi,⟨s8,r,o⟩⟩
 have s0:s 0=v:=by simpa using hf 0 (by simp)
 have s1:s 1 = .int .u64 now:=by simpa using hf 1 (by simp)
 unfold qneZ
 simp -implicitDefEqProofs[s0,s8,lx]
 refine⟨fun hc=>?_,fun hc=>?_⟩
 rotate_left
 ·have hie:i=b.length:=by omega
  subst hie
  have hxc:Sl 7 ChgR (fz T h1) (s 6) (sweepB b now).2:=by
   have r':=r
   rw[List.flatMap_def] at r'
   exact r'.sl w rfl (El.enc (enc:=chgC) (fun _=>rfl) (fun y=>chgC_one y) fun h y=>rfl)
  exact hk h1 _ _ r.ex (o.ext (@UsrR.ext) rt_fz) hxc
 ·have hlt:i<b.length:=by omega
  have bl:=g.bl
  have hw:IntKind.i64.wrap ((i:Int)+1)=(i+1:Nat):=by rw[wrap64_id (by omega) (by omega)]; omega
  have gi:=g.sweepTo now i hi
  have hst:sweepTo b now (i+1)=((settleB (sweepTo b now i).1 b[i].1 (purgeS b[i].2.ss now) now).1,(sweepTo b now i).2++(settleB (sweepTo b now i).1 b[i].1 (purgeS b[i].2.ss now) now).2):=by
   simp -implicitDefEqProofs only[sweepTo]; rw[List.getD_eq_getElem?_getD,List.getElem?_eq_getElem hlt]; rfl
  have hlen:∀ j,j≤b.length→(sweepTo b now j).2.length≤j:=by
   intro j
   induction j with
   | zero=>intro _; simp[sweepTo]
   | succ j ih =>
    intro hj
    have h1:=ih (by omega)
    simp -implicitDefEqProofs only[sweepTo,List.length_append]
    have:∀ (B:Book) u S,(settleB B u S now).2.length≤1:=fun B u S=>by unfold settleB; split<;>split<;>simp
    have h2:=this (sweepTo b now j).1 (b.getD j (⟨#[]⟩,ent0)).1 (purgeS (b.getD j (⟨#[]⟩,ent0)).2.ss now)
    omega
  have hl1:=hlen i hi
  have hl2:=hlen (i+1) (by omega)
  obtain⟨ub,up,sv,i1,i2,i3⟩:=usr_ld x hlt
  have eh1:Ext (fz T h) h1:=(fz_ext _ _).trans r.ex
  obtain⟨q0,q1,_⟩:=i2 h1 eh1
  have hbi:=g.bn _ (List.getElem_mem hlt)
  unfold qndZ
  simp -implicitDefEqProofs[s0,s1,s8,i1,q0,q1]
  refine rpurge_ok b[i].2.ss now (i3.ext (@SessR.ext) eh1) (by omega) fun h2 sv2 r2=>?_
  have w1:Wf (rt T (s 6)) h1:=rt_wf w r
  have xs2:Sl 4 SessR (fz (rt T (s 6)) h2) sv2 (purgeS b[i].2.ss now):=rf_sessT r2 w1
  have w2:Wf (rt T (s 6)) h2:=w1.ext r2.ex
  obtain⟨p0,_,_⟩:=i2 h2 (eh1.trans r2.ex)
  have hpl:(purgeS b[i].2.ss now).length≤b[i].2.ss.length:=by unfold purgeS; exact List.length_filter_le _ _
  unfold qncZ
  simp -implicitDefEqProofs[p0,s1]
  refine rbecome_ok (sweepTo b now i).1 (by have:=gi.bw.so; exact this) b[i].1 (purgeS b[i].2.ss now) now w2 (o.ext (@UsrR.ext) (fz_of_ext r2.ex)) xs2 (by have:=gi.bl; omega) (fun y hy=>by have:=gi.bn y hy; omega) (by omega) fun h3 v' cv e3 xv xc=>?_
  have r3:=(r.ext r2.ex).ext e3
  have hsum:(sweepTo b now i).2.length+(settleB (sweepTo b now i).1 b[i].1 (purgeS b[i].2.ss now) now).2.length≤i+1:=by rw[hst] at hl2; simpa using hl2
  simp -implicitDefEqProofs
  refine Rf.app2 unSlChg8 apChg8 (by omega) r3 (chg_els (xc.ext (@ChgR.ext) (fz_ext _ _))) (flatC_one _) (by unfold maxLen; omega) (by omega) fun a' h4 r4 kp4 ha4=>?_
  have xv4:=xv.ext (@UsrR.ext) (rt_app kp4 ha4)
  unfold qnbZ
  simp -implicitDefEqProofs[s0,s1,s8,hw,-Int.natCast_add]
  refine⟨⟨i+1,by omega,⟨by simp,?_,?_⟩⟩,by omega⟩
  ·rw[hst]; simpa using r4
  ·rw[hst]; simpa using xv4
end Go.Proofs.YtmbningljbcpkaaGreat
namespace Go.Proofs.YtmbningljbcpkaaGreat
open Go Go.Den Go.MapKept
set_option linter.unusedSimpArgs false
set_option linter.unusedVariables false
set_option maxRecDepth 20000
def rfdC (room:Int)(pv:Value)(qv:Nat→Value)(lost:Nat→Bool):List Value :=
 [.int .i64 room,pv,qv 0,qv 1,qv 2,qv 3,qv 4,qv 5,qv 6,qv 7,.bool (lost 0),.bool (lost 1),.bool (lost 2),.bool (lost 3),.bool (lost 4),.bool (lost 5),.bool (lost 6),.bool (lost 7)]
def PairR (_:Heap)(c:List Value)(p:PairD):Prop:=c=[.int .i64 p.who,.string p.user]
theorem PairR.ext {h h':Heap}{c:List Value}{x:PairD}(_:Ext h h')(r:PairR h c x):PairR h' c x:=r
theorem pair_ld {F:Heap}{v:Value}{l:List PairD}(x:Sl 2 PairR F v l){i:Nat}(hi:i<l.length):∃ b p,iaV (some (none,2)) v (.int .i64 i)=some (.pointer (some ⟨b,p,none⟩))∧∀ h',Ext F h'→cels h' b p 2=some [.int .i64 l[i].who,.string l[i].user]:=by
 obtain⟨b,p,c,h1,h2,h3⟩:=x.at (k:=.i64) (i:=i) (by omega) (by omega)
 refine⟨b,p,h1,fun h' e=>?_⟩
 have hc:c=[.int .i64 l[i].who,.string l[i].user]:=h3
 subst hc
 exact cels_ext e h2
section
variable {h:Heap}{q:Nat}{room:Int}{pv:Value}{qv:Nat→Value}{lost:Nat→Bool}{ps:List PairD}{K:KTy}
theorem rfwatching_ok (cp:h q=some (.cells (rfdC room pv qv lost).toArray qtZ (0,0)))(x:Sl 2 PairR h pv ps)(hl:ps.length<1000000)(who:Int)(u:ByteArray)(hk:K (.bool (ps.any (pairIs who u))) h):callM P qaaZ #[ptr q,.int .i64 who,.string u] h K:=by
 apply qqZZ
 unfold qcQZ
 have lx:=x.len
 simp -implicitDefEqProofs only[rfdC] at cp
 have c1:cel h q 1=some pv:=by simp[cel_of cp]
 rw[seqM_eq]
 unfold qgwZ
 refine loop_on [0,1,2,6] (fun s h'=>h'=h∧∃ i:Nat,i≤ps.length∧s 7 = .int .i64 i∧∀ j (hj:j<ps.length),j<i→pairIs who u ps[j]=false) (fun s _=>(ps.length-num (s 7)).toNat) ⟨rfl,0,by omega,by simp,fun j _ hj=>by omega⟩ ?_
 rintro s h1 hf ⟨rfl,i,hi,s7,hn⟩
 have s0:s 0=ptr q:=by simpa using hf 0 (by simp)
 have s1:s 1 = .int .i64 who:=by simpa using hf 1 (by simp)
 have s2:s 2 = .string u:=by simpa using hf 2 (by simp)
 have s6:s 6 = .bool false:=by simpa using hf 6 (by simp)
 unfold qgvZ
 simp -implicitDefEqProofs[s0,s7,c1,lx]
 refine⟨fun hc=>?_,fun hc=>?_⟩
 rotate_left
 ·have e:ps.any (pairIs who u)=false:=by
   rw[Bool.eq_false_iff]
   intro h
   obtain⟨y,hy,h2⟩:=List.any_eq_true.1 h
   obtain⟨j,hj,rfl⟩:=List.getElem_of_mem hy
   rw[hn j hj (by omega)] at h2; cases h2
  rw[e] at hk
  exact hk
 ·have hlt:i<ps.length:=by omega
  have hw:IntKind.i64.wrap ((i:Int)+1)=(i+1:Nat):=by rw[wrap64_id (by omega) (by omega)]; omega
  obtain⟨b,p,i1,i2⟩:=pair_ld x hlt
  have q0:cel h1 b p=some (.int .i64 ps[i].who):=(cels_get (i2 _ (Ext.refl _))).2 0 (by simp)
  have q1:cel h1 b (p+1)=some (.string ps[i].user):=(cels_get (i2 _ (Ext.refl _))).2 1 (by simp)
  have go:pairIs who u ps[i]=false→∀ j (hj:j<ps.length),j<i+1→pairIs who u ps[j]=false:=fun hp j hj hji=>by
   by_cases hjj:j<i
   ·exact hn j hj hjj
   ·have:j=i:=by omega
    subst this; exact hp
  unfold qguZ
  by_cases w1:ps[i].who=who
  ·have be:=bin_eqlS 3 false ps[i].user u
   by_cases w2:ps[i].user=u
   ·have e:ps.any (pairIs who u)=true:=List.any_eq_true.2 ⟨ps[i],List.getElem_mem hlt,by simp[pairIs,w1,w2]⟩
    rw[e] at hk
    rw[decide_eq_true w2] at be
    simp -implicitDefEqProofs[s0,s1,s2,s7,c1,i1,q0,q1,w1,be]
    unfold qgtZ
    simp -implicitDefEqProofs
    exact hk
   ·rw[decide_eq_false w2] at be
    simp -implicitDefEqProofs[s0,s1,s2,s7,c1,i1,q0,q1,w1,be]
    unfold qbWZ
    simp -implicitDefEqProofs[s0,s1,s2,s6,s7,hw,-Int.natCast_add]
    exact⟨⟨i+1,by omega,rfl,go (by simp[pairIs,w1,w2])⟩,by omega⟩
  ·simp -implicitDefEqProofs[s0,s1,s2,s7,c1,i1,q0,q1,w1]
   unfold qbWZ
   simp -implicitDefEqProofs[s0,s1,s2,s6,s7,hw,-Int.natCast_add]
   exact⟨⟨i+1,by omega,rfl,go (by simp[pairIs,w1])⟩,by omega⟩
theorem rfcount_ok (cp:h q=some (.cells (rfdC room pv qv lost).toArray qtZ (0,0)))(x:Sl 2 PairR h pv ps)(hl:ps.length<1000000)(who:Int)(hk:K (.int .i64 (ps.filter fun p=>decide (p.who=who)).length) h):callM P qeiZ #[ptr q,.int .i64 who] h K:=by
 apply qseZ
 unfold qeMZ
 have lx:=x.len
 simp -implicitDefEqProofs only[rfdC] at cp
 have c1:cel h q 1=some pv:=by simp[cel_of cp]
 rw[seqM_eq]
 unfold qhUZ
 refine loop_on [0,1] (fun s h'=>h'=h∧∃ i:Nat,i≤ps.length∧s 6 = .int .i64 i∧s 5 = .int .i64 ((ps.take i).filter fun p=>decide (p.who=who)).length) (fun s _=>(ps.length-num (s 6)).toNat) ⟨rfl,0,by omega,by simp,by simp⟩ ?_
 rintro s h1 hf ⟨rfl,i,hi,s6,s5⟩
 have s0:s 0=ptr q:=by simpa using hf 0 (by simp)
 have s1:s 1 = .int .i64 who:=by simpa using hf 1 (by simp)
 unfold qhTZ
 simp -implicitDefEqProofs[s0,s6,c1,lx]
 refine⟨fun hc=>?_,fun hc=>?_⟩
 rotate_left
 ·have hie:i=ps.length:=by omega
  subst hie
  rw[List.take_of_length_le (Nat.le_refl _)] at s5
  rw[s5]
  exact hk
 ·have hlt:i<ps.length:=by omega
  have hle:((ps.take i).filter fun p=>decide (p.who=who)).length≤i:=by have:=List.length_filter_le (fun p:PairD=>decide (p.who=who)) (ps.take i); simp at this ⊢; omega
  obtain⟨n,hnn⟩:∃ n,((ps.take i).filter fun p=>decide (p.who=who)).length=n:=⟨_,rfl⟩
  have hst:((ps.take (i+1)).filter fun p=>decide (p.who=who)).length=n+(if ps[i].who=who then 1 else 0):=by
   rw[List.take_succ_eq_append_getElem hlt,List.filter_append,List.length_append,hnn]
   by_cases h:ps[i].who=who
   ·simp -implicitDefEqProofs[h]
   ·simp -implicitDefEqProofs[h]
  rw[hnn] at s5 hle
  have hw:IntKind.i64.wrap ((i:Int)+1)=(i+1:Nat):=by rw[wrap64_id (by omega) (by omega)]; omega
  have hwn:IntKind.i64.wrap ((n:Int)+1)=(n+1:Nat):=by rw[wrap64_id (by omega) (by omega)]; omega
  obtain⟨b,p,i1,i2⟩:=pair_ld x hlt
  have q0:cel h1 b p=some (.int .i64 ps[i].who):=(cels_get (i2 _ (Ext.refl _))).2 0 (by simp)
  unfold qhSZ
  rw[seqM_eq]
  unfold qhRZ
  simp -implicitDefEqProofs[s0,s1,s6,c1,i1,q0]
  refine⟨fun h=>?_,fun h=>?_⟩
  ·rw[if_pos h] at hst
   unfold qhPZ
   simp -implicitDefEqProofs[s0,s1,s5,s6,hw,hwn,-Int.natCast_add]
   exact⟨⟨i+1,by omega,rfl,by rw[hst]⟩,by omega⟩
  ·rw[if_neg h] at hst
   unfold qhQZ
   simp -implicitDefEqProofs[s0,s1,s5,s6,hw,-Int.natCast_add]
   exact⟨⟨i+1,by omega,rfl,by rw[hst]; rfl⟩,by omega⟩
end
end Go.Proofs.YtmbningljbcpkaaGreat
namespace Go.Proofs.YtmbningljbcpkaaGreat
open Go Go.Den Go.MapKept
set_option linter.unusedSimpArgs false
set_option linter.unusedVariables false
set_option maxRecDepth 20000
theorem unSlPair:P.underlying qvZ=some (.slice qIZ):=by kernel_rfl
theorem apPair:apC P qIZ=some (2,24,2):=by kernel_rfl
theorem bsPair:bsI P qvZ=some (qIZ,2,#[.int .i64 0,.string ⟨#[]⟩]):=by kernel_rfl
theorem bdPair (w:Int)(u:ByteArray):bdV (binf P qIZ) [(0,.int .i64 w),(1,.string u)]=some (.agg #[.int .i64 w,.string u]):=by kernel_rfl
def pairC (p:PairD):List Value:=[.int .i64 p.who,.string p.user]
structure RfB (T:Tags)(h:Heap)(g:Tag)(q:Nat)(room:Int)(pv:Value)(qv:Nat→Value)(ps:List PairD)(f:Feed):Prop where
 hp:h q=some (.cells (rfdC room pv qv fun j=>(f.qs j).lost).toArray qtZ (0,0))
 tq:T q=g
 pr:Sl 2 PairR (fz T h) pv ps
 qs:∀ j,j<8→Sl 8 EvR (fz T h) (qv j) (f.qs j).l
theorem RfB.kp {U:Tag→Prop}{T T':Tags}{h h':Heap}{g:Tag}{q:Nat}{room:Int}{pv:Value}{qv:Nat→Value}{ps:List PairD}{f:Feed}(x:RfB T h g q room pv qv ps f)(k:Kp U T h T' h')(n:¬ U g)(n0:¬ U []):RfB T' h' g q room pv qv ps f :=
 ⟨(k.at x.hp x.tq n).1,(k.at x.hp x.tq n).2,x.pr.ext (@PairR.ext) (k.ext n0),fun j hj=>(x.qs j hj).ext (@EvR.ext) (k.ext n0)⟩
theorem psU_snoc (l:List PairD)(p:PairD)(who:Int)(u:ByteArray):psUnwatch (l++[p]) who u=if pairIs who u p=true then psUnwatch l who u else psUnwatch l who u++[p]:=by
 unfold psUnwatch
 rw[List.filter_append]
 by_cases h:pairIs who u p=true
 ·rw[if_pos h,List.filter_cons_of_neg (by simp[h])]; simp
 ·rw[if_neg h,List.filter_cons_of_pos (by simpa using h)]; rfl
theorem rf_pairT {T:Tags}{h0 h:Heap}{v:Value}{l:List PairD}(r:Rf 2 qIZ h0 h v l.length (l.flatMap pairC))(w:Wf T h0):Sl 2 PairR (fz T h) v l:=by
 rw[List.flatMap_def] at r
 exact r.sl w rfl (El.enc (enc:=pairC) (fun _=>rfl) (fun y=>by simp[pairC]) fun h y=>rfl)
variable {K:KTy}
set_option maxHeartbeats 4000000 in
theorem runwatch_ok {T:Tags}{h:Heap}{g:Tag}{q:Nat}{room:Int}{pv:Value}{qv:Nat→Value}{ps:List PairD}{f f':Feed}(w:Wf T h)(gn:g≠[])(x:RfB T h g q room pv qv ps f)(hl:ps.length<1000000)(who:Int)(u:ByteArray)(hf':f'.qs=f.qs)
  (hk:∀ h' pv',Only (fun t=>t=g) T h T h'→RfB T h' g q room pv' qv (psUnwatch ps who u) f'→K (.tuple #[]) h'):callM P qcMZ #[ptr q,.int .i64 who,.string u] h K:=by
 apply qrIZ
 unfold qdnZ
 have xp:=x.pr.ext (@PairR.ext) (fz_ext T h)
 have lx:=xp.len
 have cp:=x.hp
 simp -implicitDefEqProofs only[rfdC] at cp
 rw[seqM_eq]
 unfold qgTZ
 refine loop_on [0,1,2] (fun s h'=>∃ i:Nat,i≤ps.length∧s 7 = .int .i64 i∧Rf 2 qIZ h h' (s 6) (psUnwatch (ps.take i) who u).length ((psUnwatch (ps.take i) who u).flatMap pairC)) (fun s _=>(ps.length-num (s 7)).toNat) ⟨0,by omega,by simp,by simpa [psUnwatch] using Rf.nil (Ext.refl _)⟩ ?_
 rintro s h1 hf ⟨i,hi,s7,r⟩
 have s0:s 0=ptr q:=by simpa using hf 0 (by simp)
 have s1:s 1 = .int .i64 who:=by simpa using hf 1 (by simp)
 have s2:s 2 = .string u:=by simpa using hf 2 (by simp)
 have c1:cel h1 q 1=some pv:=by simp[cel_of (r.ex _ _ cp)]
 unfold qgSZ
 simp -implicitDefEqProofs[s0,s7,c1,lx]
 refine⟨fun hc=>?_,fun hc=>?_⟩
 rotate_left
 ·have hie:i=ps.length:=by omega
  subst hie
  rw[List.take_of_length_le (Nat.le_refl _)] at r
  have cp1:=r.ex _ _ cp
  have ro:=r.row.one
  unfold qgUZ
  simp -implicitDefEqProofs[s0,ld_at cp1,cel_of cp1,stm_at cp1,stm_upd,ld_same,cel_same,over,ro.1,ro.2]
  have o1:Only (fun t=>t=g) T h T h1:=Only.of_ext w r.ex
  have o2:Only (fun t=>t=g) T h T (upd h1 q (.cells (rfdC room (s 6) qv fun j=>(f.qs j).lost).toArray qtZ (0,0))):=o1.up (Only.upd o1.wf cp1 x.tq) fun t h=>h
  have e2:Ext (fz T h1) (fz T (upd h1 q (.cells (rfdC room (s 6) qv fun j=>(f.qs j).lost).toArray qtZ (0,0)))):=(Only.upd (U:=fun t=>t=g) o1.wf cp1 x.tq).ext (fun h=>gn h.symm)
  have:=hk _ (s 6) o2 ⟨by rw[upd_same',hf'],x.tq,(rf_pairT r w).ext (@PairR.ext) e2,fun j hj=>by rw[hf']; exact ((x.qs j hj).ext (@EvR.ext) (fz_of_ext r.ex)).ext (@EvR.ext) e2⟩
  simpa [rfdC] using this
 ·have hlt:i<ps.length:=by omega
  have hw:IntKind.i64.wrap ((i:Int)+1)=(i+1:Nat):=by rw[wrap64_id (by omega) (by omega)]; omega
  obtain⟨b,p,i1,i2⟩:=pair_ld xp hlt
  have i2:=i2 h1 r.ex
  have q0:cel h1 b p=some (.int .i64 ps[i].who):=(cels_get i2).2 0 (by simp)
  have q1:cel h1 b (p+1)=some (.string ps[i].user):=(cels_get i2).2 1 (by simp)
  have hst:=psU_snoc (ps.take i) ps[i] who u
  rw[← List.take_succ_eq_append_getElem hlt] at hst
  have hlen:(psUnwatch (ps.take i) who u).length≤ps.length:=by unfold psUnwatch; have:=List.length_filter_le (fun p=>!pairIs who u p) (ps.take i); simp at this ⊢; omega
  have bn:=bin_neqS 3 false ps[i].user u
  unfold qgRZ
  rw[seqM_eq]
  unfold qgQZ
  have keep:pairIs who u ps[i]=false→∀ (a1 a2 a3 a4 a5 a6 a7 a8 a9 b1 b2 b3 b4 b5 b6 b7 b8 b9 c1' c2' c3' d1 d2:Value) {Q:Post},(∀ h' v',Rf 2 qIZ h h' v' (psUnwatch (ps.take (i+1)) who u).length ((psUnwatch (ps.take (i+1)) who u).flatMap pairC)→∀ s',s' 0=ptr q→s' 1 = .int .i64 who→s' 2 = .string u→s' 7 = .int .i64 i→s' 6=v'→Q .normal [] s' h')→qcwZ s h1 Q [] a1 a2 a3 a4 a5 a6 a7 a8 a9 b1 b2 b3 b4 b5 b6 b7 b8 b9 c1' c2' c3' d1 d2:=by
   intro hp a1 a2 a3 a4 a5 a6 a7 a8 a9 b1 b2 b3 b4 b5 b6 b7 b8 b9 c1' c2' c3' d1 d2 Q hQ
   rw[if_neg (by rw[hp]; simp)] at hst
   unfold qcwZ
   simp -implicitDefEqProofs[s0,s7,c1,i1,ldV_n i2]
   refine bs_one bsPair (by simp) (by omega) fun b2' h2 n2 e2 c2=>?_
   refine Rf.app2 (m:=1) (news:=pairC ps[i]) unSlPair apPair (by omega) (r.ext e2) (.inr ⟨b2',0,1,rfl,cels_one c2 (by simp)⟩) (by simp[pairC]) (by unfold maxLen; omega) (by omega) fun v' h3 r3 hkp hrow=>?_
   unfold qgOZ
   exact hQ _ v' (by rw[hst]; simpa using r3) _ (by simpa using s0) (by simpa using s1) (by simpa using s2) (by simpa using s7) (by simp)
  by_cases w1:ps[i].who=who
  ·by_cases w2:ps[i].user=u
   ·rw[if_pos (by simp[pairIs,w1,w2])] at hst
    rw[decide_eq_true w2] at bn
    simp -implicitDefEqProofs[s0,s1,s2,s7,c1,i1,q0,q1,w1,bn]
    unfold qgPZ
    simp -implicitDefEqProofs[s0,s1,s2,s7,hw,-Int.natCast_add]
    exact⟨⟨i+1,by omega,rfl,by rw[hst]; exact r⟩,by omega⟩
   ·rw[decide_eq_false w2] at bn
    simp -implicitDefEqProofs[s0,s1,s2,s7,c1,i1,q0,q1,w1,bn]
    refine keep (by simp[pairIs,w1,w2]) _ _ _ _ _ _ _ _ _ _ _ _ _ _ _ _ _ _ _ _ _ _ _ fun h' v' r' s' t0 t1 t2 t7 t6=>?_
    simp -implicitDefEqProofs[t0,t1,t2,t6,t7,s0,s1,s2,s7,hw,-Int.natCast_add]
    exact⟨⟨i+1,by omega,rfl,r'⟩,by omega⟩
  ·simp -implicitDefEqProofs[s0,s1,s2,s7,c1,i1,q0,q1,w1]
   refine keep (by simp[pairIs,w1]) _ _ _ _ _ _ _ _ _ _ _ _ _ _ _ _ _ _ _ _ _ _ _ fun h' v' r' s' t0 t1 t2 t7 t6=>?_
   simp -implicitDefEqProofs[t0,t1,t2,t6,t7,s0,s1,s2,s7,hw,-Int.natCast_add]
   exact⟨⟨i+1,by omega,rfl,r'⟩,by omega⟩
theorem pair_els {h:Heap}{v:Value}{l:List PairD}(x:Sl 2 PairR h v l):SlC 2 h v l.length (l.flatMap pairC):=by
 obtain⟨L,h1,h2⟩:=x.els fun c y r=>by
  have:c=pairC y:=r
  rw[this]; simp[pairC]
 have:L=l.map pairC:=by
  apply List.ext_getElem (by simp[h2.len])
  intro i a b
  have:=h2.el i a (by simpa using b)
  simp -implicitDefEqProofs only[List.getElem_map]
  exact this
 rw[this,← List.flatMap_def] at h1
 exact h1
set_option maxHeartbeats 4000000 in
theorem rfwatch_ok {T:Tags}{h:Heap}{g:Tag}{q:Nat}{room:Int}{pv:Value}{qv:Nat→Value}{ps:List PairD}{f f':Feed}(w:Wf T h)(gn:g≠[])(x:RfB T h g q room pv qv ps f)(hl:ps.length<1000000)(who:Int)(u:ByteArray)(hf':f'.qs=f.qs)
  (hk:∀ h' pv',Only (fun t=>t=g) T h T h'→RfB T h' g q room pv' qv (psWatch ps who u) f'→K (.tuple #[]) h'):callM P qejZ #[ptr q,.int .i64 who,.string u] h K:=by
 apply qsfZ
 unfold qeNZ
 have xp:=x.pr.ext (@PairR.ext) (fz_ext T h)
 have same:(clientB who=true→ps.any (pairIs who u)=true)→K (.tuple #[]) h:=fun hh=>by
  have e:psWatch ps who u=ps:=by
   unfold psWatch
   by_cases hc:clientB who=true
   ·rw[hh hc]; simp
   ·simp -implicitDefEqProofs[hc]
  refine hk h pv (Only.refl w) ⟨by rw[hf']; exact x.hp,x.tq,by rw[e]; exact x.pr,fun j hj=>by rw[hf']; exact x.qs j hj⟩
 by_cases w0:0≤who
 rotate_left
 ·simp -implicitDefEqProofs[w0]
  exact same fun hc=>by simp[clientB] at hc; omega
 by_cases w8:who<8
 rotate_left
 ·simp -implicitDefEqProofs[w0,w8]
  exact same fun hc=>by simp[clientB] at hc; omega
 simp -implicitDefEqProofs[w0,w8]
 refine rfwatching_ok x.hp xp hl who u ?_
 cases ha:ps.any (pairIs who u) with
 | true =>
  simp -implicitDefEqProofs
  exact same fun _=>ha
 | false =>
  simp -implicitDefEqProofs
  have hps:psWatch ps who u=ps++[⟨who,u⟩]:=by unfold psWatch; rw[if_pos ⟨by simp[clientB]; omega,ha⟩]
  have cp:=x.hp
  simp -implicitDefEqProofs only[rfdC] at cp
  unfold qhWZ
  refine bs_none bsPair fun v1 h1 e1 row1 hr1 new1=>?_
  have c1:cel h1 q 1=some pv:=by simp[cel_of (e1 _ _ cp)]
  have r1:Rf 2 qIZ h h1 v1 0 []:=⟨e1,row1,new1,by simp⟩
  simp -implicitDefEqProofs[c1]
  refine Rf.app2 unSlPair apPair (by omega) r1 (pair_els (xp.ext (@PairR.ext) e1)) (by simp[pairC]; rintro _ y _ (rfl | rfl)<;>rfl) (by unfold maxLen; omega) (by omega) fun v2 h2 r2 hkp2 hrow2=>?_
  unfold qhVZ
  simp -implicitDefEqProofs[bdPair]
  refine bs_one bsPair (by simp) (by omega) fun b2' h3 n3 e3 c3=>?_
  refine Rf.app2 (m:=1) (news:=pairC ⟨who,u⟩) unSlPair apPair (by omega) (r2.ext e3) (.inr ⟨b2',0,1,rfl,cels_one c3 (by simp)⟩) (by simp[pairC]) (by unfold maxLen; omega) (by omega) fun v' h4 r4 hkp hrow=>?_
  have r4':Rf 2 qIZ h h4 v' (psWatch ps who u).length ((psWatch ps who u).flatMap pairC):=by
   rw[hps]; simpa using r4
  have cp1:=r4'.ex _ _ cp
  have ro:=r4'.row.one
  simp -implicitDefEqProofs[ld_at cp1,cel_of cp1,stm_at cp1,stm_upd,ld_same,cel_same,over,ro.1,ro.2]
  have o1:Only (fun t=>t=g) T h T h4:=Only.of_ext w r4'.ex
  have o2:Only (fun t=>t=g) T h T (upd h4 q (.cells (rfdC room v' qv fun j=>(f.qs j).lost).toArray qtZ (0,0))):=o1.up (Only.upd o1.wf cp1 x.tq) fun t h=>h
  have e2:Ext (fz T h4) (fz T (upd h4 q (.cells (rfdC room v' qv fun j=>(f.qs j).lost).toArray qtZ (0,0)))):=(Only.upd (U:=fun t=>t=g) o1.wf cp1 x.tq).ext (fun h=>gn h.symm)
  have:=hk _ v' o2 ⟨by rw[upd_same',hf'],x.tq,(rf_pairT r4' w).ext (@PairR.ext) e2,fun j hj=>by rw[hf']; exact ((x.qs j hj).ext (@EvR.ext) (fz_of_ext r4'.ex)).ext (@EvR.ext) e2⟩
  simpa [rfdC] using this
end Go.Proofs.YtmbningljbcpkaaGreat
