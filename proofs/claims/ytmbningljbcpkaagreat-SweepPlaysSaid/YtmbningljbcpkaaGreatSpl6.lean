/- Words, plain data and contracts of the Go functions that this claim reaches. No condition beyond the hypotheses that each theorem states. -/
import Derived.Test.YtmbningljbcpkaaGreatSpl5
set_option linter.unusedSimpArgs false
set_option linter.unusedVariables false
namespace Go.Proofs.YtmbningljbcpkaaGreat
open Go Go.Den Go.MapKept
set_option linter.unusedSimpArgs false
set_option linter.unusedVariables false
set_option maxRecDepth 20000
theorem tag_ne {T:Tags}{a b:Nat}{s t:Tag}(h1:T a=s)(h2:T b=t)(n:s≠t):a≠b:=fun e=>n (by rw[← h1,← h2,e])
section
variable {s:Nat}{T:Tags}{h:Heap}{g:Tag}{p:Nat}{H:Hall}{K:KTy}
theorem RhX.ata {sv av:Value}{Y:Nat→RSx}(x:RhX T h g p H sv av Y){s:Nat}(hs:s<H.n){k:IntKind}:∃ b,iaV (some (none,1)) sv (.int k s)=some (.pointer (some ⟨b,s,none⟩))∧cel h b s=some (ptr (Y s).bp)∧b≠(Y s).bp∧p≠(Y s).bp:=by
 obtain⟨b,h1,h2⟩:=x.at_ (k:=k) hs
 obtain⟨b',h3,h4⟩:=x.st.1.ia (k:=k) hs
 have hbb:b'=b:=by rw[h1] at h4; simp at h4; exact h4.symm
 subst hbb
 exact⟨b',h1,h2,tag_ne (x.st.2 b' h3) (x.sr s hs).tp (ne_tag (by simp)),tag_ne x.tp (x.sr s hs).tp (ne_tag (by simp))⟩
theorem RhX.told {sv av:Value}{Y:Nat→RSx}(x:RhX T h g p H sv av Y)(w:Wf T h)(hs:s<H.n)(fg:FdG (H.ss s).feed)(hps:(Y s).ps.length<1000000){B:Book}{l:List Chg}{v cv:Value}(xb:Sl 5 UsrR (fz T h) v B)(xc:Sl 7 ChgR (fz T h) cv l)(hl:l.length<1000000)(seq:Int)
  (hk:∀ h',Only (V12 g s) T h T h'→RhR T h' g p (H.put s { H.ss s with book:=B,feed:=(H.ss s).feed.tell l seq })→K (.tuple #[]) h') :
  callM P qauZ #[ptr (Y s).fp,cv,.int .u64 seq] (upd h (Y s).bp (.cells (rstC (H.ss s) { Y s with bk:=v }).toArray qAZ (0,0))) K:=by
 have r:=x.sr s hs
 obtain⟨o1,x1⟩:=x.stw w hs { H.ss s with book:=B } (Y s).sn v r.sn xb rfl rfl
 have o1':Only (fun t=>t=g++[1,s]) T h T (upd h (Y s).bp (.cells (rstC { H.ss s with book:=B } { Y s with sn:=(Y s).sn,bk:=v }).toArray qAZ (0,0))):=Only.upd w r.hp r.tp
 have r1:=x1.sr s hs
 rw[put_at] at r1
 simp -implicitDefEqProofs only[if_true] at r1
 refine rftell_ok l seq o1'.wf (by simp) r1.fd r1.pp fg r1.rm hps (xc.ext (R:=ChgR) (@ChgR.ext) (o1'.ext (by simp))) hl fun h2 qv' o2 r2=>?_
 obtain⟨Y',x2⟩:=x1.stf (s:=s) hs (by exact o2) (by simpa using r2) (r1.pp.tell l seq) (RmE.tell r1.rm seq l)
 rw[put_at,put_put] at x2
 exact hk h2 (o1.trans (o2.mono fun t e=>.inr e)) ⟨sv,av,Y',x2⟩
theorem rz_sweep {m:Nat}(who:Int)(t:Tm)(w:Wf T h)(x:RhR T h g p H)(hs:s<H.n)(hh:HS m H)(hm:m<90000)
  (hk:∀ T' h',Only (pre g) T h T' h'→RhR T' h' g p (H.sweep who s t)→K (.tuple #[]) h'):callM P qdGZ #[ptr p,.int .i64 who,.int .i64 s,.agg (tmC t).toArray] h K:=by
 apply qpFZ
 unfold qeaZ
 have h8:=hh.n8
 obtain⟨w4,w5⟩:=pl4 (show s<8 by omega)
 refine nw_agg fun v1 h1 n1 e1 c1=>?_
 simp -implicitDefEqProofs only[tmC] at c1
 have o1:Only non T h T h1:=Only.of_ext w e1
 have t1:T v1=[]:=w v1 n1
 obtain⟨sv,av,Y,x1⟩:=x.kp o1.k (Off.non _) (not_non _)
 simp -implicitDefEqProofs[w4,w5 4 (by omega) (by omega)]
 refine rz_did who 2 _ o1.wf x1 (by have:=hh.ac; omega) fun T2 h2 av2 o2 x2=>?_
 have b1:=o2.k.at c1 t1 (V03.nil g)
 have c1:=b1.1
 have cp:=x2.hp
 simp -implicitDefEqProofs only[rhC] at cp
 obtain⟨b,ia,cb,nb,np⟩:=x2.ata (k:=.i64) (s:=s) hs
 have r:=x2.sr s hs
 have cs:=r.hp
 simp -implicitDefEqProofs only[rstC] at cs
 have hf:(H.did who 2 (4*(s:Int)+4)).ss s=H.ss s:=rfl
 have st:=hh.st s hs
 have hps:=x1.cnt hh hs
 unfold qgHZ
 simp -implicitDefEqProofs[ld_at cp,cel_of cp,stm_at cp,ld_at cs,cel_of cs,stm_at cs,ld_at c1,cel_of c1,stm_at c1,stm_upd,ld_same,cel_same,over,ia,cb]
 refine rsweep_ok _ st.bk hm t.now o2.wf r.bk fun h5 v' cv e5 xb xc=>?_
 have o5:Only non T2 h2 T2 h5:=Only.of_ext o2.wf e5
 have x5:=x2.own o5.k
 have cp:=e5 _ _ cp
 have cs:=e5 _ _ cs
 have c1:=e5 _ _ c1
 obtain⟨b',ia',cb',nb',np'⟩:=x5.ata (k:=.i64) (s:=s) hs
 have n1:v1≠(Y s).bp:=tag_ne b1.2 (x5.sr s hs).tp (by simp)
 have ob:=xb.one
 unfold qgGZ
 simp -implicitDefEqProofs[ld_at cp,cel_of cp,stm_at cp,ld_at cs,cel_of cs,stm_at cs,ld_at c1,cel_of c1,stm_at c1,stm_skip nb',stm_skip (Ne.symm nb'),ld_skip nb',ld_skip (Ne.symm nb'),cel_skip nb',cel_skip (Ne.symm nb'),stm_skip np',stm_skip (Ne.symm np'),ld_skip np',ld_skip (Ne.symm np'),cel_skip np',cel_skip (Ne.symm np'),stm_skip n1,stm_skip (Ne.symm n1),ld_skip n1,ld_skip (Ne.symm n1),cel_skip n1,cel_skip (Ne.symm n1),stm_upd,ld_same,cel_same,over,ia',cb',ob.1,ob.2]
 refine x5.told o5.wf hs (st.fd.g (by omega)) (by omega) xb xc (Nat.lt_of_le_of_lt (sweep_chg (H.ss s).book t.now (H.ss s).book.length) (by have:=st.bk.bl; omega)) t.seq fun h6 o6 x6=>?_
 exact hk T2 h6 ((((o1.mono non_up).up o2 fun _=>V03.pre).up o5 non_up).up o6 fun t=>V12.pre) x6
theorem rz_write {m:Nat}(who:Int)(o:OpD)(ow:OpW o){uv:Value}(ou:One uv)(t:Tm)(ht:U64 t.now)(w:Wf T h)(x:RhR T h g p H)(hs:s<H.n)(hh:HS m H)(hm:m<90000)
  (hk:∀ T' h',Only (pre g) T h T' h'→RhR T' h' g p (H.write who s o t).1→K (.int .i64 (H.write who s o t).2) h'):callM P qdFZ #[ptr p,.int .i64 who,.int .i64 s,.agg (opC o uv).toArray,.agg (tmC t).toArray] h K:=by
 apply qpEZ
 unfold qdZZ
 have h8:=hh.n8
 obtain⟨w4,w5⟩:=pl4 (show s<8 by omega)
 refine nw_agg fun v1 h0 n0 e0 c0=>?_
 refine nw_agg fun v3 h1 n1 e1 c3=>?_
 simp -implicitDefEqProofs only[tmC] at c3
 have o1:Only non T h T h1:=Only.of_ext w (e0.trans e1)
 have c0:=e1 _ _ c0
 have t1:T v1=[]:=w v1 n0
 have t3:T v3=[]:=w v3 (fresh_of e0 n1)
 obtain⟨sv,av,Y,x1⟩:=x.kp o1.k (Off.non _) (not_non _)
 simp -implicitDefEqProofs[w4,w5 4 (by omega) (by omega)]
 refine rz_did who 2 _ o1.wf x1 (by have:=hh.ac; omega) fun T2 h2 av2 o2 x2=>?_
 have b1:=o2.k.at c0 t1 (V03.nil g)
 have b3:=o2.k.at c3 t3 (V03.nil g)
 have c1:=b1.1
 have c3:=b3.1
 have oh:Only (pre g) T h T2 h2:=(o1.mono non_up).up o2 fun _=>V03.pre
 unfold qgFZ
 cases htc:t.closed with
 | true =>
  rw[htc] at c3
  have e:H.write who s o t=(H.wr who s,5):=by simp[Hall.write,htc]
  rw[e] at hk
  simp -implicitDefEqProofs[ld_at c3,cel_of c3,stm_at c3,stm_upd,ld_same,cel_same,over]
  exact hk T2 h2 oh ⟨sv,av2,Y,x2⟩
 | false =>
 rw[htc] at c3
 have hagO:ldV (some (some 7)) (ptr v1) h2=some (.agg (opC o uv).toArray):=by simp only[opC] at c1; simp[ld_at c1,opC]
 obtain⟨rr,hr⟩:∃ rr,writeB (H.ss s).book o t.now H.c.sessions=rr:=⟨_,rfl⟩
 have e:H.write who s o t=((H.wr who s).put s { H.ss s with book:=rr.1,feed:=(H.ss s).feed.tell rr.2.1 t.seq },rr.2.2):=by simp[Hall.write,htc,hr]
 rw[e] at hk
 have cp:=x2.hp
 simp -implicitDefEqProofs only[rhC] at cp
 obtain⟨b,ia,cb,nb,np⟩:=x2.ata (k:=.i64) (s:=s) hs
 have r:=x2.sr s hs
 have cs:=r.hp
 simp -implicitDefEqProofs only[rstC] at cs
 have hf:(H.did who 2 (4*(s:Int)+4)).ss s=H.ss s:=rfl
 have hfc:(H.did who 2 (4*(s:Int)+4)).c=H.c:=rfl
 have st:=hh.st s hs
 have hps:=x1.cnt hh hs
 simp -implicitDefEqProofs[ld_at c3,cel_of c3,stm_at c3,stm_upd,ld_same,cel_same,over]
 unfold qgEZ
 simp -implicitDefEqProofs[ld_at cp,cel_of cp,stm_at cp,ld_at cs,cel_of cs,stm_at cs,ld_at c3,cel_of c3,stm_at c3,stm_upd,ld_same,cel_same,over,ia,cb,hagO]
 refine rwrite_ok _ st.bk hm o ow t.now ht H.c.sessions ou o2.wf r.bk fun h5 v' cv e5 xb xc=>?_
 rw[hr] at xb xc
 try rw[hr]
 have hlen:rr.2.1.length≤1:=by rw[← hr]; exact settle_chg _ _ _ _
 have o5:Only non T2 h2 T2 h5:=Only.of_ext o2.wf e5
 have x5:=x2.own o5.k
 have cp:=e5 _ _ cp
 have cs:=e5 _ _ cs
 have c3:=e5 _ _ c3
 obtain⟨b',ia',cb',nb',np'⟩:=x5.ata (k:=.i64) (s:=s) hs
 have n3:v3≠(Y s).bp:=tag_ne b3.2 (x5.sr s hs).tp (by simp)
 have ob:=xb.one
 unfold qgDZ
 simp -implicitDefEqProofs[ld_at cp,cel_of cp,stm_at cp,ld_at cs,cel_of cs,stm_at cs,ld_at c3,cel_of c3,stm_at c3,stm_skip nb',stm_skip (Ne.symm nb'),ld_skip nb',ld_skip (Ne.symm nb'),cel_skip nb',cel_skip (Ne.symm nb'),stm_skip np',stm_skip (Ne.symm np'),ld_skip np',ld_skip (Ne.symm np'),cel_skip np',cel_skip (Ne.symm np'),stm_skip n3,stm_skip (Ne.symm n3),ld_skip n3,ld_skip (Ne.symm n3),cel_skip n3,cel_skip (Ne.symm n3),stm_upd,ld_same,cel_same,over,ia',cb',ob.1,ob.2]
 refine x5.told o5.wf hs (st.fd.g (by omega)) (by omega) xb xc (by omega) t.seq fun h6 o6 x6=>?_
 exact hk T2 h6 ((oh.up o5 non_up).up o6 fun t=>V12.pre) x6
end
end Go.Proofs.YtmbningljbcpkaaGreat
namespace Go.Proofs.YtmbningljbcpkaaGreat
open Go Go.Den Go.MapKept
set_option linter.unusedSimpArgs false
set_option linter.unusedVariables false
set_option maxRecDepth 20000
theorem g4:Gd [4]:=⟨3,[],rfl⟩
end Go.Proofs.YtmbningljbcpkaaGreat
namespace Go.Proofs.YtmbningljbcpkaaGreat
open Go Go.Den Go.MapKept
set_option linter.unusedSimpArgs false
set_option linter.unusedVariables false
set_option maxRecDepth 20000
theorem made_one (v:Value)(n:Nat):madeCells #[v] (n*1)=((List.range n).map fun _=>v).toArray:=by
 apply Array.ext
 ·simp -implicitDefEqProofs[madeCells]
 ·intro i h1 h2
  simp -implicitDefEqProofs[madeCells,Nat.mod_one]
end Go.Proofs.YtmbningljbcpkaaGreat
namespace Go.Den
open Go
set_option linter.unusedVariables false
set_option linter.unusedSimpArgs false
instance actDec:DecidableEq ActD:=fun a b=>decidable_of_iff (a.who=b.who∧a.kind=b.kind∧a.place=b.place) (by cases a; cases b; simp)
end Go.Den
namespace Go.Proofs.YtmbningljbcpkaaGreat
open Go Go.Den Go.MapKept
set_option linter.unusedSimpArgs false
set_option linter.unusedVariables false
set_option maxRecDepth 20000
theorem actNe (p q:ActD){x y:Operand}{K:Value→Prop}:pvM P (do eqGuard .neq qbpZ x y (.agg #[.int .i64 p.who,.int .i64 p.kind,.int .i64 p.place]) (.agg #[.int .i64 q.who,.int .i64 q.kind,.int .i64 q.place]); binOp .neq qbpZ (.agg #[.int .i64 p.who,.int .i64 p.kind,.int .i64 p.place]) (.agg #[.int .i64 q.who,.int .i64 q.kind,.int .i64 q.place])) K=K (.bool (!decide (p=q))):=by
 rw[pv_neq (d:=5) (b:=(p.who == q.who) && ((p.kind == q.kind) && ((p.place == q.place) && true))) (by kernel_rfl) (by omega) (by kernel_rfl)]
 have:((p.who == q.who) && ((p.kind == q.kind) && ((p.place == q.place) && true)))=decide (p=q):=by
  rw[Bool.eq_iff_iff]; cases p; cases q; simp
 rw[this]
theorem act_ld {F:Heap}{v:Value}{l:List ActD}(x:Sl 3 ActR F v l){i:Nat}(hi:i<l.length):∃ b p,iaV (some (none,3)) v (.int .i64 i)=some (.pointer (some ⟨b,p,none⟩))∧∀ h',Ext F h'→cels h' b p 3=some [.int .i64 l[i].who,.int .i64 l[i].kind,.int .i64 l[i].place]:=by
 obtain⟨b,p,c,h1,h2,h3⟩:=x.at (k:=.i64) (i:=i) (by omega) (by omega)
 refine⟨b,p,h1,fun h' e=>?_⟩
 have hc:c=actC l[i]:=h3
 subst hc
 exact cels_ext e h2
variable {K:KTy}
theorem sameActs_ok (xs ys : List ActD) {h : Heap} {v u : Value} (x : Sl 3 ActR h v xs) (y : Sl 3 ActR h u ys) (hl : xs.length < 1000000) (hk : K (.bool (decide (xs = ys))) h) : callM P qegZ #[v, u] h K := by
  apply qqhZ
  unfold qeIZ
  have lx := x.len
  have ly := y.len
  by_cases hlen : xs.length = ys.length
  rotate_left
  · have hne : xs ≠ ys := fun e => hlen (by rw [e])
    have hi : ¬ (xs.length : Int) = ys.length := by omega
    simp -implicitDefEqProofs [lx, ly, hi]
    rw [decide_eq_false hne] at hk; exact hk
  · have hi : (xs.length : Int) = ys.length := by omega
    simp -implicitDefEqProofs [lx, ly, hi]
    unfold qiOZ
    rw [seqM_eq]
    unfold qiNZ
    refine loop_on [0, 1, 4] (fun s h' => h' = h ∧ ∃ i : Nat, i ≤ xs.length ∧ s 5 = .int .i64 i ∧ xs.take i = ys.take i) (fun s _ => (xs.length - num (s 5)).toNat) ⟨rfl, 0, by omega, rfl, by simp⟩ ?_
    rintro s h1 hf ⟨rfl, i, hi, s5, hT⟩
    have s0 : s 0 = v := by simpa using hf 0 (by simp)
    have s1 : s 1 = u := by simpa using hf 1 (by simp)
    have s4 : s 4 = .bool false := by simpa using hf 4 (by simp)
    unfold qiMZ
    simp -implicitDefEqProofs only [s5, s0, lx, bin_lss, ov_s, cd_b]
    refine ⟨fun hc => ?_, fun hc => ?_⟩
    · have hlt : i < xs.length := by have : ((i : Int) < xs.length) := by simpa using hc
                                     omega
      have hly : i < ys.length := by omega
      have hw : IntKind.i64.wrap ((i : Int) + 1) = (i + 1 : Nat) := by rw [wrap64_id (by omega) (by omega)]; omega
      obtain ⟨b, p, i1, i2⟩ := act_ld x hlt
      obtain ⟨b', p', j1, j2⟩ := act_ld y hly
      unfold qiLZ
      simp -implicitDefEqProofs only [s0, s1, s5, i1, j1, ov_s, ldV_n (i2 _ (Ext.refl _)), ldV_n (j2 _ (Ext.refl _)), actNe, cd_b]
      refine ⟨fun hd => ?_, fun hd => ?_⟩
      · have hne : xs[i] ≠ ys[i] := by simpa using hd
        have hne' : xs ≠ ys := fun e => hne (by subst e; rfl)
        unfold qiJZ
        simp -implicitDefEqProofs [s4]
        rw [decide_eq_false hne'] at hk; exact hk
      · have he : xs[i] = ys[i] := by simpa using hd
        unfold qiKZ
        simp -implicitDefEqProofs [s0, s1, s4, s5, hw, -Int.natCast_add]
        exact ⟨⟨i + 1, by omega, rfl, take_eq_succ hT hlt hly he⟩, by omega⟩
    · have hT : xs = ys := by
        have hie : i = xs.length := by have : ¬ ((i : Int) < xs.length) := by simpa using hc
                                       omega
        subst hie
        rw [List.take_of_length_le (Nat.le_refl _), List.take_of_length_le (by omega)] at hT
        exact hT
      rw [decide_eq_true hT] at hk
      simp -implicitDefEqProofs
      exact hk
theorem usr_ln {F:Heap}{v:Value}{l:Book}(x:Sl 5 UsrR F v l){i:Nat}(hi:i<l.length):∃ b p sv,iaV (some (none,5)) v (.int .i64 i)=some (.pointer (some ⟨b,p,none⟩))∧(∀ h',Ext F h'→cel h' b (p+1)=some sv)∧lnV 7 sv=some (.int .i64 l[i].2.ss.length):=by
 obtain⟨b,p,c,h1,h2,h3⟩:=x.at (k:=.i64) (i:=i) (by omega) (by omega)
 obtain⟨sv,hc,hs⟩:=h3
 simp -implicitDefEqProofs only[Int.toNat_natCast] at hc hs
 subst hc
 refine⟨b,p,sv,h1,fun h' e=>(cels_get (cels_ext e h2)).2 1 (by simp[presC]),hs.len⟩
theorem rz_stored {T:Tags}{h:Heap}{g:Tag}{p m:Nat}{H:Hall}(x:RhR T h g p H)(hs:HS m H)(hm:m≤100000)(hk:K (.int .i64 H.stored) h):callM P qcPZ #[ptr p] h K:=by
 apply qpnZ
 unfold qdIZ
 rw[seqM_eq]
 unfold qfyZ
 obtain⟨sv,av,Y,x⟩:=x
 have cp:=x.hp
 simp -implicitDefEqProofs only[rhC] at cp
 have hlen:lnV 7 sv=some (.int .i64 H.n):=x.st.len
 have h8:=hs.n8.2
 have hmm:m*m≤10000000000:=Nat.le_trans (Nat.mul_le_mul hm hm) (by decide)
 have hst:∀ i,i≤H.n→stoH H i≤80000000000:=fun i hi=>Nat.le_trans (stoH_le hs i hi) (Nat.le_trans (Nat.mul_le_mul (Nat.le_trans hi h8) hmm) (by decide))
 refine loop_on [0] (fun s h'=>h'=h∧∃ i:Nat,i≤H.n∧s 4 = .int .i64 i∧s 3 = .int .i64 (stoH H i)) (fun s _=>(H.n-num (s 4)).toNat) ⟨rfl,0,by omega,rfl,rfl⟩ ?_
 rintro s h1 hf ⟨rfl,i,hi,s4,s3⟩
 have s0:s 0=ptr p:=by simpa using hf 0 (by simp)
 have cs10:cel h1 p 10=some sv:=by simp[cel_of cp]
 unfold qfxZ
 simp -implicitDefEqProofs[s0,s4,cs10,hlen]
 refine⟨fun hc=>?_,fun hc=>?_⟩
 rotate_left
 ·have:i=H.n:=by omega
  subst this
  simp -implicitDefEqProofs[s3,stoH_all]
  exact hk
 have hlt:i<H.n:=by omega
 have hw:IntKind.i64.wrap ((i:Int)+1)=(i+1:Nat):=by rw[wrap64_id (by omega) (by omega)]; omega
 obtain⟨b,ia,cb⟩:=x.at_ (k:=.i64) (s:=i) hlt
 have r:=x.sr i hlt
 have cst:=r.hp
 simp -implicitDefEqProofs only[rstC] at cst
 have cb3:cel h1 (Y i).bp 3=some (Y i).bk:=by simp[cel_of cst]
 have st:=hs.st i hlt
 have xb:=r.bk.ext (@UsrR.ext) (fz_ext T h1)
 have bl:=xb.len
 have bl':=st.bk.bl
 obtain⟨B,hB⟩:∃ B,(H.ss i).book=B:=⟨_,rfl⟩
 have hss:=stoH_s H i
 rw[hB] at xb bl bl' hss
 have h80:=hst (i+1) (by omega)
 unfold qfwZ
 rw[seqM_eq]
 unfold qfvZ
 refine loop_on [0,4] (fun s' h'=>h'=h1∧∃ k:Nat,k≤B.length∧s' 5 = .int .i64 k∧s' 3 = .int .i64 (stoH H i+stoTo B k:Nat)) (fun s' _=>(B.length-num (s' 5)).toNat) ⟨rfl,0,by omega,rfl,by simp[s3,stoTo,storedB]⟩ ?_
 rintro s' h2 hf' ⟨rfl,k,hk',s5,s3'⟩
 have t0:s' 0=ptr p:=by simpa [s0] using hf' 0 (by simp)
 have t4:s' 4 = .int .i64 i:=by simpa [s4] using hf' 4 (by simp)
 unfold qfuZ
 simp -implicitDefEqProofs[t0,t4,s5,cs10,ia,cb,cb3,bl]
 refine⟨fun hc2=>?_,fun hc2=>?_⟩
 rotate_left
 ·have:k=B.length:=by omega
  subst this
  have hall:stoTo B B.length=storedB B:=by unfold stoTo; rw[List.take_length]
  rw[hall,← hss] at s3'
  unfold qftZ
  simp -implicitDefEqProofs[t0,t4,s0,s4,hw,s3',-Int.natCast_add]
  exact⟨⟨i+1,by omega,rfl,rfl⟩,by omega⟩
 have hltk:k<B.length:=by omega
 have hwk:IntKind.i64.wrap ((k:Int)+1)=(k+1:Nat):=by rw[wrap64_id (by omega) (by omega)]; omega
 obtain⟨bb,pp,sv',j1,j2,j3⟩:=usr_ln xb hltk
 have hto:=stoTo_s hltk
 have htl:=stoTo_le (b:=B) (k+1)
 have hw2:IntKind.i64.wrap (((stoH H i+stoTo B k:Nat):Int)+B[k].2.ss.length)=((stoH H i+stoTo B (k+1):Nat):Int):=by
  rw[hto] at htl ⊢
  rw[wrap64_id (by omega) (by omega)]; omega
 unfold qfsZ
 simp -implicitDefEqProofs[t0,t4,s0,s4,s5,s3',cs10,ia,cb,cb3,j1,j2 _ (Ext.refl _),j3,hw2,hwk,-Int.natCast_add]
 exact⟨⟨k+1,by omega,rfl,rfl⟩,by omega⟩
theorem bdRHall (a b c d e f g:Int):bdV (binf P qrZ) [(0,.agg #[.int .i64 a,.int .i64 b,.int .i64 c,.int .i64 d,.int .i64 e,.int .u64 f,.int .u64 g])]=some (.agg #[.int .i64 a,.int .i64 b,.int .i64 c,.int .i64 d,.int .i64 e,.int .u64 f,.int .u64 g,.int .u64 0,.int .u64 0,.bool false,.slice none 0 0,.slice none 0 0]):=by kernel_rfl
theorem bdRFeed (n:Int):bdV (binf P qwZ) [(0,.int .i64 n)]=some (.agg (rfdC n (.slice none 0 0) (fun _=>.slice none 0 0) fun _=>false).toArray):=by kernel_rfl
theorem bdRStripe (n:Int)(fp:Option Addr):bdV (binf P qAZ) [(0,.int .i64 n),(4,.pointer fp)]=some (.agg #[.int .i64 n,.int .u64 0,.slice none 0 0,.slice none 0 0,.pointer fp]):=by kernel_rfl
theorem bsRS:bsI P qEZ=some (qbqZ,1,#[.pointer none]):=by kernel_rfl
theorem unSlRS:P.underlying qEZ=some (.slice qbqZ):=by kernel_rfl
theorem apRS:apC P qbqZ=some (1,8,1):=by kernel_rfl
def RhNewI (T:Tags)(h:Heap)(g:Tag)(p:Nat)(c:Cfg)(v:Value)(h':Heap):Prop :=
 ∃ (T':Tags) (i:Nat),Only (pre g) T h T' h'∧RhR T' h' g p (hall0 c i)∧i≤c.stripes.toNat∧v = .int .i64 i
set_option maxHeartbeats 1000000 in
theorem rz_new (c:Cfg)(hr:rightB c=true){T:Tags}{h:Heap}(w:Wf T h){g:Tag}(gg:Gd g)
  (hk:∀ T' h' p,Only (pre g) T h T' h'→RhR T' h' g p (hall0 c c.stripes.toNat)→K (ptr p) h'):callM P qidZ #[.agg (cfgC c).toArray] h K:=by
 apply qsKZ
 unfold qjdZ
 have hn:1≤c.stripes∧c.stripes≤8∧1≤c.queue:=by simp[rightB] at hr; omega
 refine nw_agg fun v1 h1 n1 e1 c1=>?_
 have w1:=w.ext e1
 have t1:T v1=[]:=w v1 n1
 simp -implicitDefEqProofs only[cfgC] at c1
 simp -implicitDefEqProofs[ld_at c1,cel_of c1,stm_at c1,stm_upd,ld_same,cel_same,over,bdRHall]
 refine nw_tag w1 (g++[0]) fun p T3 h3 n3 o3 t3 c3=>?_
 have b1:=o3.see ⟨c1,t1⟩ (not_non _)
 have c1:=b1.1
 have u4:=Only.upd (U:=fun t=>t=g++[0]) (o':=.cells (rhC (hall0 c 0) (.slice none 0 0) (.slice none 0 0)).toArray qrZ (0,0)) o3.wf c3 t3
 simp -implicitDefEqProofs[ld_at c1,cel_of c1,stm_at c1,ld_at c3,cel_of c3,stm_at c3,stm_upd,ld_same,cel_same,over]
 rw[seqM_eq]
 unfold qmpZ
 have o0:Only (pre g) T h T3 _:=((Only.of_ext w e1).up o3 non_up).up u4 fun t=>eq_pre
 have x0:RhR T3 (upd h3 p (.cells (rhC (hall0 c 0) (.slice none 0 0) (.slice none 0 0)).toArray qrZ (0,0))) g p (hall0 c 0):=⟨.slice none 0 0,.slice none 0 0,fun _=>⟨0,.slice none 0 0,.slice none 0 0,0,.slice none 0 0,fun _=>.slice none 0 0,[]⟩,upd_same' _ _ _,t3,Rw.nil _ _ _ _ _,Rw.nil _ _ _ _ _,fun i hi=>by simp[hall0] at hi⟩
 have b1:=u4.see b1 (by simp)
 obtain⟨h4,hh4⟩:∃ h4,upd h3 p (.cells (rhC (hall0 c 0) (.slice none 0 0) (.slice none 0 0)).toArray qrZ (0,0))=h4:=⟨_,rfl⟩
 have hh4':upd h3 p (.cells #[.int .i64 c.stripes,.int .i64 c.sessions,.int .i64 c.queue,.int .i64 c.watches,.int .i64 c.retries,.int .u64 c.epochs,.int .u64 c.start,.int .u64 c.start,.int .u64 0,.bool false,.slice none 0 0,.slice none 0 0] qrZ (0,0))=h4:=hh4
 rw[hh4] at o0 x0 b1
 rw[hh4']
 refine loop_on [1,3] (fun s h'=>RhNewI T3 h4 g p c (s 4) h') (fun s _=>(c.stripes.toNat-num (s 4)).toNat) ⟨T3,0,Only.refl o0.wf,x0,by omega,rfl⟩ ?_
 rintro s h5 hf ⟨T5,i,o5,⟨sv,av,Y,x⟩,hi,s4⟩
 have s1:s 1=ptr v1:=by simpa using hf 1 (by simp)
 have s3:s 3=ptr p:=by simpa using hf 3 (by simp)
 have b1:=o5.see b1 gg.nil
 have c1:=b1.1
 unfold qmoZ
 simp -implicitDefEqProofs[s1,s4,ld_at c1,cel_of c1,stm_at c1,stm_upd,ld_same,cel_same,over]
 refine⟨fun hc=>?_,fun hc=>?_⟩
 rotate_left
 ·have:i=c.stripes.toNat:=by omega
  subst this
  simp -implicitDefEqProofs[s3]
  exact hk T5 h5 p (o0.trans o5) ⟨sv,av,Y,x⟩
 have hlt:i<c.stripes.toNat:=by omega
 have hw:IntKind.i64.wrap ((i:Int)+1)=(i+1:Nat):=by rw[wrap64_id (by omega) (by omega)]; omega
 have bp:h5 p=_∧T5 p=_:=⟨x.hp,x.tp⟩
 simp -implicitDefEqProofs only[rhC] at bp
 have cp:=bp.1
 unfold qmnZ
 simp -implicitDefEqProofs[s1,s3,ld_at c1,cel_of c1,stm_at c1,ld_at cp,cel_of cp,stm_at cp,stm_upd,ld_same,cel_same,over,bdRFeed]
 refine nw_tag o5.wf (g++[2,i]) fun fp T6 h6 n6 o6 t6 c6=>?_
 have bp:=o6.see bp (not_non _)
 have cp:=bp.1
 simp -implicitDefEqProofs[ld_at cp,cel_of cp,stm_at cp,stm_upd,ld_same,cel_same,over,bdRStripe]
 refine nw_tag o6.wf (g++[1,i]) fun sp T7 h7 n7 o7 t7 c7=>?_
 have b6:=o7.see ⟨c6,t6⟩ (not_non _)
 have bp:=o7.see bp (not_non _)
 have cp:=bp.1
 have x7:=(x.own o6.k).own o7.k
 simp -implicitDefEqProofs[ld_at cp,cel_of cp,stm_at cp,stm_upd,ld_same,cel_same,over]
 refine bs_one bsRS (by simp) (by omega) fun rb h8 n8 e8 c8=>?_
 have o8:Only non T7 h7 T7 h8:=Only.of_ext o7.wf e8
 have bp:=o8.see bp (not_non _)
 have cp:=bp.1
 have b6:=o8.see b6 (not_non _)
 have b7:=o8.see ⟨c7,t7⟩ (not_non _)
 have x8:=x7.own o8.k
 refine⟨by simp[ld_at cp,cel_of cp,stm_at cp,stm_upd,ld_same,cel_same,over],?_⟩
 have st8:=x8.st
 refine Rw.app1 (m:=1) (news:=[ptr sp]) unSlRS apRS (by omega) o8.wf st8 (cels_one (x:=ptr sp) c8 (by simp)) (by simp) (by unfold maxLen; simp[hall0]; omega) (by simp[hall0]; omega) fun sv' T9 h9 o9 st9=>?_
 have bp:=o9.see bp (ne_tag (by simp))
 have cp:=bp.1
 have b6:=o9.see b6 (ne_tag (by simp))
 have b7:=o9.see b7 (ne_tag (by simp))
 have ho:=st9.one
 simp -implicitDefEqProofs[ld_at cp,cel_of cp,stm_at cp,stm_upd,ld_same,cel_same,over,ho.1,ho.2,s1,s3,s4,hw,-Int.natCast_add]
 refine⟨?_,by omega⟩
 have o10:=Only.upd (U:=fun t=>t=g++[0]) (o':=.cells (rhC (hall0 c (i+1)) sv' av).toArray qrZ (0,0)) o9.wf bp.1 bp.2
 have b6:=o10.see b6 (ne_tag (by simp))
 have b7:=o10.see b7 (ne_tag (by simp))
 refine⟨T9,i+1,((((o5.up o6 non_up).up o7 non_up).up o8 non_up).up o9 fun t=>eq_pre).up o10 fun t=>eq_pre,
  ⟨sv',av,fun k=>if k=i then ⟨sp,.slice none 0 0,.slice none 0 0,fp,.slice none 0 0,fun _=>.slice none 0 0,[]⟩ else Y k,upd_same' _ _ _,bp.2,?_,?_,fun k hk=>?_⟩,by omega,rfl⟩
 ·have:=st9.kp o10.k (ne_tag (by simp))
  simp -implicitDefEqProofs only[hall0]
  rw[seqF_succ]
  have e1:seqF i (fun k=>[ptr (if k=i then (⟨sp,.slice none 0 0,.slice none 0 0,fp,.slice none 0 0,fun _=>.slice none 0 0,[]⟩:RSx) else Y k).bp])=seqF i fun k=>[ptr (Y k).bp]:=seqF_congr fun k hk=>by rw[if_neg (by omega)]
  rw[e1]
  simpa [hall0,rhC] using this
 ·exact (x8.ac.kp o9.k (ne_tag (by simp))).kp o10.k (ne_tag (by simp))
 ·by_cases hki:k=i
  ·subst hki
   simp -implicitDefEqProofs only[if_true]
   refine⟨b7.1,b7.2,.inl ⟨rfl,_,_,rfl⟩,.inl ⟨rfl,_,_,rfl⟩,⟨b6.1,b6.2,.inl ⟨rfl,_,_,rfl⟩,fun j hj=>.inl ⟨rfl,_,_,rfl⟩⟩,⟨fun j hj=>by simp[psOf,wsOf,hall0,strp0,feed0],by simp⟩,fun j hj=>?_,rfl⟩
   simp -implicitDefEqProofs[hall0,strp0,feed0,ring0]; omega
  ·simp -implicitDefEqProofs only[if_neg hki]
   have hki':k<i:=by simp[hall0] at hk; omega
   exact ((x8.sr k hki').kp o9.k (ne_tag (by simp)) (ne_tag (by simp)) (by simp)).kp o10.k (ne_tag (by simp)) (ne_tag (by simp)) (by simp)
end Go.Proofs.YtmbningljbcpkaaGreat
namespace Go.Proofs.YtmbningljbcpkaaGreat
open Go Go.Den Go.MapKept
set_option linter.unusedSimpArgs false
set_option linter.unusedVariables false
set_option maxRecDepth 20000
theorem odd_lt {v:Int}(h:U64 v)(hw:wrt v=true→v<18446744073709551615):0≤v∧v<18446744073709551615:=by
 unfold U64 at h
 refine⟨h.1,?_⟩
 by_cases e:v=18446744073709551615
 ·subst e; exact hw (by decide)
 ·omega
theorem off13:Off (pre [1]) [3]:=off_pre (g:=[]) (x:=[1]) (y:=[3]) (by simp) (by simp)
theorem off31:Off (pre [3]) [1]:=off_pre (g:=[]) (x:=[3]) (y:=[1]) (by simp) (by simp)
end Go.Proofs.YtmbningljbcpkaaGreat
namespace Go.Proofs.YtmbningljbcpkaaGreat
open Go Go.Den Go.MapKept
set_option linter.unusedSimpArgs false
set_option linter.unusedVariables false
set_option maxRecDepth 20000
def rwC (p:WP)(sw:Bool)(o:OpD)(uv:Value):List Value:=[.int .i64 p.who,.int .i64 p.s,.int .i64 p.at_,.int .i64 p.placed,.int .i64 o.kind,.string o.user,.int .i64 o.id,.int .i64 o.status,.int .i64 o.prio,.int .u64 o.ttl,uv,.bool sw,.int .u64 p.t.now,.int .u64 p.t.seq,.bool p.t.closed,.int .i64 p.err,.slice none 0 0,.slice none 0 0,.bool false]
def RwK (p:WP)(sw:Bool)(o:OpD):Prop:=match p.k with
 | .bad=>sw=false∧badB o=true
 | .op x=>sw=false∧x=o∧badB o=false
 | .sweep=>sw=true∧p.err=0
structure RwX (T:Tags)(h:Heap)(g:Tag)(q:Nat)(p:WP)(sw:Bool)(o:OpD)(uv:Value):Prop where
 hp:h q=some (.cells (rwC p sw o uv).toArray qoZ (0,0))
 tp:T q=g
 us:Sl 1 StrR (fz T h) uv o.users
 ow:OpW o
 ol:o.users.length<1000000
 kk:RwK p sw o
def RWP (T:Tags)(h:Heap)(g:Tag)(q:Nat)(p:WP):Prop:=∃ sw o uv,RwX T h g q p sw o uv
theorem RwX.kp {U:Tag→Prop}{T T':Tags}{h h':Heap}{g:Tag}{q:Nat}{p:WP}{sw:Bool}{o:OpD}{uv:Value}(x:RwX T h g q p sw o uv)(k:Kp U T h T' h')(n:¬ U g)(n0:¬ U []):RwX T' h' g q p sw o uv :=
 ⟨(k.at x.hp x.tp n).1,(k.at x.hp x.tp n).2,x.us.ext (@StrR.ext) (k.ext n0),x.ow,x.ol,x.kk⟩
theorem RWP.kp {U:Tag→Prop}{T T':Tags}{h h':Heap}{g:Tag}{q:Nat}{p:WP}(x:RWP T h g q p)(k:Kp U T h T' h')(n:¬ U g)(n0:¬ U []):RWP T' h' g q p:=let ⟨sw,o,uv,x⟩:=x; ⟨sw,o,uv,x.kp k n n0⟩
theorem RwK.bad {p:WP}{sw:Bool}{o:OpD}(k:RwK p sw o):p.k.isBad=(!sw && badB o):=by
 unfold RwK at k
 cases hk:p.k with
 | bad=>rw[hk] at k; simp[WK.isBad,k.1,k.2]
 | op x=>rw[hk] at k; simp[WK.isBad,k.1,k.2.2]
 | sweep=>rw[hk] at k; simp[WK.isBad,k.1]
section
variable {T:Tags}{h:Heap}{g:Tag}{q:Nat}{p:WP}{K:KTy}
theorem rwbad_ok (x:RWP T h g q p)(hk:∀ h',Ext h h'→K (.bool p.k.isBad) h'):callM P qbIZ #[ptr q] h K:=by
 apply qqkZ
 unfold qeLZ
 obtain⟨sw,o,uv,x⟩:=x
 have cp:=x.hp
 simp -implicitDefEqProofs only[rwC] at cp
 rw[x.kk.bad] at hk
 have og:ldV (some (some 7)) (.pointer (some ⟨q,4,none⟩)) h=some (.agg (opC o uv).toArray):=by simp[ld_at cp,opC]
 cases sw with
 | true =>
  simp -implicitDefEqProofs[ld_at cp,cel_of cp,stm_at cp,stm_upd,ld_same,cel_same,over]
  exact hk h (Ext.refl h)
 | false =>
  have c11:cel h q 11=some (.bool false):=by simp[cel_of cp]
  simp -implicitDefEqProofs[c11,og]
  refine refBad_ok o x.ow (x.us.ext (@StrR.ext) (fz_ext T h)) x.ol fun h1 e1=>?_
  have:=hk h1 e1
  simpa using this
theorem rwdone_ok (x:RWP T h g q p)(hk:K (.bool p.done) h):callM P qbwZ #[ptr q] h K:=by
 apply qpNZ
 unfold qekZ
 obtain⟨sw,o,uv,x'⟩:=x
 have cp:=x'.hp
 simp -implicitDefEqProofs only[rwC] at cp
 have e:decide ((7:Int)≤p.at_)=p.done:=decide_eq_decide.2 (by omega)
 simp -implicitDefEqProofs[ld_at cp,cel_of cp,stm_at cp,stm_upd,ld_same,cel_same,over,e]
 exact hk
theorem rwenabled_ok {gh:Tag}{hp:Nat}{H:Hall}(x:RWP T h g q p)(y:RhR T h gh hp H)(hs:p.s<H.n)(hw:0≤(H.ss p.s).who)(hk:∀ h',Ext h h'→K (.bool (p.enabled H)) h'):callM P qaJZ #[ptr q,ptr hp] h K:=by
 apply qoPZ
 unfold qcUZ
 obtain⟨sw,o,uv,x'⟩:=id x
 have cp:=x'.hp
 simp -implicitDefEqProofs only[rwC] at cp
 obtain⟨sv,av,Y,y⟩:=y
 have cy:=y.hp
 simp -implicitDefEqProofs only[rhC] at cy
 obtain⟨b,ia,cb⟩:=y.at_ (k:=.i64) (s:=p.s) hs
 have cs:=(y.sr p.s hs).hp
 simp -implicitDefEqProofs only[rstC] at cs
 unfold WP.enabled WP.waits WP.done at hk
 by_cases h7:p.at_<7
 rotate_left
 ·have h7':¬ (p.at_:Int)<7:=by omega
  have hk:=hk h (Ext.refl h)
  have h7'':7≤p.at_:=by omega
  simp -implicitDefEqProofs[h7''] at hk
  simp -implicitDefEqProofs[ld_at cp,cel_of cp,stm_at cp,stm_upd,ld_same,cel_same,over,h7']
  exact hk
 have h7':(p.at_:Int)<7:=by omega
 have h7'':¬ 7≤p.at_:=by omega
 simp -implicitDefEqProofs[ld_at cp,cel_of cp,stm_at cp,stm_upd,ld_same,cel_same,over,h7']
 refine rwbad_ok x fun h1 e1=>?_
 have cp:=e1 _ _ cp
 have cy:=e1 _ _ cy
 have cs:=e1 _ _ cs
 have cb:=cel_ext e1 cb
 have hk:=hk h1 e1
 cases hb:p.k.isBad with
 | true =>
  simp -implicitDefEqProofs[hb,h7''] at hk
  simp -implicitDefEqProofs
  exact hk
 | false =>
  by_cases h0:0<p.at_
  ·have h0':(0:Int)<p.at_:=by omega
   simp -implicitDefEqProofs[h7'',h0] at hk
   simp -implicitDefEqProofs[ld_at cp,cel_of cp,stm_at cp,stm_upd,ld_same,cel_same,over,h0',h0]
   exact hk
  ·have h0':¬ (0:Int)<p.at_:=by omega
   have h0z:p.at_=0:=by omega
   have hs0:¬ (p.s:Int)<0:=by omega
   have e:decide ((H.ss p.s).who-1<0)=decide ((H.ss p.s).who=0):=decide_eq_decide.2 (by omega)
   simp -implicitDefEqProofs[hb,h0z,hs0] at hk
   simp -implicitDefEqProofs[ld_at cp,cel_of cp,stm_at cp,ld_at cy,cel_of cy,stm_at cy,ld_at cs,cel_of cs,stm_at cs,stm_upd,ld_same,cel_same,over,h0z,ia,cb,e]
   exact hk
end
theorem RwX.st {T:Tags}{h:Heap}{g:Tag}{q:Nat}{p p':WP}{sw:Bool}{o:OpD}{uv:Value}(x:RwX T h g q p sw o uv)(w:Wf T h)(gn:g≠[])(kk:RwK p' sw o) :
  Only (fun t=>t=g) T h T (upd h q (.cells (rwC p' sw o uv).toArray qoZ (0,0)))∧RWP T (upd h q (.cells (rwC p' sw o uv).toArray qoZ (0,0))) g q p':=by
 have o1:Only (fun t=>t=g) T h T (upd h q (.cells (rwC p' sw o uv).toArray qoZ (0,0))):=Only.upd w x.hp x.tp
 exact⟨o1,sw,o,uv,upd_same' _ _ _,x.tp,x.us.ext (@StrR.ext) (o1.ext fun h=>gn h.symm),x.ow,x.ol,kk⟩
theorem RwK.upd {p p':WP}{sw:Bool}{o:OpD}(k:RwK p sw o)(e:p'.k=p.k)(he:p'.err=p.err):RwK p' sw o:=by
 unfold RwK at k ⊢
 rw[e,he]; exact k
end Go.Proofs.YtmbningljbcpkaaGreat
namespace Go.Proofs.YtmbningljbcpkaaGreat
open Go Go.Den Go.MapKept
set_option linter.unusedSimpArgs false
set_option linter.unusedVariables false
set_option maxRecDepth 20000
variable {K:KTy}
set_option maxHeartbeats 16000000 in
theorem rwstep_ok {T:Tags}{h:Heap}{g gh:Tag}{q hp m:Nat}{p:WP}{H:Hall}(n:Int)(w:Wf T h)(gg:Gd gh)(gn:g≠[])(d1:¬ pre gh g)(d2:¬ (fun t=>t=g) gh∧Off (fun t=>t=g) gh)(x:RWP T h g q p)(y:RhR T h gh hp H)(hs:HS m H)(hm:m<90000)(wg:WG H.n p)
  (hk:∀ T' h',Only (two (fun t=>t=g) (pre gh)) T h T' h'→RWP T' h' g q (p.step H n).1→RhR T' h' gh hp (p.step H n).2→K (.tuple #[]) h'):callM P qQZ #[ptr q,ptr hp,.int .i64 n] h K:=by
 apply qpMZ
 unfold qejZ
 have hlt:=wg.s
 have st:=hs.st p.s hlt
 have h8:=hs.n8.2
 have hac:H.acts.length<999999:=by have:=hs.ac; omega
 have n0:¬ pre gh []:=gg.nil
 have ng:¬ (fun t:Tag=>t=g) []:=fun h=>gn h.symm
 refine rwenabled_ok x y hlt st.wh.1 fun h1 e1=>?_
 have o1:Only non T h T h1:=Only.of_ext w e1
 have x1:=x.kp o1.k (not_non _) (not_non _)
 have y1:=y.kp o1.k (Off.non _) (not_non _)
 unfold qhHZ
 cases hen:p.enabled H with
 | false =>
  simp -implicitDefEqProofs
  have e:p.step H n=(p,H):=by simp[WP.step,hen]
  rw[e] at hk
  exact hk T h1 (o1.mono fun _ h=>h.elim) x1 y1
 | true =>
 have hat:=enabled_at hen
 simp -implicitDefEqProofs
 unfold qhGZ
 refine rwbad_ok x1 fun h2 e2=>?_
 have o2:Only non T h T h2:=o1.trans (Only.of_ext o1.wf e2)
 obtain⟨sw,o,uv,x2⟩:=x.kp o2.k (not_non _) (not_non _)
 have y2:=y.kp o2.k (Off.non _) (not_non _)
 have ou:=x2.us.one
 have cp:=x2.hp
 have o2':Only (two (fun t=>t=g) (pre gh)) T h T h2:=o2.mono fun _ h=>h.elim
 unfold qhFZ
 cases hb:p.k.isBad with
 | true =>
  have e:p.step H n=({ p with err:=1,placed:=n,at_:=7 },H):=by simp[WP.step,hen,hb]
  rw[e] at hk
  have hkb:p.k = .bad:=by cases hk':p.k with
   | bad=>rfl
   | op x=>rw[hk'] at hb; cases hb
   | sweep=>rw[hk'] at hb; cases hb
  have kk:RwK { p with err:=1,placed:=n,at_:=7 } sw o:=by
   have:=x2.kk
   unfold RwK at this ⊢
   rw[hkb] at this
   simp -implicitDefEqProofs only[hkb]; exact this
  obtain⟨o5,x5⟩:=x2.st o2.wf gn kk
  have y5:=y2.kp o5.k d2.2 ng
  have e7:((7:Nat):Int)=7:=rfl
  simp -implicitDefEqProofs only[rwC,e7] at o5 x5 y5 cp
  simp -implicitDefEqProofs
  unfold qhAZ
  simp -implicitDefEqProofs[ld_at cp,cel_of cp,stm_at cp,stm_upd,ld_same,cel_same,over]
  exact hk T _ (o2'.trans (o5.mono two_l)) x5 y5
 | false =>
 have e:p.step H n=p.stp H n:=by simp[WP.step,hen,hb]
 rw[e] at hk
 have tq:=x2.tp
 simp -implicitDefEqProofs only[rwC] at cp
 simp -implicitDefEqProofs
 unfold qhEZ
 rw[seqM_eq]
 unfold qhDZ
 have wq:IntKind.i64.wrap 1=1∧IntKind.i64.wrap 2=2∧IntKind.i64.wrap 3=3∧IntKind.i64.wrap 4=4∧IntKind.i64.wrap 5=5∧IntKind.i64.wrap 6=6∧IntKind.i64.wrap 7=7:=by decide
 have cases7:p.at_=0∨p.at_=1∨p.at_=2∨p.at_=3∨p.at_=4∨p.at_=5∨p.at_=6:=by omega
 have fin:∀ {T3 h3} (p':WP),Only (pre gh) T h2 T3 h3→RwX T3 h3 g q p sw o uv→p'.k=p.k→RwK p' sw o→RhR T3 h3 gh hp (p.stp H n).2→(p.stp H n).1=p'→∀ {c:Array Value},c=(rwC p' sw o uv).toArray→K (.tuple #[]) (upd h3 q (.cells c qoZ (0,0))):=by
  intro T3 h3 p' o3 x3 ek kk y3 ep c hc
  subst hc
  obtain⟨o5,x5⟩:=x3.st o3.wf gn kk
  have y5:=y3.kp o5.k d2.2 ng
  refine hk T3 _ ((o2'.trans (o3.mono two_r)).trans (o5.mono two_l)) ?_ y5
  rw[ep]; exact x5
 rcases cases7 with c0 | c0 | c0 | c0 | c0 | c0 | c0
 ·simp -implicitDefEqProofs[ld_at cp,cel_of cp,stm_at cp,stm_upd,ld_same,cel_same,over,c0]
  unfold qhCZ
  simp -implicitDefEqProofs[ld_at cp,cel_of cp,stm_at cp,stm_upd,ld_same,cel_same,over,c0]
  refine rz_lock p.who o2.wf y2 hlt h8 (by omega) st.wh.1 fun T3 h3 o3 y3=>?_
  have x3:=x2.kp o3.k d1 n0
  have cp3:=x3.hp
  simp -implicitDefEqProofs only[rwC,c0] at cp3
  unfold qhBZ
  simp -implicitDefEqProofs
  unfold quZ
  simp -implicitDefEqProofs[ld_at cp3,cel_of cp3,stm_at cp3,stm_upd,ld_same,cel_same,over]
  refine fin { p with at_:=1 } o3 x3 rfl (x2.kk.upd rfl rfl) (by rw[stp0 H n c0]; exact y3) (by rw[stp0 H n c0]) ?_
  simp -implicitDefEqProofs[rwC,wq]
 ·simp -implicitDefEqProofs[ld_at cp,cel_of cp,stm_at cp,stm_upd,ld_same,cel_same,over,c0]
  unfold qCZ
  simp -implicitDefEqProofs
  unfold qgmZ
  simp -implicitDefEqProofs[ld_at cp,cel_of cp,stm_at cp,stm_upd,ld_same,cel_same,over,c0]
  refine rz_begin p.who o2.wf y2 hlt h8 (by omega) st.wr.1 hs.cw.u1 fun T3 h3 o3 y3=>?_
  have x3:=x2.kp o3.k d1 n0
  have cp3:=x3.hp
  simp -implicitDefEqProofs only[rwC,c0] at cp3
  unfold qglZ
  simp -implicitDefEqProofs
  unfold quZ
  simp -implicitDefEqProofs[ld_at cp3,cel_of cp3,stm_at cp3,stm_upd,ld_same,cel_same,over]
  refine fin { p with at_:=2 } o3 x3 rfl (x2.kk.upd rfl rfl) (by rw[stp1 H n c0]; exact y3) (by rw[stp1 H n c0]) ?_
  simp -implicitDefEqProofs[rwC,wq]
 ·simp -implicitDefEqProofs[ld_at cp,cel_of cp,stm_at cp,stm_upd,ld_same,cel_same,over,c0]
  unfold qCZ
  simp -implicitDefEqProofs
  unfold qIZ
  simp -implicitDefEqProofs
  unfold qgoZ
  simp -implicitDefEqProofs[ld_at cp,cel_of cp,stm_at cp,stm_upd,ld_same,cel_same,over,c0]
  have hn0:=hs.ts
  refine rz_take p.who o2.wf gg y2 hs.ts (by omega) fun T3 h3 o3 y3=>?_
  have x3:=x2.kp o3.k d1 n0
  have cp3:=x3.hp
  simp -implicitDefEqProofs only[rwC,c0] at cp3
  unfold qgnZ
  simp -implicitDefEqProofs[ld_at cp3,cel_of cp3,stm_at cp3,stm_upd,ld_same,cel_same,over,tmC]
  unfold quZ
  simp -implicitDefEqProofs[stm_upd,ld_same,cel_same,over,tmC]
  refine fin { p with at_:=3,placed:=n,t:=(H.take p.who).t } o3 x3 rfl (x2.kk.upd rfl rfl) (by rw[stp2 H n c0]; exact y3) (by rw[stp2 H n c0]) ?_
  simp -implicitDefEqProofs[rwC,wq,Hall.take]
 ·simp -implicitDefEqProofs[ld_at cp,cel_of cp,stm_at cp,stm_upd,ld_same,cel_same,over,c0]
  unfold qCZ
  simp -implicitDefEqProofs
  unfold qIZ
  simp -implicitDefEqProofs
  unfold qahZ
  simp -implicitDefEqProofs
  unfold qgtZ
  cases sw with
  | true =>
   have hks:p.k = .sweep:=by
    have:=x2.kk
    unfold RwK at this
    cases hk':p.k with
    | bad=>rw[hk'] at hb; cases hb
    | op x=>rw[hk'] at this; cases this.1
    | sweep=>rfl
   have he0:p.err=0:=by have:=x2.kk; unfold RwK at this; rw[hks] at this; exact this.2
   have hT:ldV (some (some 3)) (.pointer (some ⟨q,12,none⟩)) h2=some (.agg (tmC p.t).toArray):=by simp[ld_at cp,tmC]
   simp -implicitDefEqProofs[ld_at cp,cel_of cp,stm_at cp,stm_upd,ld_same,cel_same,over]
   unfold qgqZ
   have p0:cel h2 q 0=some (.int .i64 p.who):=by simp[cel_of cp]
   have p1:cel h2 q 1=some (.int .i64 p.s):=by simp[cel_of cp]
   simp -implicitDefEqProofs[p0,p1,hT]
   refine rz_sweep p.who p.t o2.wf y2 hlt hs hm fun T3 h3 o3 y3=>?_
   have x3:=x2.kp o3.k d1 n0
   have cp3:=x3.hp
   simp -implicitDefEqProofs only[rwC,c0] at cp3
   unfold qgpZ
   simp -implicitDefEqProofs
   unfold quZ
   simp -implicitDefEqProofs[ld_at cp3,cel_of cp3,stm_at cp3,stm_upd,ld_same,cel_same,over]
   refine fin { p with at_:=4,err:=0 } o3 x3 rfl ?_ (by rw[stp3 H n c0,hks]; exact y3) (by rw[stp3 H n c0,hks]; rfl) ?_
   ·have:=x2.kk
    unfold RwK at this ⊢
    rw[hks] at this
    simp -implicitDefEqProofs only[hks]
    exact⟨trivial,trivial⟩
   ·simp -implicitDefEqProofs[rwC,wq,he0]
  | false =>
   have hko:p.k = .op o:=by
    have:=x2.kk
    unfold RwK at this
    cases hk':p.k with
    | bad=>rw[hk'] at hb; cases hb
    | op x=>rw[hk'] at this; rw[this.2.1]
    | sweep=>rw[hk'] at this; cases this.1
   have hT:ldV (some (some 3)) (.pointer (some ⟨q,12,none⟩)) h2=some (.agg (tmC p.t).toArray):=by simp[ld_at cp,tmC]
   have hO:ldV (some (some 7)) (.pointer (some ⟨q,4,none⟩)) h2=some (.agg (opC o uv).toArray):=by simp[ld_at cp,opC]
   simp -implicitDefEqProofs[ld_at cp,cel_of cp,stm_at cp,stm_upd,ld_same,cel_same,over]
   unfold qgsZ
   have p0:cel h2 q 0=some (.int .i64 p.who):=by simp[cel_of cp]
   have p1:cel h2 q 1=some (.int .i64 p.s):=by simp[cel_of cp]
   simp -implicitDefEqProofs[p0,p1,hT,hO]
   refine rz_write p.who o x2.ow ou p.t wg.t.1 o2.wf y2 hlt hs hm fun T3 h3 o3 y3=>?_
   have x3:=x2.kp o3.k d1 n0
   have cp3:=x3.hp
   simp -implicitDefEqProofs only[rwC,c0] at cp3
   unfold qgrZ
   simp -implicitDefEqProofs[ld_at cp3,cel_of cp3,stm_at cp3,stm_upd,ld_same,cel_same,over]
   unfold quZ
   simp -implicitDefEqProofs[stm_upd,ld_same,cel_same,over]
   refine fin { p with at_:=4,err:=(H.write p.who p.s o p.t).2 } o3 x3 rfl ?_ (by rw[stp3 H n c0,hko]; exact y3) (by rw[stp3 H n c0,hko]; rfl) ?_
   ·have:=x2.kk
    unfold RwK at this ⊢
    rw[hko] at this
    simp -implicitDefEqProofs only[hko]
    exact⟨trivial,trivial,this.2.2⟩
   ·simp -implicitDefEqProofs[rwC,wq]
 ·simp -implicitDefEqProofs[ld_at cp,cel_of cp,stm_at cp,stm_upd,ld_same,cel_same,over,c0]
  unfold qCZ
  simp -implicitDefEqProofs
  unfold qIZ
  simp -implicitDefEqProofs
  unfold qahZ
  simp -implicitDefEqProofs
  unfold qaSZ
  simp -implicitDefEqProofs
  unfold qgvZ
  simp -implicitDefEqProofs[ld_at cp,cel_of cp,stm_at cp,stm_upd,ld_same,cel_same,over,c0]
  refine rz_pub p.who o2.wf y2 hlt h8 (by omega) fun T3 h3 o3 y3=>?_
  have x3:=x2.kp o3.k d1 n0
  have cp3:=x3.hp
  simp -implicitDefEqProofs only[rwC,c0] at cp3
  unfold qguZ
  simp -implicitDefEqProofs
  unfold quZ
  simp -implicitDefEqProofs[ld_at cp3,cel_of cp3,stm_at cp3,stm_upd,ld_same,cel_same,over]
  refine fin { p with at_:=5 } o3 x3 rfl (x2.kk.upd rfl rfl) (by rw[stp4 H n c0]; exact y3) (by rw[stp4 H n c0]) ?_
  simp -implicitDefEqProofs[rwC,wq]
 ·simp -implicitDefEqProofs[ld_at cp,cel_of cp,stm_at cp,stm_upd,ld_same,cel_same,over,c0]
  unfold qCZ
  simp -implicitDefEqProofs
  unfold qIZ
  simp -implicitDefEqProofs
  unfold qahZ
  simp -implicitDefEqProofs
  unfold qaSZ
  simp -implicitDefEqProofs
  unfold qcVZ
  simp -implicitDefEqProofs
  unfold qgxZ
  simp -implicitDefEqProofs[ld_at cp,cel_of cp,stm_at cp,stm_upd,ld_same,cel_same,over,c0]
  refine rz_end p.who o2.wf y2 hlt h8 (by omega) (odd_lt st.wr.1 st.wr.2.2) fun T3 h3 o3 y3=>?_
  have x3:=x2.kp o3.k d1 n0
  have cp3:=x3.hp
  simp -implicitDefEqProofs only[rwC,c0] at cp3
  unfold qgwZ
  simp -implicitDefEqProofs
  unfold quZ
  simp -implicitDefEqProofs[ld_at cp3,cel_of cp3,stm_at cp3,stm_upd,ld_same,cel_same,over]
  refine fin { p with at_:=6 } o3 x3 rfl (x2.kk.upd rfl rfl) (by rw[stp5 H n c0]; exact y3) (by rw[stp5 H n c0]) ?_
  simp -implicitDefEqProofs[rwC,wq]
 ·simp -implicitDefEqProofs[ld_at cp,cel_of cp,stm_at cp,stm_upd,ld_same,cel_same,over,c0]
  unfold qCZ
  simp -implicitDefEqProofs
  unfold qIZ
  simp -implicitDefEqProofs
  unfold qahZ
  simp -implicitDefEqProofs
  unfold qaSZ
  simp -implicitDefEqProofs
  unfold qcVZ
  simp -implicitDefEqProofs
  unfold qgAZ
  simp -implicitDefEqProofs
  unfold qgzZ
  simp -implicitDefEqProofs[ld_at cp,cel_of cp,stm_at cp,stm_upd,ld_same,cel_same,over,c0]
  refine rz_unlock p.who o2.wf y2 hlt h8 (by omega) st.wh.1 fun T3 h3 o3 y3=>?_
  have x3:=x2.kp o3.k d1 n0
  have cp3:=x3.hp
  simp -implicitDefEqProofs only[rwC,c0] at cp3
  unfold qgyZ
  simp -implicitDefEqProofs
  unfold quZ
  simp -implicitDefEqProofs[ld_at cp3,cel_of cp3,stm_at cp3,stm_upd,ld_same,cel_same,over]
  refine fin { p with at_:=7 } o3 x3 rfl (x2.kk.upd rfl rfl) (by rw[stp6 H n (by omega)]; exact y3) (by rw[stp6 H n (by omega)]) ?_
  simp -implicitDefEqProofs[rwC,wq]
end Go.Proofs.YtmbningljbcpkaaGreat
namespace Go.Proofs.YtmbningljbcpkaaGreat
open Go Go.Den Go.MapKept
set_option linter.unusedSimpArgs false
set_option linter.unusedVariables false
set_option maxRecDepth 20000
section
variable {T0:Tags}{h0:Heap}{p q m N:Nat}{c:Cfg}{H:Hall}{A:List ActD}{T':Tags}{h':Heap}
end
theorem RhX.acts {T:Tags}{h:Heap}{g:Tag}{p:Nat}{H:Hall}{sv av:Value}{Y:Nat→RSx}(x:RhX T h g p H sv av Y):Sl 3 ActR h av H.acts:=by
 exact Row.slE (enc:=actC) (fun _=>rfl) (fun _=>rfl) x.ac.1
theorem cv8 {n:Int}(h:0≤n∧n≤255):cvV (some .i64) (.int .u8 n)=some (.int .i64 n):=by simp[cvV,wrap64_id (n:=n) (by omega) (by omega)]
theorem tm8 {n k:Int}(h:0≤n):n.tmod k=n % k:=Int.tmod_eq_emod_of_nonneg h
end Go.Proofs.YtmbningljbcpkaaGreat
namespace Go.Proofs.YtmbningljbcpkaaGreat
open Go Go.Den Go.MapKept
set_option linter.unusedSimpArgs false
set_option linter.unusedVariables false
set_option maxRecDepth 20000
theorem bdRProc (w s a b c d:Int)(e:Int)(u:ByteArray)(v:Option Addr)(n k:Nat):bdV (binf P qoZ) [(0,.int .i64 w),(1,.int .i64 s),(3,.int .i64 (-1)),(4,.agg #[.int .i64 a,.string u,.int .i64 b,.int .i64 c,.int .i64 d,.int .u64 e,.slice v n k])] =
  some (.agg #[.int .i64 w,.int .i64 s,.int .i64 0,.int .i64 (-1),.int .i64 a,.string u,.int .i64 b,.int .i64 c,.int .i64 d,.int .u64 e,.slice v n k,.bool false,.int .u64 0,.int .u64 0,.bool false,.int .i64 0,.slice none 0 0,.slice none 0 0,.bool false]):=by kernel_rfl
variable {K:KTy}
theorem rwnew_ok (who:Int)(o:OpD)(ow:OpW o){T:Tags}{h:Heap}{g gh:Tag}{hp:Nat}{H:Hall}(w:Wf T h)(y:RhR T h gh hp H){v:Value}(hv:Sl 1 StrR (fz T h) v o.users)(hl:o.users.length<1000000)(c8:1≤H.c.stripes∧H.c.stripes≤8)
  (hk:∀ T' h' q,Only non T h T' h'→h q=none→RWP T' h' g q (wp0 H who o)→K (ptr q) h'):callM P qeuZ #[ptr hp,.int .i64 who,.agg (opC o v).toArray] h K:=by
 apply qsOZ
 unfold qjhZ
 refine nw_agg fun v1 h1 n1 e1 c1=>?_
 have o1:Only non T h T h1:=Only.of_ext w e1
 have y1:=y.kp o1.k (Off.non _) (not_non _)
 have og:ldV (some (some 7)) (ptr v1) h1=some (.agg (opC o v).toArray):=by simp[ld_at c1,opC]
 have c1':=c1
 simp -implicitDefEqProofs only[opC] at c1
 simp -implicitDefEqProofs[ld_at c1,cel_of c1,stm_at c1,stm_upd,ld_same,cel_same,over]
 refine rz_of o.user ow.s1 y1 c8.2 ?_
 have hst:=stripeOf_rng o.user c8.1
 obtain⟨va,vn,vc,rfl⟩:∃ a n c,v = .slice a n c:=by
  rcases hv with ⟨_,a,c,rfl⟩ | ⟨b,o',cap,rfl,_⟩
  ·exact⟨_,_,_,rfl⟩
  ·exact⟨_,_,_,rfl⟩
 unfold qmuZ
 simp -implicitDefEqProofs[ld_at c1,cel_of c1,stm_at c1,stm_upd,ld_same,cel_same,over,bdRProc]
 refine nw_tag o1.wf g fun q T2 h2 n2 o2 t2 c2=>?_
 refine hk T2 h2 q (o1.trans o2) (o1.fresh n2) ⟨false,o,_,?_,t2,(hv.ext (@StrR.ext) ((o1.trans o2).ext (not_non _))),ow,hl,?_⟩
 ·rw[c2]
  have e:((stripeOf o.user H.c.stripes).toNat:Int)=stripeOf o.user H.c.stripes:=by omega
  simp -implicitDefEqProofs[rwC,wp0,sect,e]
 ·unfold RwK wp0 sect
  dsimp only
  cases hb:badB o with
  | true=>simp
  | false=>simp
abbrev RRel:=Tags→Heap→Tag→Nat→PR→Prop
structure RKeeps (R:RRel):Prop where
 kp:∀ {U:Tag→Prop} {T T':Tags} {h h':Heap} {g:Tag} {q:Nat} {p:PR},R T h g q p→Kp U T h T' h'→Off U g→¬ U []→R T' h' g q p
structure RdM (R:RRel)(T:Tags)(h:Heap)(hq:Nat)(B:Nat→Nat)(W:Wd):Prop where
 z:RhR T h [3] hq W.H
 ps:∀ i p,W.ps i=some p→R T h [4,i] (B i) p
def UR (t:Tag):Prop:=pre [3] t∨pre [4] t
theorem UR.nil:¬ UR []:=by rintro (h | h)<;>simp[pre] at h
theorem RdM.up {R:RRel}(rk:RKeeps R){U:Tag→Prop}{T T':Tags}{h h':Heap}{hq:Nat}{B:Nat→Nat}{W:Wd}(x:RdM R T h hq B W)(k:Kp U T h T' h')(f:∀ t,UR t→¬ U t)(n:¬ U []):RdM R T' h' hq B W :=
 ⟨x.z.kp k (fun t ht=>f t (.inl ht)) n,fun i p hp=>rk.kp (x.ps i p hp) k (fun t ht=>f t (.inr (pre_trans (g:=[4]) (s:=[i]) ht))) n⟩
theorem RdM.ext {R:RRel}(rk:RKeeps R){T:Tags}{h h':Heap}{hq:Nat}{B:Nat→Nat}{W:Wd}(x:RdM R T h hq B W)(w:Wf T h)(e:Ext h h'):RdM R T h' hq B W:=x.up rk (Only.of_ext (U:=non) w e).k (fun _ _ h=>h) (not_non _)
theorem d34i (i:Nat):¬ pre [3] [4,i]:=by simp[pre]
theorem o34i (i:Nat):Off (pre [3]) [4,i]:=off_pre (g:=[]) (x:=[3]) (y:=[4,i]) (by simp) (by simp)
theorem o4i3 (i:Nat):Off (pre [4,i]) [3]:=off_pre (g:=[]) (x:=[4,i]) (y:=[3]) (by simp) (by simp)
theorem o4ij {i j:Nat}(h:i≠j):Off (pre [4,i]) [4,j]:=off_pre (g:=[4]) (x:=[i]) (y:=[j]) (by simpa using h) (by simpa using Ne.symm h)
theorem RdM.put {R:RRel}(rk:RKeeps R){U:Tag→Prop}{T T':Tags}{h h':Heap}{hq i:Nat}{B:Nat→Nat}{W:Wd}{p:PR}(x:RdM R T h hq B W)(o:Kp U T h T' h')(u:∀ j,j≠i→Off U [4,j])(n:¬ U []){k:Int}(hp':W.ps i=some p)
  (z':RhR T' h' [3] hq (p.step (W.ms i) W.H k).2.2) (x':R T' h' [4,i] (B i) (p.step (W.ms i) W.H k).1):RdM R T' h' hq B (W.step i k):=by
 have e:W.step i k=⟨(p.step (W.ms i) W.H k).2.2,bset W.ps i (some (p.step (W.ms i) W.H k).1),bset W.ms i (p.step (W.ms i) W.H k).2.1⟩:=by simp only[Wd.step,hp']
 rw[e]
 refine⟨z',fun j q hq=>?_⟩
 have hq:bset W.ps i (some (p.step (W.ms i) W.H k).1) j=some q:=hq
 by_cases hji:j=i
 ·subst hji
  rw[bset_same] at hq
  simp -implicitDefEqProofs only[Option.some.injEq] at hq; subst hq
  exact x'
 ·rw[bset_ne hji] at hq
  exact rk.kp (x.ps j q hq) o (u j hji) n
structure RWri (R:RRel):Prop extends RKeeps R where
 w1:∀ {T:Tags} {h:Heap} {g:Tag} {q:Nat} {p:WP},R T h g q (.w p)→RWP T h g q p
 w2:∀ {T:Tags} {h:Heap} {g:Tag} {q:Nat} {p:WP},RWP T h g q p→R T h g q (.w p)
def WgA (W:Wd):Prop:=∀ i p,W.ps i=some (.w p)→WG W.H.n p
section
variable {T:Tags}{h:Heap}{hp hq i m:Nat}{A B:Nat→Nat}{W:Wd}{p:WP}{K:KTy}
theorem pastep_w (n:Int)(w:Wf T h)(x:WdM T h hp A W)(hs:HS m W.H)(hm:m<90000)(wg:WG W.H.n p)(hp':W.ps i=some (.w p))(hK:∀ T' h',Only UW T h T' h'→WdM T' h' hp A (W.step i n)→K (.tuple #[]) h'):callM P qbtZ #[ptr (A i),ptr hp,.int .i64 n] h K:=by
 refine wstep_ok n w g1 (d12i i) (d2i1 i) (g2i i) (x.ps i _ hp') x.hl hs (by omega) wg fun T' h' o x' y'=>?_
 exact hK T' h' (o.mono fun _=>UW.two i) (x.put o (fun j hj=>dtwo (Ne.symm hj)) (by rintro (h | h)<;>simp[pre] at h) hp' y' x')
theorem rdstep_w {R:RRel}(rk:RWri R)(n:Int)(w:Wf T h)(x:RdM R T h hq B W)(hs:HS m W.H)(hm:m<90000)(wg:WG W.H.n p)(hp':W.ps i=some (.w p))(hK:∀ T' h',Only UR T h T' h'→RdM R T' h' hq B (W.step i n)→K (.tuple #[]) h'):callM P qQZ #[ptr (B i),ptr hq,.int .i64 n] h K:=by
 refine rwstep_ok n w g3 (by simp) (d34i i) ⟨by simp,fun t ht e=>o4i3 i t ht (e▸⟨[],by simp⟩)⟩ (rk.w1 (x.ps i _ hp')) x.z hs hm wg fun T' h' o x' z'=>?_
 refine hK T' h' (o.mono fun t ht=>ht.elim (fun e=>.inr (e▸⟨[i],rfl⟩)) .inl) (x.put rk.toRKeeps o.k (fun j hj t ht hh=>hh.elim (fun e=>?_) (o34i j t ht)) (by rintro (h | h)<;>simp[pre] at h) hp' z' (rk.w2 x'))
 exact o4ij (Ne.symm hj) t ht (e▸⟨[],by simp⟩)
theorem panew_w (hi:i≤900)(o:OpD)(ow:OpW o)(hl:o.users.length<1000000){v:Value}(hv:Sl 1 StrR (fz T h) v o.users)(w:Wf T h)(x:WdM T h hp A W)(c8:1≤W.H.c.stripes∧W.H.c.stripes≤8)
  (hK:∀ T' h' q,Only non T h T' h'→WdM T' h' hp (bset A i q) { W with ps:=bset W.ps i (some (.w (wp0 W.H i o))) }→K (ptr q) h'):callM P qmiZ #[ptr hp,.int .i64 i,.agg (opC o v).toArray] h K:=by
 refine wnew_ok i o ow w (g2i i) x.hl hv hl c8 fun T' h' q o' nq x'=>?_
 refine hK T' h' q o' ⟨x.hl.up o' (Off.non _) (not_non _),fun j p hj=>?_⟩
 have hj:bset W.ps i (some (.w (wp0 W.H i o))) j=some p:=hj
 by_cases hji:j=i
 ·subst hji
  rw[bset_same] at hj ⊢
  simp -implicitDefEqProofs only[Option.some.injEq] at hj; subst hj
  exact x'
 ·rw[bset_ne hji] at hj ⊢
  exact (x.ps j p hj).kp o'.k (Off.non _) (not_non _)
theorem rdnew_w {R:RRel}(rk:RWri R)(o:OpD)(ow:OpW o)(hl:o.users.length<1000000){v:Value}(hv:Sl 1 StrR (fz T h) v o.users)(w:Wf T h)(x:RdM R T h hq B W)(c8:1≤W.H.c.stripes∧W.H.c.stripes≤8)
  (hK:∀ T' h' q,Only non T h T' h'→RdM R T' h' hq (bset B i q) { W with ps:=bset W.ps i (some (.w (wp0 W.H i o))) }→K (ptr q) h'):callM P qeuZ #[ptr hq,.int .i64 i,.agg (opC o v).toArray] h K:=by
 refine rwnew_ok (g:=[4,i]) i o ow w x.z hv hl c8 fun T' h' q o' nq x'=>?_
 refine hK T' h' q o' ⟨x.z.kp o'.k (Off.non _) (not_non _),fun j p hj=>?_⟩
 have hj:bset W.ps i (some (.w (wp0 W.H i o))) j=some p:=hj
 by_cases hji:j=i
 ·subst hji
  rw[bset_same] at hj ⊢
  simp -implicitDefEqProofs only[Option.some.injEq] at hj; subst hj
  exact rk.w2 x'
 ·rw[bset_ne hji] at hj ⊢
  exact rk.kp (x.ps j p hj) o'.k (Off.non _) (not_non _)
theorem wstepH (hs:HS m W.H)(wg:WG W.H.n p)(hp':W.ps i=some (.w p))(n:Int):(W.step i n).H=(p.step W.H n).2∧HS (m+1) (W.step i n).H∧(W.step i n).H.n=W.H.n∧(W.step i n).H.c=W.H.c∧(W.step i n).ps=bset W.ps i (some (.w (p.step W.H n).1)):=by
 have e:W.step i n=⟨(p.step W.H n).2,bset W.ps i (some (.w (p.step W.H n).1)),bset W.ms i (W.ms i)⟩:=by simp only[Wd.step,hp',PR.step]
 have h2:=wstep_n p W.H n
 rw[e]
 exact⟨rfl,hs.wstep wg n,h2.1,h2.2,rfl⟩
theorem WgA.step (wa:WgA W)(hs:HS m W.H)(wg:WG W.H.n p)(hp':W.ps i=some (.w p))(n:Int):WgA (W.step i n):=by
 obtain⟨h1,h2,h3,h4,h5⟩:=wstepH hs wg hp' n
 intro j q hj
 rw[h3]
 rw[h5] at hj
 by_cases hji:j=i
 ·subst hji
  rw[bset_same] at hj
  simp -implicitDefEqProofs only[Option.some.injEq,PR.w.injEq] at hj; subst hj
  exact wg.step hs n
 ·rw[bset_ne hji] at hj
  exact wa j q hj
theorem wp0_g (hs:HS m W.H){o:OpD}(ow:OpW o)(hi:i≤900):WG W.H.n (wp0 W.H i o):=by
 have n8:=hs.n8
 have nn:=hs.nn
 have hst:=stripeOf_lt (u:=o.user) (n:=W.H.c.stripes) (by omega)
 refine sect_g (by omega) (by omega) fun z hz=>?_
 split at hz
 ·cases hz
 ·cases hz; exact ow
end
def RoW:RRel:=fun T h g q p=>match p with
 | .w p=>RWP T h g q p
 | _=>False
theorem roW:RWri RoW:=⟨⟨fun {U T T' h h' g q p} x k o n=>by
 cases p with
 | w p=>exact RWP.kp x k o.self n
 | r p=>exact x
 | h p=>exact x⟩,fun x=>x,fun x=>x⟩
end Go.Proofs.YtmbningljbcpkaaGreat
namespace Go.Proofs.YtmbningljbcpkaaGreat
open Go Go.Den Go.MapKept
set_option linter.unusedSimpArgs false
set_option linter.unusedVariables false
set_option maxRecDepth 20000
theorem Gd.n0:¬ Gd []:=by rintro⟨k,r,h⟩; cases h
theorem gd_pre {g t:Tag}(x:Gd g)(h:pre g t):Gd t:=by obtain⟨k,r,rfl⟩:=x; obtain⟨s,rfl⟩:=h; exact⟨k,r++s,rfl⟩
theorem gdUW {t:Tag}(h:UW t):Gd t:=h.elim (gd_pre ⟨0,[],rfl⟩) (gd_pre ⟨1,[],rfl⟩)
theorem gdUR {t:Tag}(h:UR t):Gd t:=h.elim (gd_pre ⟨2,[],rfl⟩) (gd_pre ⟨3,[],rfl⟩)
theorem gd6 {t:Tag}(h:t=[6]):Gd t:=⟨5,[],h⟩
theorem gd7 {t:Tag}(h:t=[7]):Gd t:=⟨6,[],h⟩
theorem unPw:P.underlying qmmZ=some (.slice qbOZ):=by kernel_rfl
theorem apPw:apC P qbOZ=some (1,8,1):=by kernel_rfl
theorem unRw:P.underlying qgkZ=some (.slice qVZ):=by kernel_rfl
theorem apRw:apC P qVZ=some (1,8,1):=by kernel_rfl
theorem offUW6:¬ UW [6]:=by rintro (h | h)<;>simp[pre] at h
theorem offUW7:¬ UW [7]:=by rintro (h | h)<;>simp[pre] at h
theorem offUR6:¬ UR [6]:=by rintro (h | h)<;>simp[pre] at h
theorem offUR7:¬ UR [7]:=by rintro (h | h)<;>simp[pre] at h
theorem urw {t:Tag}(h:UR t):¬ UW t:=by
 rintro (h' | h')<;>rcases h with h | h<;>obtain⟨r,rfl⟩:=h<;>simp[pre] at h'
theorem uwr {t:Tag}(h:UW t):¬ UR t:=fun h'=>urw h' h
section
variable {T0:Tags}{h0:Heap}{hp hq m N L:Nat}{c:Cfg}{A B:Nat→Nat}{av bv:Value}{W:Wd}{T':Tags}{h':Heap}
end
end Go.Proofs.YtmbningljbcpkaaGreat
namespace Go.Proofs.YtmbningljbcpkaaGreat
open Go Go.Den Go.MapKept
set_option linter.unusedSimpArgs false
set_option linter.unusedVariables false
set_option maxRecDepth 20000
variable {K:KTy}
theorem mkRowP {t e:TypeId}{bytes n:Nat}{z:Value}{g:Tag}{T:Tags}{h:Heap}(ht:P.underlying t=some (.slice e))(hi:apC P e=some (1,bytes,1))(hz:zc P e=some #[z])(hb:bytes≤100)(hn:n≤8)(w:Wf T h)
  (hk:∀ T' h' v,Only non T h T' h'→Rw T' h' g 1 e v n (seqF n fun _=>[z])→K v h'):vvM P (Instr.makeSlice t (.int .i64 n) (.int .i64 n)) h K:=by
 have hb':bytes*n≤100*8:=Nat.mul_le_mul hb hn
 refine makeSlice_vv ht hi hz (by omega) (by omega) (by unfold maxLen; omega) fun b h1 n1 e1 c1=>?_
 refine hk (tset T b g) h1 _ (Only.enew g w e1 n1 c1) ⟨made_row (by unfold maxLen; omega) c1,fun b' hb'=>?_⟩
 simp -implicitDefEqProofs only[rowOf,Option.some.injEq] at hb'
 subst hb'
 exact tset_same _ _ _
theorem rwp_st {e:TypeId}{g:Tag}{T:Tags}{h:Heap}{v x:Value}{n i:Nat}{F:Nat→Value}{k:IntKind}{K:Heap→Prop}(w:Wf T h)(r:Rw T h g 1 e v n (seqF n fun j=>[F j]))(hi:i<n)(hx:x.cells=#[x])(h1:x.oneCell'=true)
  (hk:∀ h',Only (fun t=>t=g) T h T h'→Rw T h' g 1 e v n (seqF n fun j=>[bset F i x j])→K h'):ov (iaV (some (none,1)) v (.int k i)) fun p=>stM (some 1) p x h K:=by
 obtain⟨b,hb,hia,hc⟩:=row1_at (k:=k) r.1 hi
 rw[hia]
 simp -implicitDefEqProofs only[ov_s]
 have tb:=r.2 b hb
 refine row1_st r.1 hb hi hx h1 fun h' ho hr=>hk h' ?_ ⟨?_,r.2⟩
 ·obtain⟨c,hcb⟩:∃ c,h b=some c:=by
   cases hh:h b with
   | none=>simp[cel,hh] at hc
   | some c=>exact⟨c,rfl⟩
  obtain⟨g',hg',_,hc'⟩:=row1_at (k:=k) hr hi
  have hbg:g'=b:=by rw[hb] at hg'; cases hg'; rfl
  subst hbg
  refine⟨fun j hj=>?_,fun _ _ _=>rfl,fun j z hz=>?_,fun j z hz hn=>?_⟩
  ·by_cases hjb:j=g'
   ·subst hjb; simp[cel,hj] at hc'
   ·rw[ho j hjb] at hj; exact w j hj
  ·by_cases hjb:j=g'
   ·subst hjb
    cases hh:h' j with
    | none=>simp[cel,hh] at hc'
    | some c=>exact⟨c,rfl⟩
   ·exact⟨z,by rw[ho j hjb]; exact hz⟩
  ·rw[ho j fun hjb=>hn (by subst hjb; exact tb)]; exact hz
 ·exact hr
theorem rwp_st2 {e:TypeId}{g:Tag}{T:Tags}{h:Heap}{v x:Value}{n i b:Nat}{F:Nat→Value}{K:Heap→Prop}(w:Wf T h)(r:Rw T h g 1 e v n (seqF n fun j=>[F j]))(hi:i<n)(hx:x.cells=#[x])(h1:x.oneCell'=true)(ia:iaV (some (none,1)) v (.int .i64 i)=some (.pointer (some ⟨b,i,none⟩)))
  (hk:∀ h',Only (fun t=>t=g) T h T h'→Rw T h' g 1 e v n (seqF n fun j=>[bset F i x j])→K h'):stM (some 1) (.pointer (some ⟨b,i,none⟩)) x h K:=by
 have:=rwp_st (k:=.i64) w r hi hx h1 hk
 rw[ia] at this
 exact this
def ptP (W:Wd)(A:Nat→Nat)(i:Nat):Value:=if (W.ps i).isSome then ptr (A i) else .pointer none
theorem rowP_at {T:Tags}{h:Heap}{g:Tag}{e:TypeId}{v:Value}{L:Nat}{F:Nat→Value}(r:Rw T h g 1 e v L (seqF L fun i=>[F i])){i:Nat}(hi:i<L){k:IntKind}:∃ b,iaV (some (none,1)) v (.int k i)=some (.pointer (some ⟨b,i,none⟩))∧cel h b i=some (F i):=by
 obtain⟨b,h1,h2⟩:=r.1.ia (k:=k) hi
 rw[Nat.mul_one] at h2
 refine⟨b,h2,?_⟩
 have:=r.1.cels h1 (o:=i*1) (m:=1) (by omega)
 rw[Nat.mul_one] at this
 have e:=seqF_at (F:=fun i=>[F i]) (sz:=1) (fun i _=>rfl) hi
 rw[Nat.mul_one] at e
 rw[e] at this
 simpa using (cels_get this).2 0 (by simp)
theorem rowP_cel {T:Tags}{h:Heap}{g:Tag}{e:TypeId}{v:Value}{L:Nat}{F:Nat→Value}(r:Rw T h g 1 e v L (seqF L fun i=>[F i])){i b:Nat}(hi:i<L){k:IntKind}(ia:iaV (some (none,1)) v (.int k i)=some (.pointer (some ⟨b,i,none⟩))):cel h b i=some (F i):=by
 obtain⟨b',h1,h2⟩:=rowP_at r hi (k:=k)
 rw[ia] at h1
 simp at h1
 subst h1; exact h2
theorem rowP_congr {T:Tags}{h:Heap}{g:Tag}{e:TypeId}{v:Value}{L:Nat}{F G:Nat→Value}(r:Rw T h g 1 e v L (seqF L fun i=>[F i]))(hfg:∀ i,i<L→F i=G i):Rw T h g 1 e v L (seqF L fun i=>[G i]):=by
 have:(seqF L fun i=>[F i])=seqF L fun i=>[G i]:=seqF_congr fun i hi=>by rw[hfg i hi]
 rw[← this]; exact r
def noOp:OpD:=⟨0,⟨#[]⟩,0,0,0,0,[]⟩
theorem noOpW:OpW noOp:=⟨by simp[noOp,I64],by simp[noOp,I64],by simp[noOp,I64],by simp[noOp,I64],by simp[noOp,U64],by simp[noOp,maxLen]; decide⟩
theorem bdRSw (s:Int):bdV (binf P qoZ) [(0,.int .i64 8),(1,.int .i64 s),(3,.int .i64 (-1)),(5,.bool true)] =
  some (.agg #[.int .i64 8,.int .i64 s,.int .i64 0,.int .i64 (-1),.int .i64 0,.string ⟨#[]⟩,.int .i64 0,.int .i64 0,.int .i64 0,.int .u64 0,.slice none 0 0,.bool true,.int .u64 0,.int .u64 0,.bool false,.int .i64 0,.slice none 0 0,.slice none 0 0,.bool false]):=by kernel_rfl
theorem bdRSw0:bdV (binf P qoZ) [(0,.int .i64 8),(3,.int .i64 (-1)),(5,.bool true)] =
  some (.agg #[.int .i64 8,.int .i64 0,.int .i64 0,.int .i64 (-1),.int .i64 0,.string ⟨#[]⟩,.int .i64 0,.int .i64 0,.int .i64 0,.int .u64 0,.slice none 0 0,.bool true,.int .u64 0,.int .u64 0,.bool false,.int .i64 0,.slice none 0 0,.slice none 0 0,.bool false]):=by kernel_rfl
theorem bdR18 (a:Option Addr):bdV (binf P qFZ) [(1,.pointer a)]=some (.agg #[.int .i64 0,.pointer a]):=by kernel_rfl
structure RsX (T:Tags)(h:Heap)(q N:Nat)(S:SwP)(np:Nat):Prop where
 hp:h q=some (.cells #[.int .i64 (S.rounds*N+S.stripe:Nat),ptr np] qFZ (0,0))
 tp:T q=[8,0]
 nw:RWP T h [8,1] np S.now
def RsR (T:Tags)(h:Heap)(q N:Nat)(S:SwP):Prop:=∃ np,RsX T h q N S np
theorem RsR.kp {U:Tag→Prop}{T T':Tags}{h h':Heap}{q N:Nat}{S:SwP}(x:RsR T h q N S)(k:Kp U T h T' h')(n1:¬ U [8,0])(n2:¬ U [8,1])(n0:¬ U []):RsR T' h' q N S:=by
 obtain⟨np,x⟩:=x
 exact⟨np,(k.at x.hp x.tp n1).1,(k.at x.hp x.tp n1).2,x.nw.kp k n2 n0⟩
theorem rw_sect {T:Tags}{h:Heap}{g:Tag}{q s:Nat}(hp:h q=some (.cells #[.int .i64 8,.int .i64 s,.int .i64 0,.int .i64 (-1),.int .i64 0,.string ⟨#[]⟩,.int .i64 0,.int .i64 0,.int .i64 0,.int .u64 0,.slice none 0 0,.bool true,.int .u64 0,.int .u64 0,.bool false,.int .i64 0,.slice none 0 0,.slice none 0 0,.bool false] qoZ (0,0)))(tq:T q=g):RWP T h g q (sect 8 s .sweep) :=
 ⟨true,noOp,.slice none 0 0,by rw[hp]; rfl,tq,.inl ⟨rfl,_,_,rfl⟩,noOpW,by simp[noOp],by simp[RwK,sect]⟩
section
variable {T:Tags}{h:Heap}{K:KTy}
theorem rsnew_ok (w:Wf T h){N:Nat}(hk:∀ T' h' q,Only non T h T' h'→RsR T' h' q N SwP.new→K (ptr q) h'):callM P qijZ #[] h K:=by
 apply qsRZ
 unfold qjkZ
 rw[bdRSw0]
 simp -implicitDefEqProofs only[ov_s]
 refine nw_tag w [8,1] fun np T1 h1 n1 o1 t1 c1=>?_
 rw[bdR18]
 simp -implicitDefEqProofs only[ov_s]
 refine nw_tag o1.wf [8,0] fun q T2 h2 n2 o2 t2 c2=>?_
 have b1:=o2.see ⟨c1,t1⟩ (not_non _)
 refine hk T2 h2 q (o1.trans o2) ⟨np,?_,t2,?_⟩
 ·rw[c2]; simp[SwP.new]
 ·exact rw_sect (s:=0) b1.1 b1.2
end
def UG8 (t:Tag):Prop:=t=[8,0]∨t=[8,1]∨pre [3] t
set_option maxHeartbeats 2000000 in
theorem rsstep_ok {T:Tags}{h:Heap}{q hq m:Nat}{S:SwP}{H:Hall}(n:Int)(w:Wf T h)(x:RsR T h q H.n S)(z:RhR T h [3] hq H)(hs:HS m H)(hm:m<90000)(sg:SwG H.n S)
  (hk:∀ T' h',Only UG8 T h T' h'→RsR T' h' q H.n (S.step H n).1→RhR T' h' [3] hq (S.step H n).2.1→K (.bool (S.step H n).2.2) h'):callM P qdRZ #[ptr q,ptr hq,.int .i64 n] h K:=by
 apply qpPZ
 unfold qemZ
 obtain⟨np,x⟩:=x
 have cp:=x.hp
 simp -implicitDefEqProofs[ld_at cp,cel_of cp,stm_at cp,stm_upd,ld_same,cel_same,over]
 refine rwstep_ok n w g3 (by simp) (by simp[pre]) ⟨by simp,fun t ht e=>by subst e; simp[pre] at ht⟩ x.nw z hs hm sg.g fun T1 h1 o1 x1 z1=>?_
 have n1:¬ two (fun t=>t=[8,1]) (pre [3]) [8,0]:=by rintro (hh | hh)<;>simp[pre] at hh
 have b1:=o1.k.at x.hp x.tp n1
 have c1:=b1.1
 have oo:Only UG8 T h T1 h1:=o1.mono fun t hh=>hh.elim (fun a=>.inr (.inl a)) fun a=>.inr (.inr a)
 unfold qhLZ
 simp -implicitDefEqProofs[ld_at c1,cel_of c1,stm_at c1,stm_upd,ld_same,cel_same,over]
 refine rwdone_ok x1 ?_
 obtain⟨r,hr⟩:∃ r,S.now.step H n=r:=⟨_,rfl⟩
 have hn:=wstep_n S.now H n
 rw[hr] at x1 z1 hn ⊢
 have e:S.step H n=if r.1.done then ({ S with now:=r.1 }.nxt H.n,r.2,true) else ({ S with now:=r.1 },r.2,false):=by simp only[SwP.step,hr]
 rw[e] at hk
 unfold qhKZ
 cases hd:r.1.done with
 | false =>
  rw[hd] at hk
  simp -implicitDefEqProofs
  exact hk T1 h1 oo ⟨np,c1,b1.2,x1⟩ z1
 | true =>
  rw[hd] at hk
  simp -implicitDefEqProofs only[if_true] at hk
  have h8:=hs.n8
  have hst:=sg.s
  have hro:=sg.r
  have hmul:S.rounds*H.n≤1000000*8:=Nat.mul_le_mul (by omega) h8.2
  obtain⟨E,hE⟩:∃ E,S.rounds*H.n+S.stripe=E:=⟨_,rfl⟩
  rw[hE] at c1
  have hw:IntKind.i64.wrap ((E:Int)+1)=(E+1:Nat):=by rw[wrap64_id (by omega) (by omega)]; omega
  obtain⟨sv,av,Y,zx⟩:=z1
  have cz:=zx.hp
  simp -implicitDefEqProofs only[rhC] at cz
  have hcs:r.2.c.stripes=(H.n:Int):=by rw[hn.2]; exact hs.nn.symm
  have qz:q≠hq:=tag_ne b1.2 zx.tp (by simp)
  have hn0:¬ (H.n:Int)=0:=by omega
  have hn0':¬ H.n=0:=by omega
  have ht:((E+1:Nat):Int).tmod (H.n:Int)=((E+1) % H.n:Nat):=by rw[Int.tmod_eq_emod_of_nonneg (by omega)]; omega
  have hws:IntKind.i64.wrap (((E+1) % H.n:Nat):Int)=((E+1) % H.n:Nat):=by have:=Nat.mod_lt (E+1) (show 0<H.n by omega); exact wrap64_id (by omega) (by omega)
  have o3:=Only.upd (U:=UG8) (o':=.cells #[.int .i64 (E+1:Nat),ptr np] qFZ (0,0)) o1.wf c1 (.inl b1.2)
  have z3:RhX T1 (upd h1 q (.cells #[.int .i64 (E+1:Nat),ptr np] qFZ (0,0))) [3] hq r.2 sv av Y:=zx.kp (Only.upd (U:=fun t=>t=[8,0]) o1.wf c1 b1.2).k (fun t ht e=>by subst e; simp[pre] at ht) (by simp)
  unfold qhJZ
  simp -implicitDefEqProofs[ld_at c1,cel_of c1,stm_at c1,ld_at cz,cel_of cz,stm_at cz,stm_skip qz,stm_skip (Ne.symm qz),ld_skip qz,ld_skip (Ne.symm qz),cel_skip qz,cel_skip (Ne.symm qz),stm_upd,ld_same,cel_same,over,hw,hcs,hn0,hn0',-Int.natCast_add]
  rw[ht]
  try simp only[hws]
  rw[bdRSw]
  simp -implicitDefEqProofs only[ov_s]
  refine nw_tag o3.wf [8,1] fun np' T4 h4 n4 o4 t4 c4=>?_
  have b4:=o4.see ⟨upd_same' h1 q (.cells #[.int .i64 (E+1:Nat),ptr np] qFZ (0,0)),b1.2⟩ (not_non _)
  have c4q:=b4.1
  have o5:=Only.upd (U:=fun t=>t=[8,0]) (o':=.cells #[.int .i64 (E+1:Nat),ptr np'] qFZ (0,0)) o4.wf c4q b4.2
  have z5:=(z3.kp o4.k (Off.non _) (not_non _)).kp o5.k (fun t ht e=>by subst e; simp[pre] at ht) (by simp)
  have b5:=o5.see ⟨c4,t4⟩ (by simp)
  simp -implicitDefEqProofs[ld_at c4q,cel_of c4q,stm_at c4q,stm_upd,ld_same,cel_same,over]
  have hnx:RsR T4 (upd h4 q (.cells #[.int .i64 (E+1:Nat),ptr np'] qFZ (0,0))) q H.n ({ S with now:=r.1 }.nxt H.n):=by
   unfold SwP.nxt
   by_cases hl:S.stripe+1=H.n
   ·rw[if_pos hl]
    have e1:(S.rounds+1)*H.n+0=E+1:=by rw[Nat.add_mul]; omega
    have e2:(E+1) % H.n=0:=by rw[← e1]; simp
    rw[e2] at b5
    exact⟨np',by rw[e1]; exact upd_same' _ _ _,b4.2,rw_sect b5.1 b5.2⟩
   ·rw[if_neg hl]
    have e1:S.rounds*H.n+(S.stripe+1)=E+1:=by omega
    have e2:(E+1) % H.n=S.stripe+1:=by rw[← e1,Nat.mul_comm,Nat.mul_add_mod,Nat.mod_eq_of_lt (by omega)]
    rw[e2] at b5
    exact⟨np',by rw[e1]; exact upd_same' _ _ _,b4.2,rw_sect b5.1 b5.2⟩
  exact hk T4 _ (((oo.trans o3).up o4 non_up).up o5 fun t e=>.inl e) hnx ⟨sv,av,Y,z5⟩
end Go.Proofs.YtmbningljbcpkaaGreat
namespace Go.Proofs.YtmbningljbcpkaaGreat
open Go Go.Den Go.MapKept
set_option linter.unusedSimpArgs false
set_option linter.unusedVariables false
set_option maxRecDepth 20000
structure PqW (R:RRel)(T0:Tags)(h0:Heap)(hp hq m N nw:Nat)(c:Cfg)(A B:Nat→Nat)(av bv:Value)(W:Wd)(T':Tags)(h':Heap):Prop where
 o:Only Gd T0 h0 T' h'
 a:WdM T' h' hp A W
 b:RdM R T' h' hq B W
 k:HS m W.H
 n:W.H.n=N
 c:W.H.c=c
 g:WgA W
 w:∀ i,i<nw→∀ p,W.ps i=some p→∃ q,p = .w q
 ra:Rw T' h' [6] 1 qbOZ av nw (seqF nw fun i=>[ptP W A i])
 rb:Rw T' h' [7] 1 qVZ bv nw (seqF nw fun i=>[ptP W B i])
section
variable {R:RRel}{T0:Tags}{h0:Heap}{hp hq m N nw:Nat}{c:Cfg}{A B:Nat→Nat}{av bv:Value}{W:Wd}{T':Tags}{h':Heap}
theorem PqW.up {U:Tag→Prop}{T'':Tags}{h'':Heap}(rk:RKeeps R)(x:PqW R T0 h0 hp hq m N nw c A B av bv W T' h')(o:Only U T' h' T'' h'')(g:∀ t,U t→Gd t)(u1:∀ t,UW t→¬ U t)(u2:∀ t,UR t→¬ U t)(u6:¬ U [6])(u7:¬ U [7]):PqW R T0 h0 hp hq m N nw c A B av bv W T'' h'' :=
 have n0:¬ U []:=fun h=>Gd.n0 (g _ h)
 ⟨x.o.trans (o.mono g),x.a.up o u1 n0,x.b.up rk o.k u2 n0,x.k,x.n,x.c,x.g,x.w,x.ra.kp o.k u6,x.rb.kp o.k u7⟩
theorem PqW.ext {h'':Heap}(rk:RKeeps R)(x:PqW R T0 h0 hp hq m N nw c A B av bv W T' h')(e:Ext h' h''):PqW R T0 h0 hp hq m N nw c A B av bv W T' h'' :=
 x.up rk (Only.of_ext (U:=non) x.o.wf e) (fun _ h=>h.elim) (fun _ _ h=>h) (fun _ _ h=>h) (not_non _) (not_non _)
theorem ptP_set {A:Nat→Nat}{W:Wd}{i q:Nat}{p:PR}(j:Nat):bset (ptP W A) i (ptr q) j=ptP { W with ps:=bset W.ps i (some p) } (bset A i q) j:=by
 unfold ptP
 by_cases h:j=i
 ·subst h; simp[bset_same]
 ·rw[bset_ne h]
  show _=if (bset W.ps i (some p) j).isSome then ptr (bset A i q j) else _
  rw[bset_ne h,bset_ne h]
theorem ptP_step {A:Nat→Nat}{W:Wd}{i:Nat}{n:Int}{p:PR}(hp:W.ps i=some p)(j:Nat):ptP W A j=ptP (W.step i n) A j:=by
 unfold ptP
 have e:(W.step i n).ps=bset W.ps i (some (p.step (W.ms i) W.H n).1):=by simp only[Wd.step,hp]
 rw[e]
 by_cases h:j=i
 ·subst h; rw[bset_same,hp]; rfl
 ·rw[bset_ne h]
theorem PqW.new {i q q2:Nat}{p:PR}{T'':Tags}{h'':Heap}(x:PqW R T0 h0 hp hq m N nw c A B av bv W T' h')(o:Only Gd T' h' T'' h'')(hw:∃ z,p = .w z)(hg:∀ z,p = .w z→WG W.H.n z)
  (a:WdM T'' h'' hp (bset A i q) { W with ps:=bset W.ps i (some p) }) (b:RdM R T'' h'' hq (bset B i q2) { W with ps:=bset W.ps i (some p) })
  (ra:Rw T'' h'' [6] 1 qbOZ av nw (seqF nw fun j=>[bset (ptP W A) i (ptr q) j])) (rb:Rw T'' h'' [7] 1 qVZ bv nw (seqF nw fun j=>[bset (ptP W B) i (ptr q2) j])) :
  PqW R T0 h0 hp hq m N nw c (bset A i q) (bset B i q2) av bv { W with ps:=bset W.ps i (some p) } T'' h'':=by
 refine⟨x.o.trans o,a,b,x.k,x.n,x.c,fun j z hj=>?_,fun j hjn z hj=>?_,rowP_congr ra fun j _=>ptP_set j,rowP_congr rb fun j _=>ptP_set j⟩
 ·have hj:bset W.ps i (some p) j=some (.w z):=hj
  by_cases hji:j=i
  ·subst hji
   rw[bset_same] at hj
   simp -implicitDefEqProofs only[Option.some.injEq] at hj
   exact hg z hj
  ·rw[bset_ne hji] at hj; exact x.g j z hj
 ·have hj:bset W.ps i (some p) j=some z:=hj
  by_cases hji:j=i
  ·subst hji
   rw[bset_same] at hj
   simp -implicitDefEqProofs only[Option.some.injEq] at hj
   rw[← hj]; exact hw
  ·rw[bset_ne hji] at hj; exact x.w j hjn z hj
variable {K:KTy}
theorem PqW.step {i:Nat}{p:WP}(rk:RWri R)(x:PqW R T0 h0 hp hq m N nw c A B av bv W T' h')(hm:m<90000)(hp':W.ps i=some (.w p))(n:Int)
  (hM:∀ T1 h1,Only UW T' h' T1 h1→(∀ {K':KTy},(∀ T2 h2,Only UR T1 h1 T2 h2→PqW R T0 h0 hp hq (m+1) N nw c A B av bv (W.step i n) T2 h2→K' (.tuple #[]) h2)→callM P qQZ #[ptr (B i),ptr hq,.int .i64 n] h1 K')→K (.tuple #[]) h1):callM P qbtZ #[ptr (A i),ptr hp,.int .i64 n] h' K:=by
 have wg:=x.g i p hp'
 obtain⟨s1,s2,s3,s4,s5⟩:=wstepH x.k wg hp' n
 refine pastep_w n x.o.wf x.a x.k hm wg hp' fun T1 h1 o1 a1=>?_
 have b1:=x.b.up rk.toRKeeps o1.k (fun t ht=>urw ht) UW.nil
 refine hM T1 h1 o1 fun {K'} hK=>?_
 refine rdstep_w rk n o1.wf b1 x.k hm wg hp' fun T2 h2 o2 b2=>?_
 refine hK T2 h2 o2 ⟨(x.o.trans (o1.mono fun _=>gdUW)).trans (o2.mono fun _=>gdUR),a1.up o2 (fun t ht=>uwr ht) UR.nil,b2,s2,s3.trans x.n,s4.trans x.c,x.g.step x.k wg hp' n,fun j hj z hz=>?_,
  rowP_congr ((x.ra.kp o1.k offUW6).kp o2.k offUR6) fun j _=>ptP_step hp' j,rowP_congr ((x.rb.kp o1.k offUW7).kp o2.k offUR7) fun j _=>ptP_step hp' j⟩
 rw[s5] at hz
 by_cases hji:j=i
 ·subst hji
  rw[bset_same] at hz
  simp -implicitDefEqProofs only[Option.some.injEq] at hz
  exact⟨_,hz.symm⟩
 ·rw[bset_ne hji] at hz; exact x.w j hj z hz
theorem PqW.both2 {U1 U2:Tag→Prop}{H':Hall}{m':Nat}{T1 T2:Tags}{h1 h2:Heap}(rk:RKeeps R)(x:PqW R T0 h0 hp hq m N nw c A B av bv W T' h')(o1:Only U1 T' h' T1 h1)(d1:∀ t,U1 t→Gd t)(a2:∀ i,Off U1 [2,i])(a4:∀ i,Off U1 [4,i])(a6:¬ U1 [6])(a7:¬ U1 [7])(y1:HallR T1 h1 [1] hp H')
  (o2:Only U2 T1 h1 T2 h2) (d2:∀ t,U2 t→Gd t) (b1:Off U2 [1]) (b2:∀ i,Off U2 [2,i]) (b4:∀ i,Off U2 [4,i]) (b6:¬ U2 [6]) (b7:¬ U2 [7]) (z2:RhR T2 h2 [3] hq H') (hs:HS m' H') (hn:H'.n=W.H.n) (hc:H'.c=W.H.c) :
  PqW R T0 h0 hp hq m' N nw c A B av bv { W with H:=H' } T2 h2:=by
 have n1:¬ U1 []:=fun h=>Gd.n0 (d1 _ h)
 have n2:¬ U2 []:=fun h=>Gd.n0 (d2 _ h)
 refine⟨(x.o.trans (o1.mono d1)).trans (o2.mono d2),⟨y1.up o2 b1 n2,fun i p hi=>((x.a.ps i p hi).kp o1.k (a2 i) n1).kp o2.k (b2 i) n2⟩,
  ⟨z2,fun i p hi=>rk.kp (rk.kp (x.b.ps i p hi) o1.k (a4 i) n1) o2.k (b4 i) n2⟩,hs,hn.trans x.n,hc.trans x.c,fun i p hi=>by have:=x.g i p hi; rw[← hn] at this; exact this,x.w,
  (x.ra.kp o1.k a6).kp o2.k b6,(x.rb.kp o1.k a7).kp o2.k b7⟩
theorem PqW.both {H':Hall}{m':Nat}{T1 T2:Tags}{h1 h2:Heap}(rk:RKeeps R)(x:PqW R T0 h0 hp hq m N nw c A B av bv W T' h')(o1:Only (pre [1]) T' h' T1 h1)(y1:HallR T1 h1 [1] hp H')(o2:Only (pre [3]) T1 h1 T2 h2)(z2:RhR T2 h2 [3] hq H')(hs:HS m' H')(hn:H'.n=W.H.n)(hc:H'.c=W.H.c) :
  PqW R T0 h0 hp hq m' N nw c A B av bv { W with H:=H' } T2 h2 :=
 x.both2 rk o1 (fun _=>gd_pre g1) d12i (fun i=>off_pre (g:=[]) (x:=[1]) (y:=[4,i]) (by simp) (by simp)) (by simp[pre]) (by simp[pre]) y1 o2 (fun _=>gd_pre g3) off31 (fun i=>off_pre (g:=[]) (x:=[3]) (y:=[2,i]) (by simp) (by simp)) o34i (by simp[pre]) (by simp[pre]) z2 hs hn hc
end
theorem zcPw:zc P qbOZ=some #[.pointer none]:=by kernel_rfl
theorem zcRw:zc P qVZ=some #[.pointer none]:=by kernel_rfl
theorem PqW.zero {R:RRel}{T0 T':Tags}{h0 h':Heap}{hp hq N nw:Nat}{c:Cfg}{av bv:Value}(o:Only Gd T0 h0 T' h')(y:HallR T' h' [1] hp (hall0 c N))(z:RhR T' h' [3] hq (hall0 c N))(hs:HS 0 (hall0 c N))
  (ra:Rw T' h' [6] 1 qbOZ av nw (seqF nw fun _=>[.pointer none])) (rb:Rw T' h' [7] 1 qVZ bv nw (seqF nw fun _=>[.pointer none])):PqW R T0 h0 hp hq 0 N nw c (fun _=>0) (fun _=>0) av bv (wd0 c N) T' h' :=
 ⟨o,wd0M y _,⟨z,fun i p h=>by simp[wd0] at h⟩,hs,rfl,rfl,fun i p h=>by simp[wd0] at h,fun i _ p h=>by simp[wd0] at h,ra,rb⟩
end Go.Proofs.YtmbningljbcpkaaGreat
namespace Go.Proofs.YtmbningljbcpkaaGreat
open Go Go.Den Go.MapKept
set_option linter.unusedSimpArgs false
set_option linter.unusedVariables false
set_option maxRecDepth 20000
theorem u8At {F:Heap}{v:Value}{bs:List Int}(x:Sl 1 (IntR .u8) F v bs){i:Nat}(hi:i<bs.length):∃ b p,iaV (some (none,1)) v (.int .i64 i)=some (.pointer (some ⟨b,p,none⟩))∧(∀ h',Ext F h'→cel h' b p=some (.int .u8 bs[i]))∧0≤bs[i]∧bs[i]≤255:=by
 obtain⟨b,o,c,i1,i2,i3,i4⟩:=x.at (k:=.i64) (i:=i) (by omega) (by omega)
 simp -implicitDefEqProofs only[Int.toNat_natCast] at i3 i4
 subst i3
 have hw:=wf_u8 i4
 refine⟨b,o,i1,fun h' e=>?_,hw.1,hw.2⟩
 have:=(cels_get (cels_ext e i2)).2 0 (by simp)
 simpa using this
end Go.Proofs.YtmbningljbcpkaaGreat
namespace Go.Proofs.YtmbningljbcpkaaGreat
open Go Go.Den
set_option maxRecDepth 100000
set_option linter.unusedVariables false
set_option maxHeartbeats 40000000
def qfMZ (a:Post)(m:List Nat)(b:Env)(c d e f g h i j k l n o p q r s t u v w:Value)(x:Heap):Prop:=a .normal m (puts b [(48,(b 14)),(49,(b 2)),(50,c),(51,d),(54,(b 2)),(55,(b 14)),(56,e),(57,f),(58,g),(59,(b 1)),(60,h),(61,i),(62,j),(15,j),(63,(b 14)),(64,k),(65,l),(66,(b 7)),(67,(b 2)),(68,(b 14)),(69,n),(70,o),(71,p),(72,q),(73,r),(74,(b 9)),(75,(b 2)),(76,(b 14)),(77,s),(78,t),(79,u),(80,v),(81,w)]) x
def qfNZ (a:Env)(b:Heap)(c:Post)(m:List Nat)(d e f g h i j k l n o p q r s:Value):Prop:=ov (iaV (some (none,1)) (a 2) (a 14)) fun t=>ov (ldV (some none) t b) fun u=>ov (cvV (some .u64) u) fun v=>ov (binV BinOp.rem 2 true v (Value.int IntKind.u64 4)) fun w=>callM P qdQZ #[(a 9),(Value.int IntKind.i64 9),w] b fun x y=>qfMZ c m a d e f g h i j k l n o p q r s t u v w x y
def qfOZ (a:Env)(b:Heap)(c:Post)(m:List Nat)(d e f g h i j k l n:Value):Prop:=ov (iaV (some (none,1)) (a 2) (a 14)) fun o=>ov (ldV (some none) o b) fun p=>ov (cvV (some .u64) p) fun q=>ov (binV BinOp.rem 2 true q (Value.int IntKind.u64 4)) fun r=>callM P qkcZ #[(a 7),(Value.int IntKind.i64 9),r] b fun s t=>qfNZ a t c m d e f g h i j k l n o p q r s
def qfPZ (a:Post)(m:List Nat)(b:Env)(c d e f g h i j k l:Value)(n:Heap):Prop:=a .normal m (puts b [(48,(b 14)),(49,(b 2)),(50,c),(51,d),(54,(b 2)),(55,(b 14)),(56,e),(57,f),(58,g),(59,(b 1)),(60,h),(61,i),(62,j),(15,j),(63,(b 14)),(64,k),(65,l)]) n
def qfQZ (a:Env)(b:Heap)(c:Post)(m:List Nat)(d e f g h i j k:Value):Prop:=ov (binV BinOp.rem 2 true (a 14) (Value.int IntKind.i64 7)) fun l=>ov (binV BinOp.eql 2 true l (Value.int IntKind.i64 6)) fun n=>cdM n (qfOZ a b c m d e f g h i j k l n) (qfPZ c m a d e f g h i j k l n b)
def qfRZ (a:Env)(b:Value)(c:Heap)(d:Value)(e:Post)(m:List Nat)(f g h i j k l n o p q r s t u v w:Value):Prop:=ov (iaV (some (none,1)) (a 10) (a 15)) fun x=>stM (some 1) x b c fun y=>ov (iaV (some (none,1)) (a 11) (a 15)) fun z=>stM (some 1) z d y fun aa=>e .normal m (puts a [(82,(a 15)),(83,(a 1)),(84,f),(85,g),(86,(a 10)),(87,(a 15)),(88,h),(89,i),(90,j),(91,j),(92,k),(93,l),(94,n),(95,o),(96,p),(97,q),(98,(a 10)),(99,(a 15)),(100,(a 11)),(101,(a 15)),(102,(a 7)),(103,(a 15)),(104,(a 1)),(105,(a 15)),(106,r),(107,s),(110,(a 9)),(111,(a 15)),(112,(a 1)),(113,(a 15)),(114,t),(115,u),(108,v),(109,b),(116,w),(117,d),(118,x),(119,z)]) aa
def qfSZ (a:Value)(b:Heap)(c:Value)(d:Env)(e:Value)(f:Post)(m:List Nat)(g h i j k l n o p q r s t:Value):Prop:=ldV (some (some 7)) a b=some c∧callM P qmiZ #[(d 7),(d 15),e] b fun u v=>ldV (some (some 7)) a v=some c∧callM P qciZ #[c] v fun w x=>callM P qeuZ #[(d 9),(d 15),w] x fun y z=>qfRZ d u z y f m g h i j k l n o p q r s t a c e w
def qczZ (a:Env)(b:Heap)(c:Post)(m:List Nat)(d e f g h i j k l n o:Value):Prop:=ov (iaV (some (none,7)) (a 1) (a 15)) fun p=>ov (ldV (some (some 7)) p b) fun q=>ov (iaV (some (none,7)) (a 1) (a 15)) fun r=>ov (ldV (some (some 7)) r b) fun s=>callM P qciZ #[q] b fun t u=>qfSZ r u s a t c m d e f g h i j k l n o p q
def qfTZ (a:Post)(m:List Nat)(b:Env)(c d e f g h i j k l n:Value)(o:Heap):Prop:=a .normal m (puts b [(82,(b 15)),(83,(b 1)),(84,c),(85,d),(86,(b 10)),(87,(b 15)),(88,e),(89,f),(90,g),(91,g),(92,h),(93,i),(94,j),(95,k),(96,l),(97,n)]) o
def qfUZ (a:Env)(b:Heap)(c:Post)(m:List Nat)(d e:Value):Prop:=ov (iaV (some (none,1)) (a 10) (a 15)) fun f=>ov (ldV (some none) f b) fun g=>ov (binV BinOp.eql 4 true g (Value.pointer none)) fun h=>gM (isB h false) (fun i=>i (a 11) b) b fun j k=>gM (isB h false) (fun l=>l (a 15) k) k fun n o=>gM (isB h false) (fun p=>ov (iaV (some (none,1)) j n) fun q=>p q o) o fun r s=>gM (isB h false) (fun t=>ov (ldV (some none) r s) fun u=>t u s) s fun v w=>gM (isB h false) (fun x=>callM P qbwZ #[v] w fun y z=>x y z) w fun aa ab=>ov (pkV h (Value.bool true) aa) fun ac=>cdM ac (qczZ a ab c m d e f g h j n r v aa ac) (qfTZ c m a d e f g h j n r v aa ac ab)
def qfVZ (a:Post)(m:List Nat)(b:Env)(c d e f g h:Value)(i:Heap):Prop:=a (.exit 1) m (puts b [(120,(b 10)),(121,(b 15)),(122,c),(123,d),(124,(b 7)),(125,(b 14)),(126,e),(127,(b 11)),(128,(b 15)),(129,f),(130,g),(131,(b 9)),(132,(b 14)),(133,h)]) i
def qfWZ (a:Env)(b:Heap)(c:Post)(m:List Nat)(d e f:Value):Prop:=ov (iaV (some (none,1)) (a 11) (a 15)) fun g=>ov (ldV (some none) g b) fun h=>callM P qQZ #[h,(a 9),(a 14)] b fun i j=>qfVZ c m a d e f g h i j
def qcAZ (a:Env)(b:Heap)(c:Post)(m:List Nat):Prop:=ov (iaV (some (none,1)) (a 10) (a 15)) fun d=>ov (ldV (some none) d b) fun e=>callM P qbtZ #[e,(a 7),(a 14)] b fun f g=>qfWZ a g c m d e f
def qfXZ (a:Env)(b:Heap)(m:List Nat)(c d:Value)(e:Post):Prop:=seqM (fun f=>qfUZ a b f m c d) (fun m g h=>qcAZ g h e m) e
def qfYZ (a:Env)(b:Heap)(m:List Nat)(c:Post):Prop:=ov (lnV 7 (a 1)) fun d=>ov (binV BinOp.lss 2 false (a 15) d) fun e=>cdM e (qfXZ a b m d e c) (c .normal m (puts a [(82,(a 15)),(83,(a 1)),(84,d),(85,e)]) b)
def qoMZ (a:Post)(m:List Nat)(b:Env)(c d e f g h i j k l n o p q r s:Value)(t:Heap):Prop:=a .ret m (puts b [(134,(b 12)),(135,(b 7)),(137,(b 13)),(138,c),(139,d),(140,e),(141,(b 9)),(136,f),(142,g),(143,h),(144,h),(145,i),(146,j),(147,k),(149,l),(150,n),(151,o),(148,p),(152,q),(153,r),(154,s),(6,(Value.bool false))]) t
def qoNZ (a:Post)(m:List Nat)(b:Env)(c d e f g h i j k l n o p q r s t u v w x y z aa ab ac ad ae af ag ah ai aj ak al am an ao ap aq ar au av aw ax ay:Value)(az:Heap):Prop:=a .ret m (puts b [(134,(b 12)),(135,(b 7)),(137,(b 13)),(138,c),(139,d),(140,e),(141,(b 9)),(136,f),(142,g),(143,h),(144,h),(145,i),(146,j),(147,k),(149,l),(150,n),(151,o),(148,p),(152,q),(153,r),(154,s),(155,(b 12)),(157,(b 13)),(158,t),(159,u),(160,v),(161,w),(162,x),(163,y),(156,z),(164,aa),(165,aa),(166,ab),(168,ac),(169,ad),(170,ae),(171,af),(172,ag),(173,ah),(174,ai),(167,aj),(175,ak),(176,al),(177,al),(178,am),(180,an),(181,ao),(182,ap),(183,aq),(184,ar),(185,au),(186,av),(179,aw),(187,ax),(188,ay),(6,(Value.bool false))]) az
def qfZZ (a:Post)(m:List Nat)(b:Env)(c d e f g h i j k l n o p q r s t u v w x y z aa ab ac ad ae af ag ah ai aj ak al am an ao ap aq ar au av aw ax ay:Value)(az:Heap):Prop:=a .normal m (puts b [(134,(b 12)),(135,(b 7)),(137,(b 13)),(138,c),(139,d),(140,e),(141,(b 9)),(136,f),(142,g),(143,h),(144,h),(145,i),(146,j),(147,k),(149,l),(150,n),(151,o),(148,p),(152,q),(153,r),(154,s),(155,(b 12)),(157,(b 13)),(158,t),(159,u),(160,v),(161,w),(162,x),(163,y),(156,z),(164,aa),(165,aa),(166,ab),(168,ac),(169,ad),(170,ae),(171,af),(172,ag),(173,ah),(174,ai),(167,aj),(175,ak),(176,al),(177,al),(178,am),(180,an),(181,ao),(182,ap),(183,aq),(184,ar),(185,au),(186,av),(179,aw),(187,ax),(188,ay)]) az
def qgaZ (a:Value)(b:Heap)(c d e f:Value)(g:Env)(h:Post)(m:List Nat)(i j l n o p q r s t u v w x y z aa ab:Value):Prop:=ldV (some none) a b=some c∧ldV (some none) d b=some e∧ov (binV BinOp.neq 2 false f e) fun ac=>gv (isB ac false) (fun k=>k (g 12)) fun ad=>gv (isB ac false) (fun k=>k (g 13)) fun ae=>gv (isB ac false) (ov (ncV ae)) fun af=>gv (isB ac false) (ov (faV (some 0) af)) fun ag=>gv (isB ac false) (ov (ldV (some none) ag b)) fun ah=>gv (isB ac false) (ov (faV (some 0) (g 3))) fun ai=>gv (isB ac false) (ov (ldV (some none) ai b)) fun aj=>gv (isB ac false) (ov (binV BinOp.quo 2 false ah aj)) fun ak=>gM (isB ac false) (fun al=>callM P qdTZ #[ad] b fun am an=>al am an) b fun ao ap=>((isB ac false)=true→ldV (some none) ag ap=some ah)∧((isB ac false)=true→ldV (some none) ai ap=some aj)∧gv (isB ac false) (ov (binV BinOp.neq 2 false ao ak)) fun aq=>ov (pkV ac (Value.bool true) aq) fun ar=>gv (isB ar false) (fun k=>k (g 12)) fun au=>gv (isB ar false) (fun k=>k (g 13)) fun av=>gv (isB ar false) (ov (ncV av)) fun aw=>gv (isB ar false) (ov (faV (some 1) aw)) fun ax=>gv (isB ar false) (ov (ldV (some none) ax ap)) fun ay=>gv (isB ar false) (ov (ncV ay)) fun az=>gv (isB ar false) (ov (faV (some 3) az)) fun ba=>gv (isB ar false) (ov (ldV (some none) ba ap)) fun bb=>gM (isB ar false) (fun bc=>callM P qhbZ #[au] ap fun bd be=>bc bd be) ap fun bf bg=>((isB ar false)=true→ldV (some none) ax bg=some ay)∧((isB ar false)=true→ldV (some none) ba bg=some bb)∧gv (isB ar false) (ov (binV BinOp.neq 2 false bf bb)) fun bh=>ov (pkV ar (Value.bool true) bh) fun bi=>cdM bi (qoNZ h m g i j l n o p q r s t u v w x y z aa a c ab d e f ac ad ae af ag ah ai aj ak ao aq ar au av aw ax ay az ba bb bf bh bi bg) (qfZZ h m g i j l n o p q r s t u v w x y z aa a c ab d e f ac ad ae af ag ah ai aj ak ao aq ar au av aw ax ay az ba bb bf bh bi bg)
def qgbZ (a:Env)(b:Heap)(c:Post)(m:List Nat)(d e f g h i j k l n o p q r s t:Value):Prop:=ov (ncV (a 13)) fun u=>ov (faV (some 1) u) fun v=>ov (ldV (some none) v b) fun w=>ov (ncV w) fun x=>ov (faV (some 1) x) fun y=>ov (ldV (some none) y b) fun z=>callM P qdSZ #[(a 12)] b fun aa ab=>qgaZ v ab w y z aa a c m d e f g h i j k l n o p q r s t u x
def qgcZ (a:Value)(b:Heap)(c:Value)(d:Env)(e:Value)(f:Post)(m:List Nat)(g:Value):Prop:=ldV (some none) a b=some c∧callM P qaJZ #[c,(d 9)] b fun h i=>ov (binV BinOp.neq 1 false e h) fun j=>gv (isB j false) (fun k=>k (d 12)) fun l=>gv (isB j false) (fun k=>k (d 7)) fun n=>gv (isB j false) (fun k=>k (d 14)) fun o=>gv (isB j false) (fun k=>k (d 13)) fun p=>gv (isB j false) (fun k=>k (d 9)) fun q=>gv (isB j false) (fun k=>k (d 14)) fun r=>gM (isB j false) (fun s=>callM P qcQZ #[l,n,o] i fun t u=>s t u) i fun v w=>gM (isB j false) (fun x=>callM P qdRZ #[p,q,r] w fun y z=>x y z) w fun aa ab=>gv (isB j false) (ov (binV BinOp.neq 1 false v aa)) fun ac=>ov (pkV j (Value.bool true) ac) fun ad=>cdM ad (qoMZ f m d g a c e h j l n o p q r v aa ac ad ab) (qgbZ d ab f m g a c e h j l n o p q r v aa ac ad)
def qgdZ (a:Env)(b:Heap)(c:Post)(m:List Nat):Prop:=ov (ncV (a 13)) fun d=>ov (faV (some 1) d) fun e=>ov (ldV (some none) e b) fun f=>callM P qflZ #[(a 12),(a 7)] b fun g h=>qgcZ e h f a g c m d
def qcBZ (a:Env)(b:Heap)(m:List Nat)(c:Post):Prop:=seqM (fun d=>qfYZ a b m d) (fun m e f=>qgdZ e f c m) (blkM 1 c)
def qgeZ (a:Env)(b:Heap)(m:List Nat)(c d:Value)(e:Post):Prop:=ov (iaV (some (none,1)) (a 2) (a 14)) fun f=>ov (ldV (some none) f b) fun g=>ov (cvV (some .i64) g) fun h=>ov (lnV 7 (a 1)) fun i=>ov (binV BinOp.add 2 true i (Value.int IntKind.i64 1)) fun j=>ov (binV BinOp.rem 2 false h j) fun k=>seqM (fun l=>qfQZ a b l m c d f g h i j k) (fun m n o=>qcBZ n o m e) (blkM 1 e)
def qgfZ (a:Env)(b:Heap)(m:List Nat)(c d:Value)(e:Post):Prop:=seqM (fun f=>qgeZ a b m c d f) (fun m g h=>ov (binV BinOp.add 2 true (g 14) (Value.int IntKind.i64 1)) fun i=>e .normal m (puts g [(52,(g 14)),(53,i),(14,i)]) h) e
def qggZ (a:Env)(b:Heap)(m:List Nat)(c:Post):Prop:=ov (lnV 7 (a 2)) fun d=>ov (binV BinOp.lss 2 false (a 14) d) fun e=>cdM e (qgfZ a b m d e c) (c (.exit 0) m (puts a [(48,(a 14)),(49,(a 2)),(50,d),(51,e)]) b)
def qghZ (x0 x1 x2 a b c d e f g h i j k l n o p q r s t u v w x y z:Value)(aa:Heap)(ab:Post):Prop:=loopM (fun m ac ad ae=>qggZ ac ad m ae) [] (puts (envOf [x0,x1,x2]) [(3,a),(6,(Value.bool false)),(16,b),(17,c),(18,c),(19,d),(20,e),(21,f),(22,g),(23,h),(24,i),(27,j),(28,k),(26,k),(29,l),(30,n),(7,l),(8,n),(31,n),(32,o),(33,o),(34,p),(35,q),(36,r),(37,s),(38,t),(9,t),(39,x1),(40,u),(41,v),(10,v),(42,x1),(43,w),(44,x),(11,x),(45,l),(46,y),(47,z),(12,y),(13,z),(14,(Value.int IntKind.i64 0))]) aa (blkM 0 ab)
def qgiZ (a:Value)(b:Heap)(c d:Value)(e:Env)(K:KTy)(m:List Nat)(f:Value):Prop:=ldV (some none) a b=some c∧callM P qegZ #[d,c] b fun g h=>gv (isB g true) (fun k=>k (e 7)) fun i=>gv (isB g true) (fun k=>k (e 9)) fun j=>gM (isB g true) (fun l=>callM P qieZ #[i] h fun n o=>l n o) h fun p q=>gM (isB g true) (fun r=>callM P qcPZ #[j] q fun s t=>r s t) q fun u v=>gv (isB g true) (ov (binV BinOp.eql 2 false p u)) fun w=>ov (pkV g w (Value.bool false)) fun x=>(retM P [.tmp 6] K) .ret m (puts e [(189,(e 7)),(191,(e 9)),(192,f),(193,a),(194,c),(190,d),(195,g),(196,g),(197,i),(199,j),(198,p),(200,u),(201,w),(202,x),(6,x)]) v
def qgjZ (a:Env)(b:Heap)(K:KTy)(m:List Nat):Prop:=ov (ncV (a 9)) fun c=>ov (faV (some 11) c) fun d=>ov (ldV (some none) d b) fun e=>callM P qkaZ #[(a 7)] b fun f g=>qgiZ d g e f a K m c
def qgRZ (x0 x1 x2 a b c d e f g h i j k l n o p q r s t u v w x y z:Value)(aa:Heap)(K:KTy):Prop:=seqM (fun ab=>qghZ x0 x1 x2 a b c d e f g h i j k l n o p q r s t u v w x y z aa ab) (fun m ac ad=>qgjZ ac ad K m) (retM P [.tmp 6] K)
def qgSZ (a:Heap)(x0 x1 x2 b c d e f g h i j k l m n o p q r s t u v w x y:Value)(K:KTy):Prop:=callM P qijZ #[] a fun z aa=>qgRZ x0 x1 x2 b c d e f g h i j k l m n o p q r s t u v w x y z aa K
def qgTZ (a:Value)(b:Heap)(x0 x1 x2 c d e f g h i j k l m n o p q r s t u v w x:Value)(K:KTy):Prop:=callM P qmjZ #[a] b fun y z=>qgSZ z x0 x1 x2 c d e f g h i j k l m a n o p q r s t u v w x y K
def qgUZ (x1:Value)(a:Heap)(b x0 x2 c d e f g h i j k l m n o p q r s t u v:Value)(K:KTy):Prop:=ov (lnV 7 x1) fun w=>vvM P (Instr.makeSlice qgkZ w w) a fun x y=>qgTZ b y x0 x1 x2 c d e f g h i j k l m n o p q r s t u v w x K
def qgVZ (x1:Value)(a:Heap)(b x0 x2 c d e f g h i j k l m n o p q r s t:Value)(K:KTy):Prop:=ov (lnV 7 x1) fun u=>vvM P (Instr.makeSlice qmmZ u u) a fun v w=>qgUZ x1 w b x0 x2 c d e f g h i j k l m n o p q r s t u v K
def qgWZ (a:Value)(b:Heap)(x1 c x0 x2 d e f g h i j k l m n o p q r:Value)(K:KTy):Prop:=ov (ldV (some (some 7)) a b) fun s=>callM P qidZ #[s] b fun t u=>qgVZ x1 u c x0 x2 a d e f g h i j k l m n o p q r s t K
def qgXZ (a:Value)(b:Heap)(K:KTy)(c x1 x0 x2 d e f g h i j k l:Value):Prop:=ov (exV a 0) fun m=>ov (exV a 1) fun n=>ov (binV BinOp.neq 2 true n (Value.int IntKind.i64 0)) fun o=>gM (isB o false) (fun p=>p m b) b fun q r=>gM (isB o false) (fun s=>ov (binV BinOp.eql 4 true q (Value.pointer none)) fun t=>s t r) r fun u v=>ov (pkV o (Value.bool true) u) fun w=>cdM w (K (Value.bool false) v) (qgWZ c v x1 m x0 x2 d e f g h i j k l a n o q u w K)
def qgYZ (a:Value)(b:Heap)(K:KTy)(x1 x0 x2 c d e f g h i j:Value):Prop:=ov (ldV (some (some 7)) a b) fun k=>callM P qoOZ #[k] b fun l m=>qgXZ l m K a x1 x0 x2 c d e f g h i j k
def qgZZ (a b:Value)(c:Heap)(x1 x2:Value)(K:KTy)(x0:Value):Prop:=ov (unV UnOp.not a) fun d=>gM (isB d false) (fun e=>ov (ldV (some (some 7)) b c) fun f=>e f c) c fun g h=>gM (isB d false) (fun i=>i x1 h) h fun j k=>gM (isB d false) (fun l=>l x2 k) k fun m n=>gM (isB d false) (fun o=>callM P qiiZ #[g,j,m] n fun p q=>o p q) n fun r s=>gM (isB d false) (fun t=>ov (unV UnOp.not r) fun u=>t u s) s fun v w=>ov (pkV d (Value.bool true) v) fun x=>cdM x (callM P qdtZ #[] w fun y z=>K y z) (qgYZ b w K x1 x0 x2 a d g j m r v x)
def qefZ (x0 x1 x2:Value)(h:Heap)(K:KTy):Prop:=nwM (some x0.cells) qxZ h fun a b=>callM P qdtZ #[] b fun c d=>qgZZ c a d x1 x2 K x0
variable {K:KTy}
theorem qpHZ {x0 x1 x2:Value}{h:Heap}(hd:qefZ x0 x1 x2 h K):callM P qdDZ #[x0,x1,x2] h K :=
 call_of good mixed (fn:=Tryz.f8) (args:=[x0,x1,x2]) Tryz.func8 rfl (by kernel_rfl) (of_decide_eq_true rfl) (B:=qefZ x0 x1 x2 h K) (by kernel_rfl) hd
end Go.Proofs.YtmbningljbcpkaaGreat
namespace Go.Proofs.YtmbningljbcpkaaGreat
open Go Go.Den Go.MapKept
set_option linter.unusedSimpArgs false
set_option linter.unusedVariables false
set_option maxRecDepth 20000
theorem gd5:Gd [5]:=⟨4,[],rfl⟩
theorem offUW5:Off UW [5]:=fun t ht hh=>by obtain⟨r,rfl⟩:=ht; rcases hh with hh | hh<;>simp[pre] at hh
theorem offUR5:Off UR [5]:=fun t ht hh=>by obtain⟨r,rfl⟩:=ht; rcases hh with hh | hh<;>simp[pre] at hh
structure SpW (T0:Tags)(h0:Heap)(hp hq m N L:Nat)(c:Cfg)(av bv:Value)(sw rs:Nat)(A B:Nat→Nat)(W:Wd)(S:SwP)(T':Tags)(h':Heap):Prop where
 p:PqW RoW T0 h0 hp hq m N L c A B av bv W T' h'
 s:SwR T' h' [5] sw S
 r:RsR T' h' rs N S
 g:SwG N S
def SpI (T0:Tags)(h0:Heap)(hp hq N L X:Nat)(c:Cfg)(av bv:Value)(sw rs:Nat)(v:Value)(h':Heap):Prop :=
 ∃ (T':Tags) (W:Wd) (A B:Nat→Nat) (S:SwP) (n:Nat),SpW T0 h0 hp hq (2*n) N L c av bv sw rs A B W S T' h'∧S.rounds≤n∧v = .int .i64 n∧n≤X
section
variable {T0:Tags}{h0:Heap}{hp hq m N L:Nat}{c:Cfg}{av bv:Value}{sw rs:Nat}{A B:Nat→Nat}{W:Wd}{S:SwP}{T':Tags}{h':Heap}
theorem SpW.ext {h'':Heap}(x:SpW T0 h0 hp hq m N L c av bv sw rs A B W S T' h')(e:Ext h' h''):SpW T0 h0 hp hq m N L c av bv sw rs A B W S T' h'' :=
 have o:=Only.of_ext (U:=non) x.p.o.wf e
 ⟨x.p.ext roW.toRKeeps e,x.s.kp o.k (Off.non _) (not_non _),x.r.kp o.k (not_non _) (not_non _) (not_non _),x.g⟩
end
variable {K:KTy}
set_option maxHeartbeats 16000000 in
theorem sweepPlays_ok (c:Cfg)(cw:CfgW c)(ws:List OpD)(ts:List Int){h:Heap}{v tv:Value}(x:Sl 7 OpR h v ws)(xt:Sl 1 (IntR .u8) h tv ts)(hk:∀ h',Ext h h'→K (.bool true) h') :
  callM P qdDZ #[.agg (cfgC c).toArray,v,tv] h K:=by
 apply qpHZ
 unfold qefZ
 have wl:=x.len
 have tl:=xt.len
 refine nw_agg fun v1 h0 n0 e0 c0=>?_
 have cfg:∀ h',h' v1=some (.cells (cfgC c).toArray qxZ (0,0))→ldV (some (some 7)) (ptr v1) h'=some (.agg (cfgC c).toArray):=fun h' e=>by simp[ld_at e,cfgC]
 refine awake18_ok fun h1 e1=>?_
 have e01:=e0.trans e1
 have c1:=e1 _ _ c0
 unfold qgZZ
 simp -implicitDefEqProofs[cfg _ c1]
 refine few18_ok c ws ts.length (x.ext (@OpR.ext) e01) tl fun h2 e2=>?_
 have e02:=e01.trans e2
 have c2:=e2 _ _ c1
 cases hfew:fewB c ws ts.length with
 | false =>
  simp -implicitDefEqProofs
  exact awake18_ok fun h3 e3=>hk _ (e02.trans e3)
 | true =>
 have hfew':=hfew
 simp -implicitDefEqProofs[fewB] at hfew'
 obtain⟨⟨⟨h7,h3⟩,hr⟩,hsh⟩:=hfew'
 simp -implicitDefEqProofs
 unfold qgYZ
 simp -implicitDefEqProofs only[cfg _ c2,ov_s]
 refine hallNew_ok c cw (wf_nil h2) g1 (fun _ T4 h4 hp o4 y4=>?_) (fun hr'=>by rw[hr] at hr'; cases hr')
 have b4:=o4.see ⟨c2,rfl⟩ g1.nil
 unfold qgXZ
 have enil:binV .eql 4 true (ptr hp) (.pointer none)=some (.bool false):=rfl
 simp -implicitDefEqProofs[enil]
 unfold qgWZ
 simp -implicitDefEqProofs only[cfg _ b4.1,ov_s]
 refine rz_new c hr o4.wf g3 fun T5 h5 hq o5 z5=>?_
 have y5:=y4.up o5 off31 g3.nil
 have b5:=o5.see b4 g3.nil
 have o25:Only Gd (fun _=>[]) h2 T5 h5:=(o4.mono fun _=>gd_pre g1).trans (o5.mono fun _=>gd_pre g3)
 obtain⟨N,hN⟩:∃ N,c.stripes.toNat=N:=⟨_,rfl⟩
 rw[hN] at y5 z5
 have hcs:1≤c.stripes∧c.stripes≤8:=by simp[rightB] at hr; omega
 have hNc:(N:Int)=c.stripes:=by omega
 have hs0:HS 0 (hall0 c N):=HS.new cw hr hNc
 unfold qgVZ
 simp -implicitDefEqProofs only[wl,ov_s]
 refine mkRowP (g:=[6]) unPw apPw zcPw (by omega) (by omega) o5.wf fun T6 h6 av o6 r6=>?_
 unfold qgUZ
 simp -implicitDefEqProofs only[wl,ov_s]
 refine mkRowP (g:=[7]) unRw apRw zcRw (by omega) (by omega) o6.wf fun T7 h7' bv o7 r7=>?_
 have y7:=(y5.up o6 (Off.non _) (not_non _)).up o7 (Off.non _) (not_non _)
 have z7:=(z5.kp o6.k (Off.non _) (not_non _)).kp o7.k (Off.non _) (not_non _)
 have b7:=o7.see (o6.see b5 (not_non _)) (not_non _)
 unfold qgTZ
 refine snew_ok o7.wf gd5 fun T8 h8 sw o8 s8=>?_
 unfold qgSZ
 refine rsnew_ok (N:=N) o8.wf fun T9 h9 rs o9 r9=>?_
 have b9:=o9.see (o8.see b7 (by simp[pre])) (not_non _)
 have o29:Only Gd (fun _=>[]) h2 T9 h9:=(((o25.up o6 non_up).up o7 non_up).trans (o8.mono fun _=>gd_pre gd5)).up o9 non_up
 have xF:Sl 7 OpR (fz T9 h9) v ws:=by
  have:Sl 7 OpR (fz (fun _=>[]) h2) v ws:=by rw[fz_nil]; exact x.ext (@OpR.ext) e02
  exact this.ext (@OpR.ext) (o29.ext Gd.n0)
 have tF:Sl 1 (IntR .u8) (fz T9 h9) tv ts:=by
  have:Sl 1 (IntR .u8) (fz (fun _=>[]) h2) tv ts:=by rw[fz_nil]; exact xt.ext (fun _ r=>r) e02
  exact this.ext (fun _ r=>r) (o29.ext Gd.n0)
 have kE:∀ {T' h'},Only Gd T9 h9 T' h'→∀ {h''},Ext h' h''→K (.bool true) h'':=fun {T' h'} o {h''} e=>hk _ (e02.trans ((ext_of_only (o29.trans o) Gd.n0).trans e))
 have x0:SpW T9 h9 hp hq 0 N ws.length c av bv sw rs (fun _=>0) (fun _=>0) (wd0 c N) SwP.new T9 h9 :=
  ⟨PqW.zero (Only.refl o9.wf) ((y7.up o8 (fun t ht hh=>offUW5 t hh (.inl ht)) (by simp[pre])).up o9 (Off.non _) (not_non _)) ((z7.kp o8.k (fun t ht hh=>offUR5 t hh (.inl ht)) (by simp[pre])).kp o9.k (Off.non _) (not_non _)) hs0
   ((((r6.kp o7.k (not_non _)).kp o8.k (by simp[pre])).kp o9.k (not_non _))) ((r7.kp o8.k (by simp[pre])).kp o9.k (not_non _)),s8.kp o9.k (Off.non _) (not_non _),r9,SwG.new (by omega)⟩
 unfold qgRZ
 rw[seqM_eq]
 unfold qghZ
 refine loop_on [1,2,3,7,9,10,11,12,13] (fun s h'=>SpI T9 h9 hp hq N ws.length ts.length c av bv sw rs (s 14) h') (fun s _=>(ts.length-num (s 14)).toNat) ⟨T9,_,_,_,_,0,x0,by simp[SwP.new],rfl,by omega⟩ ?_
 rintro s h10 hf ⟨T10,W,A,B,S,n,y,hro,s14,hn⟩
 have s1:s 1=v:=by simpa using hf 1 (by simp)
 have s2:s 2=tv:=by simpa using hf 2 (by simp)
 have s3:s 3=ptr v1:=by simpa using hf 3 (by simp)
 have s7:s 7=ptr hp:=by simpa using hf 7 (by simp)
 have s9:s 9=ptr hq:=by simpa using hf 9 (by simp)
 have s10:s 10=av:=by simpa using hf 10 (by simp)
 have s11:s 11=bv:=by simpa using hf 11 (by simp)
 have s12:s 12=ptr sw:=by simpa using hf 12 (by simp)
 have s13:s 13=ptr rs:=by simpa using hf 13 (by simp)
 unfold qggZ
 simp -implicitDefEqProofs[s2,tl,s14]
 refine⟨fun hc=>?_,fun hc=>?_⟩
 rotate_left
 ·unfold qgjZ
  obtain⟨zs,za,Y,zx⟩:=y.p.b.z
  have cz:=zx.hp
  simp -implicitDefEqProofs only[rhC] at cz
  simp -implicitDefEqProofs[s7,s9,ld_at cz,cel_of cz,stm_at cz,stm_upd,ld_same,cel_same,over]
  have hA:=y.p.k.ac
  refine acts_ok y.p.o.wf y.p.a.hl (by omega) fun va h11 e11 xa=>?_
  have y11:=y.ext e11
  have zacts:=zx.acts.ext (R:=ActR) (fun _ r=>r) e11
  have cz:=e11 _ _ cz
  unfold qgiZ
  simp -implicitDefEqProofs[ld_at cz,cel_of cz,stm_at cz,stm_upd,ld_same,cel_same,over]
  refine sameActs_ok _ _ (xa.ext (R:=ActR) (fun _ r=>r) (fz_ext T10 h11)) zacts (by omega) ?_
  simp -implicitDefEqProofs[s7,s9]
  refine hstored_ok y11.p.o.wf y11.p.a.hl y11.p.k (by omega) fun h12 e12=>?_
  have y12:=y11.ext e12
  try simp -implicitDefEqProofs[s7,s9]
  refine rz_stored y12.p.b.z y12.p.k (by omega) ?_
  simp -implicitDefEqProofs
  exact kE y.p.o (e11.trans e12)
 have hlt:n<ts.length:=by omega
 have hw1:IntKind.i64.wrap ((n:Int)+1)=(n+1:Nat):=by rw[wrap64_id (by omega) (by omega)]; omega
 obtain⟨tb,tp,j1,j2,j3⟩:=u8At tF hlt
 have tc:=j2 h10 ((y.p.o.ext Gd.n0).trans (fz_ext _ _))
 have wL:IntKind.i64.wrap ((ws.length:Int)+1)=(ws.length:Int)+1:=wrap64_id (by omega) (by omega)
 have hL0:¬ (ws.length:Int)+1=0:=by omega
 obtain⟨i,hi0⟩:∃ i:Nat,ts[n].tmod ((ws.length:Int)+1)=i:=⟨(ts[n].tmod ((ws.length:Int)+1)).toNat,by rw[tm8 j3.1]; have:=Int.emod_nonneg ts[n] hL0; omega⟩
 have hil:i≤ws.length:=by have h1:=Int.emod_lt_of_pos ts[n] (show (0:Int)<(ws.length:Int)+1 by omega); rw[tm8 j3.1] at hi0; omega
 -- what is done behind the time
 have go:∀ (T11:Tags) (h11:Heap) (W:Wd) (ss:Env),SpW T9 h9 hp hq (2*n+1) N ws.length c av bv sw rs A B W S T11 h11→ss 1=v→ss 2=tv→ss 3=ptr v1→ss 7=ptr hp→ss 9=ptr hq→ss 10=av→ss 11=bv→ss 12=ptr sw→ss 13=ptr rs→ss 14 = .int .i64 n→ss 15 = .int .i64 i →
   ∀ {Q:Post},(∀ ss' h',ss' 1=v→ss' 2=tv→ss' 3=ptr v1→ss' 7=ptr hp→ss' 9=ptr hq→ss' 10=av→ss' 11=bv→ss' 12=ptr sw→ss' 13=ptr rs→ss' 14 = .int .i64 n→(∃ T' W' A' B' S',SpW T9 h9 hp hq (2*(n+1)) N ws.length c av bv sw rs A' B' W' S' T' h'∧S'.rounds≤n+1)→Q .normal [] ss' h')→qcBZ ss h11 [] Q:=by
  intro T11 h11 W ss y t1 t2 t3 t7 t9 t10 t11 t12 t13 t14 t15 Q hQ
  -- a step of both
  have stp:∀ (T12:Tags) (h12:Heap) (W:Wd) (A B:Nat→Nat) (ss:Env) (p:WP),SpW T9 h9 hp hq (2*n+1) N ws.length c av bv sw rs A B W S T12 h12→W.ps i=some (.w p)→i<ws.length→ss 1=v→ss 2=tv→ss 3=ptr v1→ss 7=ptr hp→ss 9=ptr hq→ss 10=av→ss 11=bv→ss 12=ptr sw→ss 13=ptr rs→ss 14 = .int .i64 n→ss 15 = .int .i64 i →
    ∀ {q89:Post},(∀ ss' h',ss' 1=v→ss' 2=tv→ss' 3=ptr v1→ss' 7=ptr hp→ss' 9=ptr hq→ss' 10=av→ss' 11=bv→ss' 12=ptr sw→ss' 13=ptr rs→ss' 14 = .int .i64 n→(∃ T' W' A' B' S',SpW T9 h9 hp hq (2*(n+1)) N ws.length c av bv sw rs A' B' W' S' T' h'∧S'.rounds≤n+1)→q89 (.exit 1) [] ss' h')→qcAZ ss h12 q89 []:=by
   intro T12 h12 W A B ss p y hps hiL t1 t2 t3 t7 t9 t10 t11 t12 t13 t14 t15 q89 hQ
   obtain⟨ab,ai,ac⟩:=rowP_at y.p.ra (k:=.i64) hiL
   obtain⟨bb,bi,bc⟩:=rowP_at y.p.rb (k:=.i64) hiL
   have pa:ptP W A i=ptr (A i):=by simp[ptP,hps]
   have pb:ptP W B i=ptr (B i):=by simp[ptP,hps]
   rw[pa] at ac
   unfold qcAZ
   simp -implicitDefEqProofs[t7,t10,t14,t15,ai,ac]
   refine y.p.step (i:=i) roW (by omega) hps n fun T13 h13 o13 hB=>?_
   have bc13:=rowP_cel (y.p.rb.kp o13.k offUW7) hiL bi
   rw[pb] at bc13
   unfold qfWZ
   simp -implicitDefEqProofs[t9,t11,t14,t15,bi,bc13]
   refine hB fun T14 h14 o14 p14=>?_
   have s14':=(y.s.kp o13.k offUW5 UW.nil).kp o14.k offUR5 UR.nil
   have u80:¬ UW [8,0]:=by rintro (h | h)<;>simp[pre] at h
   have u81:¬ UW [8,1]:=by rintro (h | h)<;>simp[pre] at h
   have v80:¬ UR [8,0]:=by rintro (h | h)<;>simp[pre] at h
   have v81:¬ UR [8,1]:=by rintro (h | h)<;>simp[pre] at h
   have r14:=(y.r.kp o13.k u80 u81 UW.nil).kp o14.k v80 v81 UR.nil
   unfold qfVZ
   exact hQ _ _ (by simp[t1]) (by simp[t2]) (by simp[t3]) (by simp[t7]) (by simp[t9]) (by simp[t10]) (by simp[t11]) (by simp[t12]) (by simp[t13]) (by simp[t14]) ⟨T14,_,A,B,S,⟨p14,s14',r14,y.g⟩,by omega⟩
  unfold qcBZ
  rw[seqM_eq]
  unfold qfYZ
  simp -implicitDefEqProofs[t1,wl,t15]
  refine⟨fun hiw=>?_,fun hiw=>?_⟩
  ·have hiL:i<ws.length:=by omega
   obtain⟨ab,ai,ac⟩:=rowP_at y.p.ra (k:=.i64) hiL
   obtain⟨bb,bi,bc⟩:=rowP_at y.p.rb (k:=.i64) hiL
   obtain⟨ob,op,u,i1,i2,i3,i4⟩:=opsAt xF hiL
   have lx:ws[i].users.length≤20:=by have:=hsh ws[i] (List.getElem_mem hiL); simp[shortB] at this; exact this.2.1
   -- both begin
   have bgn:∀ (h12:Heap) (a0 a1 a2 a3 a4 a5 a6 a7 a8 a9 a10:Value),Ext h11 h12→∀ {q94:Post},(∀ ss' h',(∀ j,j=1∨j=2∨j=3∨j=7∨j=9∨j=10∨j=11∨j=12∨j=13∨j=14∨j=15→ss' j=ss j)→(∃ T' W' A' B',SpW T9 h9 hp hq (2*n+1) N ws.length c av bv sw rs A' B' W' S T' h'∧∃ p,W'.ps i=some (.w p))→q94 .normal [] ss' h')→qczZ ss h12 q94 [] a0 a1 a2 a3 a4 a5 a6 a7 a8 a9 a10:=by
    intro h12 a0 a1 a2 a3 a4 a5 a6 a7 a8 a9 a10 e12 q94 hQ2
    have y12:=y.ext e12
    have eF:=(y12.p.o.ext Gd.n0).trans (fz_ext _ _)
    unfold qczZ
    simp -implicitDefEqProofs[t1,t15,i1,i2 _ eF]
    refine writing18_ok _ i3.one fun h13 e13=>?_
    have y13:=y12.ext e13
    have eF13:=eF.trans e13
    have Xw:=wrOp_w i4
    have Xu:(wrOp ws[i]).users=ws[i].users:=rfl
    have c8:1≤W.H.c.stripes∧W.H.c.stripes≤8:=by rw[y.p.c]; exact hcs
    unfold qfSZ
    simp -implicitDefEqProofs[i2 _ eF13,t7,t9,t15]
    refine panew_w (i:=i) (by omega) (wrOp ws[i]) Xw (by rw[Xu]; omega) (by rw[Xu]; exact i3.ext (@StrR.ext) (y13.p.o.ext Gd.n0)) y13.p.o.wf y13.p.a c8 fun T14 h14 q o14 a14=>?_
    have b14:=y13.p.b.up roW.toRKeeps o14.k (fun _ _ h=>h) (not_non _)
    have o914:Only Gd T9 h9 T14 h14:=y13.p.o.up o14 non_up
    have eF14:=(o914.ext Gd.n0).trans (fz_ext _ _)
    simp -implicitDefEqProofs[i2 _ eF14]
    refine writing18_ok _ i3.one fun h15 e15=>?_
    have o15:Only non T14 h14 T14 h15:=Only.of_ext o14.wf e15
    have a15:=a14.ext o14.wf e15
    have b15:=b14.ext roW.toRKeeps o14.wf e15
    have o915:=o914.up o15 non_up
    try simp -implicitDefEqProofs[t9,t15]
    refine rdnew_w roW (i:=i) (wrOp ws[i]) Xw (by rw[Xu]; omega) (by rw[Xu]; exact i3.ext (@StrR.ext) (o915.ext Gd.n0)) o15.wf b15 c8 fun T16 h16 q2 o16 b16=>?_
    have a16:=a15.up o16 (fun _ _ h=>h) (not_non _)
    have oA:Only non T11 h12 T16 h16:=(((Only.of_ext y12.p.o.wf e13).trans o14).trans o15).trans o16
    have ra16:=y12.p.ra.kp oA.k (not_non _)
    have rb16:=y12.p.rb.kp oA.k (not_non _)
    unfold qfRZ
    simp -implicitDefEqProofs only[t10,t11,t15,ai,bi,ov_s]
    refine rwp_st2 o16.wf ra16 hiL rfl rfl ai fun h17 o17 ra17=>?_
    refine rwp_st2 o17.wf (rb16.kp o17.k (by simp)) hiL rfl rfl bi fun h18 o18 rb18=>?_
    have n6:¬ (fun t:Tag=>t=[6]) []:=by simp
    have n7:¬ (fun t:Tag=>t=[7]) []:=by simp
    have a18:=(a16.up o17 (fun t ht (hh:t=[6])=>offUW6 (hh▸ht)) n6).up o18 (fun t ht (hh:t=[7])=>offUW7 (hh▸ht)) n7
    have b18:=(b16.up roW.toRKeeps o17.k (fun t ht (hh:t=[6])=>offUR6 (hh▸ht)) n6).up roW.toRKeeps o18.k (fun t ht (hh:t=[7])=>offUR7 (hh▸ht)) n7
    have hg:=wp0_g (i:=i) y.p.k Xw (by omega)
    have p18:=y12.p.new (i:=i) (q:=q) (q2:=q2) (p:=.w (wp0 W.H i (wrOp ws[i]))) ((((oA.mono non_up).trans (o17.mono fun _=>gd6))).trans (o18.mono fun _=>gd7)) ⟨_,rfl⟩ (fun z hz=>by cases hz; exact hg) a18 b18 (ra17.kp o18.k (by simp)) rb18
    have s18:=((y12.s.kp oA.k (Off.non _) (not_non _)).kp o17.k (fun t ht hh=>by subst hh; simp[pre] at ht) n6).kp o18.k (fun t ht hh=>by subst hh; simp[pre] at ht) n7
    have r18:=((y12.r.kp oA.k (not_non _) (not_non _) (not_non _)).kp o17.k (by simp) (by simp) n6).kp o18.k (by simp) (by simp) n7
    refine hQ2 _ _ (fun j hj=>?_) ⟨_,_,_,_,⟨p18,s18,r18,y.g⟩,_,bset_same _ _ _⟩
    rcases hj with rfl | rfl | rfl | rfl | rfl | rfl | rfl | rfl | rfl | rfl | rfl<;>simp
   unfold qfXZ
   rw[seqM_eq]
   unfold qfUZ
   have enil0:binV .eql 4 true (.pointer none) (.pointer none)=some (.bool true):=rfl
   cases hps:W.ps i with
   | none =>
    have pa:ptP W A i = .pointer none:=by simp[ptP,hps]
    rw[pa] at ac
    simp -implicitDefEqProofs[t10,t15,ai,ac,enil0]
    refine bgn h11 _ _ _ _ _ _ _ _ _ _ _ (Ext.refl _) fun ss' h' hs ⟨T',W',A',B',yy,p,hpp⟩=>?_
    simp -implicitDefEqProofs
    refine stp T' h' W' A' B' ss' p yy hpp hiL (by rw[hs 1 (by simp)]; exact t1) (by rw[hs 2 (by simp)]; exact t2) (by rw[hs 3 (by simp)]; exact t3) (by rw[hs 7 (by simp)]; exact t7) (by rw[hs 9 (by simp)]; exact t9) (by rw[hs 10 (by simp)]; exact t10) (by rw[hs 11 (by simp)]; exact t11) (by rw[hs 12 (by simp)]; exact t12) (by rw[hs 13 (by simp)]; exact t13) (by rw[hs 14 (by simp)]; exact t14) (by rw[hs 15 (by simp)]; exact t15) fun ss'' h'' r1 r2 r3 r7 r9 r10 r11 r12 r13 r14 J=>?_
    simp -implicitDefEqProofs
    exact hQ ss'' h'' r1 r2 r3 r7 r9 r10 r11 r12 r13 r14 J
   | some p =>
    obtain⟨z,rfl⟩:=y.p.w i hiL p hps
    have pa:ptP W A i=ptr (A i):=by simp[ptP,hps]
    have pb:ptP W B i=ptr (B i):=by simp[ptP,hps]
    rw[pa] at ac
    rw[pb] at bc
    have enil1:binV .eql 4 true (ptr (A i)) (.pointer none)=some (.bool false):=rfl
    simp -implicitDefEqProofs[t10,t11,t15,ai,ac,bi,bc,enil1]
    refine rwdone_ok (y.p.b.ps i _ hps) ?_
    cases hd:z.done with
    | true =>
     simp -implicitDefEqProofs
     refine bgn h11 _ _ _ _ _ _ _ _ _ _ _ (Ext.refl _) fun ss' h' hs ⟨T',W',A',B',yy,p,hpp⟩=>?_
     simp -implicitDefEqProofs
     refine stp T' h' W' A' B' ss' p yy hpp hiL (by rw[hs 1 (by simp)]; exact t1) (by rw[hs 2 (by simp)]; exact t2) (by rw[hs 3 (by simp)]; exact t3) (by rw[hs 7 (by simp)]; exact t7) (by rw[hs 9 (by simp)]; exact t9) (by rw[hs 10 (by simp)]; exact t10) (by rw[hs 11 (by simp)]; exact t11) (by rw[hs 12 (by simp)]; exact t12) (by rw[hs 13 (by simp)]; exact t13) (by rw[hs 14 (by simp)]; exact t14) (by rw[hs 15 (by simp)]; exact t15) fun ss'' h'' r1 r2 r3 r7 r9 r10 r11 r12 r13 r14 J=>?_
     simp -implicitDefEqProofs
     exact hQ ss'' h'' r1 r2 r3 r7 r9 r10 r11 r12 r13 r14 J
    | false =>
     simp -implicitDefEqProofs
     unfold qfTZ
     simp -implicitDefEqProofs
     refine stp T11 h11 W A B _ z y hps hiL (by simp[t1]) (by simp[t2]) (by simp[t3]) (by simp[t7]) (by simp[t9]) (by simp[t10]) (by simp[t11]) (by simp[t12]) (by simp[t13]) (by simp[t14]) (by simp[t15]) fun ss'' h'' r1 r2 r3 r7 r9 r10 r11 r12 r13 r14 J=>?_
     simp -implicitDefEqProofs
     exact hQ ss'' h'' r1 r2 r3 r7 r9 r10 r11 r12 r13 r14 J
  ·-- the sweeper
   have hn:=y.p.n
   have sg:SwG W.H.n S:=by rw[hn]; exact y.g
   have st:=y.p.k.st S.now.s sg.g.s
   obtain⟨np,rx⟩:=y.r
   have cr:=rx.hp
   unfold qgdZ
   simp -implicitDefEqProofs[t7,t12,t13,ld_at cr,cel_of cr,stm_at cr,stm_upd,ld_same,cel_same,over]
   refine senabled_ok y.p.o.wf y.s y.p.a.hl sg.g.s fun h12 e12=>?_
   have y12:=y.ext e12
   have cr12:=e12 _ _ cr
   have rx12:RsX T11 h12 rs N S np:=⟨cr12,rx.tp,rx.nw.kp (Only.of_ext (U:=non) y.p.o.wf e12).k (not_non _) (not_non _)⟩
   unfold qgcZ
   simp -implicitDefEqProofs[ld_at cr12,cel_of cr12,stm_at cr12,stm_upd,ld_same,cel_same,over,t9]
   refine rwenabled_ok rx12.nw y12.p.b.z sg.g.s st.wh.1 fun h13 e13=>?_
   have y13:=y12.ext e13
   simp -implicitDefEqProofs[t7,t9,t12,t13,t14]
   have w5:Off (pre [1]) [5]:=off_pre (g:=[]) (x:=[1]) (y:=[5]) (by simp) (by simp)
   have w51:Off (pre [5]) [1]:=off_pre (g:=[]) (x:=[5]) (y:=[1]) (by simp) (by simp)
   refine sstep_ok n y13.p.o.wf g1 w5 w51 gd5 y13.s y13.p.a.hl y13.p.k (by omega) sg fun T14 h14 o14 s14' y14=>?_
   try simp -implicitDefEqProofs[t7,t9,t12,t13,t14]
   have z14:=y13.p.b.z.kp o14.k (fun t ht hh=>by obtain⟨r,rfl⟩:=ht; rcases hh with hh | hh<;>simp[pre] at hh) (by rintro (h | h)<;>simp[pre] at h)
   have r14:=y13.r.kp o14.k (by rintro (h | h)<;>simp[pre] at h) (by rintro (h | h)<;>simp[pre] at h) (by rintro (h | h)<;>simp[pre] at h)
   rw[← hn] at r14
   refine rsstep_ok n o14.wf r14 z14 y13.p.k (by omega) sg fun T15 h15 o15 r15 z15=>?_
   have sn:=sstep_n S W.H n
   have hk15:=y13.p.k.sstep sg n
   have p15:=y13.p.both2 roW.toRKeeps o14 (fun t hh=>hh.elim (gd_pre gd5) (gd_pre g1)) (fun i t ht hh=>by obtain⟨r,rfl⟩:=ht; rcases hh with hh | hh<;>simp[pre] at hh) (fun i t ht hh=>by obtain⟨r,rfl⟩:=ht; rcases hh with hh | hh<;>simp[pre] at hh)
    (by rintro (h | h)<;>simp[pre] at h) (by rintro (h | h)<;>simp[pre] at h) y14 o15 (fun t hh=>hh.elim (fun e=>⟨7,[0],e⟩) fun hh=>hh.elim (fun e=>⟨7,[1],e⟩) (gd_pre g3))
    (fun t ht hh=>by obtain⟨r,rfl⟩:=ht; rcases hh with hh | hh | hh<;>simp[pre] at hh) (fun i t ht hh=>by obtain⟨r,rfl⟩:=ht; rcases hh with hh | hh | hh<;>simp[pre] at hh) (fun i t ht hh=>by obtain⟨r,rfl⟩:=ht; rcases hh with hh | hh | hh<;>simp[pre] at hh)
    (by rintro (h | h | h)<;>simp[pre] at h) (by rintro (h | h | h)<;>simp[pre] at h) z15 hk15 sn.1 sn.2
   have s15:=s14'.kp o15.k (fun t ht hh=>by obtain⟨r,rfl⟩:=ht; rcases hh with hh | hh | hh<;>simp[pre] at hh) (by rintro (h | h | h)<;>simp[pre] at h)
   have sg15:=sg.step y13.p.k n (by omega)
   obtain⟨S',hS'⟩:∃ S',(S.step W.H n).1=S':=⟨_,rfl⟩
   rw[hS'] at s15 r15 sg15
   rw[hn] at r15 sg15
   have ro15:S'.rounds≤n+1:=by
    rw[← hS']
    unfold SwP.step SwP.nxt
    dsimp only
    split
    ·split
     ·show S.rounds+1≤n+1; omega
     ·show S.rounds≤n+1; omega
    ·show S.rounds≤n+1; omega
   have y15:SpW T9 h9 hp hq (2*(n+1)) N ws.length c av bv sw rs A B { W with H:=(S.step W.H n).2.1 } S' T15 h15:=⟨p15,s15,r15,sg15⟩
   simp -implicitDefEqProofs
   obtain⟨np',rx'⟩:=r15
   have cr15:=rx'.hp
   obtain⟨sw',o',uv',xw⟩:=rx'.nw
   have cw15:=xw.hp
   simp -implicitDefEqProofs only[rwC] at cw15
   have b15:=y15.p.o.see b9 Gd.n0
   have c15:=b15.1
   simp -implicitDefEqProofs only[cfgC] at c15
   unfold qgbZ
   simp -implicitDefEqProofs[t12,t13,ld_at cr15,cel_of cr15,stm_at cr15,ld_at cw15,cel_of cw15,stm_at cw15,stm_upd,ld_same,cel_same,over]
   refine sstripe_ok s15 ?_
   have hse:=sg15.e
   have hst15:=sg15.s
   have hq1:((S'.rounds*N+S'.stripe:Nat):Int).tdiv c.stripes=(S'.rounds:Nat):=by
    rw[← hNc,Int.tdiv_eq_ediv_of_nonneg (by omega)]
    have:(S'.rounds*N+S'.stripe) / N=S'.rounds:=by rw[Nat.mul_comm,Nat.mul_add_div (by omega),Nat.div_eq_of_lt hst15]; omega
    rw[← Int.natCast_ediv,this]
   have hq2:IntKind.i64.wrap ((S'.rounds:Nat):Int)=(S'.rounds:Nat):=wrap64_id (by omega) (by omega)
   have hc0:¬ c.stripes=0:=by omega
   unfold qgaZ
   have hq1':((S'.rounds:Int)*N+S'.stripe).tdiv c.stripes=(S'.rounds:Nat):=by simpa using hq1
   have hrE:((S'.rounds*N+S'.stripe:Nat):Int)=(S'.rounds:Int)*N+S'.stripe:=by simp
   rw[hrE] at cr15
   simp -implicitDefEqProofs[t3,t12,t13,ld_at cr15,cel_of cr15,stm_at cr15,ld_at cw15,cel_of cw15,stm_at cw15,ld_at c15,cel_of c15,stm_at c15,stm_upd,ld_same,cel_same,over,hse,hq1',hq2,hc0]
   refine srounds_ok s15 ?_
   simp -implicitDefEqProofs[t12,t13,ld_at cr15,cel_of cr15,stm_at cr15,ld_at cw15,cel_of cw15,stm_at cw15,ld_at c15,cel_of c15,stm_at c15,stm_upd,ld_same,cel_same,over,hq1',hq2]
   refine splaced_ok s15 ?_
   simp -implicitDefEqProofs[ld_at cr15,cel_of cr15,stm_at cr15,ld_at cw15,cel_of cw15,stm_at cw15,stm_upd,ld_same,cel_same,over]
   unfold qfZZ
   exact hQ _ _ (by simp[t1]) (by simp[t2]) (by simp[t3]) (by simp[t7]) (by simp[t9]) (by simp[t10]) (by simp[t11]) (by simp[t12]) (by simp[t13]) (by simp[t14]) ⟨T15,_,A,B,S',y15,ro15⟩
 unfold qgfZ
 rw[seqM_eq]
 unfold qgeZ
 simp -implicitDefEqProofs[s1,s2,s14,wl,j1,tc,cv8 j3,wL,hL0,hi0]
 rw[seqM_eq]
 unfold qfQZ
 have m7:(n:Int).tmod 7=(n:Int) % 7:=tm8 (by omega)
 have w7:IntKind.i64.wrap ((n:Int) % 7)=(n:Int) % 7:=wrap64_id (by omega) (by omega)
 by_cases h6:(n:Int) % 7=6
 ·have m4:ts[n].tmod 4=ts[n] % 4:=tm8 j3.1
  have w4:IntKind.u64.wrap (ts[n] % 4)=ts[n] % 4:=wrapU_id (by omega) (by omega)
  have wt:IntKind.u64.wrap ts[n]=ts[n]:=wrapU_id (by omega) (by omega)
  have cvu:cvV (some .u64) (.int .u8 ts[n])=some (.int .u64 ts[n]):=by simp[cvV,wt]
  simp -implicitDefEqProofs[s14,m7,w7,h6]
  unfold qfOZ
  simp -implicitDefEqProofs[s2,s7,s14,j1,tc,cvu,m4,w4]
  have hby:U64 (ts[n] % 4):=by unfold U64; omega
  refine hpass_ok 9 (ts[n] % 4) hby y.p.o.wf g1 y.p.a.hl y.p.k.tn (by have:=y.p.k.ac; omega) fun T11 h11 o11 y11=>?_
  have tc11:=j2 h11 (((y.p.o.trans (o11.mono fun _=>gd_pre g1)).ext Gd.n0).trans (fz_ext _ _))
  unfold qfNZ
  simp -implicitDefEqProofs[s2,s9,s14,j1,tc11,cvu,m4,w4]
  refine rz_pass 9 (ts[n] % 4) hby o11.wf (y.p.b.z.kp o11.k off13 g1.nil) y.p.k.tn (by have:=y.p.k.ac; omega) fun T12 h12 o12 z12=>?_
  have p12:=y.p.both roW.toRKeeps o11 y11 o12 z12 (y.p.k.pass 9 (ts[n] % 4) hby) rfl rfl
  have w5:Off (pre [1]) [5]:=off_pre (g:=[]) (x:=[1]) (y:=[5]) (by simp) (by simp)
  have w35:Off (pre [3]) [5]:=off_pre (g:=[]) (x:=[3]) (y:=[5]) (by simp) (by simp)
  have y12:SpW T9 h9 hp hq (2*n+1) N ws.length c av bv sw rs A B { W with H:=W.H.pass 9 (ts[n] % 4) } S T12 h12 :=
   ⟨p12,(y.s.kp o11.k w5 g1.nil).kp o12.k w35 g3.nil,(y.r.kp o11.k (by simp[pre]) (by simp[pre]) g1.nil).kp o12.k (by simp[pre]) (by simp[pre]) g3.nil,y.g⟩
  unfold qfMZ
  simp -implicitDefEqProofs
  refine go T12 h12 _ _ y12 (by simp[s1]) (by simp[s2]) (by simp[s3]) (by simp[s7]) (by simp[s9]) (by simp[s10]) (by simp[s11]) (by simp[s12]) (by simp[s13]) (by simp[s14]) (by simp) fun ss' h' r1 r2 r3 r7 r9 r10 r11 r12 r13 r14 ⟨T',W',A',B',S',yy,hro'⟩=>?_
  simp -implicitDefEqProofs[r1,r2,r3,r7,r9,r10,r11,r12,r13,r14,s1,s2,s3,s7,s9,s10,s11,s12,s13,s14,hw1,-Int.natCast_add]
  exact⟨⟨T',W',A',B',S',n+1,yy,hro',rfl,by omega⟩,by omega⟩
 ·simp -implicitDefEqProofs[s14,m7,w7,h6]
  unfold qfPZ
  simp -implicitDefEqProofs
  refine go T10 h10 W _ ⟨⟨y.p.o,y.p.a,y.p.b,y.p.k.mono (by omega),y.p.n,y.p.c,y.p.g,y.p.w,y.p.ra,y.p.rb⟩,y.s,y.r,y.g⟩ (by simp[s1]) (by simp[s2]) (by simp[s3]) (by simp[s7]) (by simp[s9]) (by simp[s10]) (by simp[s11]) (by simp[s12]) (by simp[s13]) (by simp[s14]) (by simp) fun ss' h' r1 r2 r3 r7 r9 r10 r11 r12 r13 r14 ⟨T',W',A',B',S',yy,hro'⟩=>?_
  simp -implicitDefEqProofs[r1,r2,r3,r7,r9,r10,r11,r12,r13,r14,s1,s2,s3,s7,s9,s10,s11,s12,s13,s14,hw1,-Int.natCast_add]
  exact⟨⟨T',W',A',B',S',n+1,yy,hro',rfl,by omega⟩,by omega⟩
end Go.Proofs.YtmbningljbcpkaaGreat
namespace Go.Proofs.YtmbningljbcpkaaGreat
open Go Go.Den
variable {K:KTy}
theorem sweepPlays_row {c:Cfg}{ws:List OpD}{ts:List Int}{b0:Array Value}{v tv:Value}{h:Heap}(hc:CfgR h b0.toList c)(x:Sl 7 OpR h v ws)(xt:Sl 1 (IntR .u8) h tv ts)(hk:∀ h',Ext h h'→K (.bool true) h') :
  callM P qdDZ #[.agg b0,v,tv] h K:=by
 obtain⟨e0,cw⟩:=hc
 have h0:b0=(cfgC c).toArray:=by rw[← e0]
 rw[h0]
 exact sweepPlays_ok c cw ws ts x xt hk
end Go.Proofs.YtmbningljbcpkaaGreat
