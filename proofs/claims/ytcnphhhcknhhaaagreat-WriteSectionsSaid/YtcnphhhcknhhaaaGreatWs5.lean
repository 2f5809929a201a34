/- Words, plain data and contracts of the Go functions that this claim reaches. No condition beyond the hypotheses that each theorem states. -/
import Derived.Test.YtcnphhhcknhhaaaGreatWs4
set_option linter.unusedSimpArgs false
set_option linter.unusedVariables false
namespace Go.Proofs.YtcnphhhcknhhaaaGreat
open Go Go.Den Go.MapKept
set_option linter.unusedSimpArgs false
set_option linter.unusedVariables false
set_option maxRecDepth 20000
theorem allX_at {b:Book}{Lv:List (List Value)}{F:Heap}(l2:El 4 EntR F Lv (b.map (·.2))){i:Nat}(hi:i<(allX b Lv).length):∃ (hb:i<b.length) (v:Value),(allX b Lv)[i]=#[.string b[i].1,.agg (v::presC b[i].2.told).toArray]∧Sl 4 SessR F v b[i].2.ss∧Sn v:=by
 have hb:i<b.length:=by simpa [allX] using hi
 have hL:i<Lv.length:=by rw[l2.len]; simpa using hb
 have he:=l2.el i hL (by simpa using hb)
 obtain⟨v,h1,h2,h3⟩:=he
 simp -implicitDefEqProofs only[List.getElem_map] at h1 h2
 refine⟨hb,v,?_,h2,h3⟩
 simp -implicitDefEqProofs only[allX,List.getElem_map,List.getElem_range]
 have e1:b.getD i (⟨#[]⟩,ent0)=b[i]:=by rw[List.getD_eq_getElem?_getD,List.getElem?_eq_getElem hb]; rfl
 have e2:Lv.getD i []=Lv[i]:=by rw[List.getD_eq_getElem?_getD,List.getElem?_eq_getElem hL]; rfl
 rw[e1,e2,h1]
def StoJ (hB:Heap)(v3:Nat)(b:Book)(i:Nat)(h':Heap):Prop:=Ext (wo hB [v3]) h'∧h' v3=some (.cells #[.int .i64 (stoTo b i)] qiZ (0,0))
def StoC (hB F:Heap)(v3:Nat)(b:Book)(l i:Nat)(s2:Env)(h':Heap):Prop:=StoJ hB v3 b i h'∧s2 3=ptr v3∧∃ (hi:i<b.length) (xb:Nat) (sv:Value),s2 5=ptr xb∧xb≠l∧h' xb=some (.cells (sv::presC b[i].2.told).toArray qhZ (0,0))∧Sl 4 SessR F sv b[i].2.ss
variable {K:KTy}
theorem stored_ok (b:Book)(hl:b.length≤100000)(hn:∀ y∈b,y.2.ss.length≤900000){F h:Heap}(eF:Ext F h){kw vw:Value}(x:BookR F kw vw b)(hk:∀ h',Ext h h'→K (.int .i64 (storedB b)) h'):callM P qbWZ #[.agg #[kw,vw]] h K:=by
 apply qmAZ
 unfold qiDZ
 refine nw_agg fun v1 h1 n1 e1 c1=>?_
 rw[zcInt]
 refine nw_intro fun v3 h3 n3 e3 c3=>?_
 have c1:=e3 _ _ c1
 have e0:=e1.trans e3
 have n3':h v3=none:=fresh_of e1 n3
 have o1:=x.1.one
 have o2:=x.2.1.one
 have ec3:upd h3 v3 (.cells #[.int .i64 0] qiZ (0,0))=h3:=(upd_of (fun _ _=>rfl) c3).symm
 simp -implicitDefEqProofs[ld_at c3,cel_of c3,stm_at c3,stm_upd,ld_same,cel_same,over]
 rw[ec3,seqM_eq]
 unfold qjnZ
 simp -implicitDefEqProofs[ld_at c1,cel_of c1,stm_at c1,stm_upd,ld_same,cel_same,over]
 refine all_ok b (eF.trans e0) x fun pA hB nA eA cA=>?_
 have nA3:v3≠pA:=ne_fresh c3 nA
 have c3:=eA _ _ c3
 have e0B:=e0.trans eA
 obtain⟨Lv,l1,l2⟩:=x.2.1.els EntR.one
 simp -implicitDefEqProofs only[List.length_map] at l1
 have hF3:F v3=none:=by
  cases hh:F v3 with
  | none=>rfl
  | some o=>rw[eF _ _ hh] at n3'; cases n3'
 have F1:Ext F (wo hB [v3]):=wo_ext (eF.trans e0B) (by simpa using hF3)
 have hsb:stoTo b b.length=storedB b:=by simp[stoTo]
 have hbound:storedB b≤90000000000:=Nat.le_trans (stored_le hl hn) (by decide)
 unfold qjmZ
 refine rf_go good mixed rfl (by kernel_rfl) (all_it b (hA:=wo hB [v3]) (p:=pA) (kw:=kw) (vw:=vw) (Lv:=Lv) (by rw[wo_out (by simpa using Ne.symm nA3)]; exact cA) (x.ext F1) (l1.ext F1) l2.size (by simpa using l2.len))
  (fun l b' i h'=>StoJ hB v3 b i h') (fun _ _ _ _=>False) (fun l b' i s2 h'=>StoC hB F v3 b l i s2 h') ?_ ?_ ?_ (fun _ _ _ _ _ _ _ h _=>h) ?_ ?_ ?_ ?_ ?_ (fun _ _ _ _ _ _ _ h=>h.elim) (fun _ _ _ _ _ _ _ _ h=>h.elim)
 ·intro l b' hl' hb'
  exact⟨fun q o hq=>(wo_get hq).2,by simpa [stoTo,storedB] using c3⟩
 ·intro l b' i h' J; exact J.1
 ·intro l b' hl' hb' i h' h'' J k
  exact⟨wo_keep J.1 hl' k,k _ _ J.2 (fun hh=>by cases hh; rw[hl'] at c3; cases c3)⟩
 ·rintro l b' i s2 ha hb hl' hb' ⟨J,s3,hi,xb,sv,s5,nx,cx,sx⟩ k
  exact⟨⟨wo_keep J.1 hl' k,k _ _ J.2 (fun hh=>by cases hh; rw[hl'] at c3; cases c3)⟩,s3,hi,xb,sv,s5,nx,k _ _ cx (fun hh=>nx (by cases hh; rfl)),sx⟩
 ·intro i hi; simp[allX]
 ·rintro i hi l b' h2 hl' hb' ⟨ol,hol⟩ ⟨ob,hob⟩ J
  rw[qmgZ]
  unfold qiYZ
  rw[zcEnt]
  obtain⟨hib,sv,hx,hsv,hsn⟩:=allX_at l2 hi
  rw[hx]
  have hso:=hsv.one
  simp -implicitDefEqProofs
  refine nw_st rfl (by simp[presC]) (by simp[presC,hso.1]) fun xb h4 n4 e4 c4=>?_
  refine⟨⟨⟨J.1.trans e4,e4 _ _ J.2⟩,by simp,hib,xb,sv,by simp,fun hh=>(by subst hh; rw[hol] at n4; cases n4),?_,hsv⟩,by rw[hol,e4 _ _ hol],by rw[hob,e4 _ _ hob]⟩
  simpa using c4
 ·rintro i hi l b' s2 h3 hl' hb' ⟨ol,hol⟩ ⟨ob,hob⟩ ⟨J,s3,hib,xb,sv,s5,nx,cx,sx⟩
  rw[qmhZ]
  unfold qiZZ
  have cv:=J.2
  have hlen:=sx.len
  simp -implicitDefEqProofs only[presC] at cx
  have hw:IntKind.i64.wrap ((stoTo b i:Int)+b[i].2.ss.length)=(stoTo b (i+1):Nat):=by
   have h1:=stoTo_le (b:=b) (i+1)
   rw[stoTo_s hib] at h1 ⊢
   rw[wrap64_id (by omega) (by omega)]; omega
  have hl3:l≠v3:=fun hh=>by subst hh; rw[hl'] at c3; cases c3
  have hb3:b'≠v3:=fun hh=>by subst hh; rw[hb'] at c3; cases c3
  simp -implicitDefEqProofs[s3,s5,ld_at cv,cel_of cv,stm_at cv,ld_at cx,cel_of cx,stm_at cx,stm_upd,ld_same,cel_same,over,hlen,hw]
  refine⟨by rw[upd_ne hl3],by rw[upd_ne hb3],wo_upd J.1 (by simp),upd_same' _ _ _⟩
 ·intro l b' h' hl' hlb hb' hd J
  have hlx:(allX b Lv).length=b.length:=by simp[allX]
  rw[hlx] at J
  have cv:=J.2
  rw[hsb] at cv
  have nb3:v3≠b':=fun hh=>by subst hh; rw[hb'] at c3; cases c3
  simp -implicitDefEqProofs only[blkM_n,thenM_n]
  simp -implicitDefEqProofs[ld_at cv,cel_of cv,stm_at cv,stm_upd,ld_same,cel_same,over,hd,ld_skip nb3,cel_skip nb3]
  refine hk _ ?_
  exact ext_upd (o:=.deferred none) (fresh_of e0B hb') (ext_wo e0B (by simpa using n3') J.1)
theorem zcStripe:zc P qxZ=some #[.int .i64 0,.int .u64 0,.int .u64 0,.slice none 0 0,.slice none 0 0,.slice none 0 0,.slice none 0 0,.pointer none]:=by kernel_rfl
theorem hstored_ok {T : Tags} {h : Heap} {g : Tag} {p m : Nat} {H : Hall} (w : Wf T h) (x : HallR T h g p H) (hs : HS m H) (hm : m ≤ 100000) (hk : ∀ h', Ext h h' → K (.int .i64 H.stored) h') : callM P qeRZ #[ptr p] h K := by
  apply qlsZ
  unfold qfxZ
  rw [seqM_eq]
  unfold qgMZ
  obtain ⟨sv, av, Y, x⟩ := x
  have cp := x.hp
  simp -implicitDefEqProofs only [hallC] at cp
  have hlen := x.st.len
  have h8 := hs.n8.2
  have hmm : m * m ≤ 10000000000 := Nat.le_trans (Nat.mul_le_mul hm hm) (by decide)
  have hst : ∀ i, i ≤ H.n → stoH H i ≤ 80000000000 := fun i hi => Nat.le_trans (stoH_le hs i hi) (Nat.le_trans (Nat.mul_le_mul (Nat.le_trans hi h8) hmm) (by decide))
  simp -implicitDefEqProofs [ld_at cp, cel_of cp, stm_at cp, stm_upd, ld_same, cel_same, over, hlen]
  refine loop_on [9, 10] (fun s h' => Ext h h' ∧ ∃ i : Nat, i ≤ H.n ∧ s 11 = .int .i64 i ∧ s 3 = .int .i64 (stoH H i)) (fun s _ => (H.n - num (s 11)).toNat) ⟨Ext.refl h, 0, by omega, rfl, rfl⟩ ?_
  rintro s h1 hf ⟨e1, i, hi, s11, s3⟩
  have s9 : s 9 = sv := by simpa using hf 9 (by simp)
  have s10 : s 10 = .int .i64 H.n := by simpa using hf 10 (by simp)
  unfold qgLZ
  simp -implicitDefEqProofs only [s11, s10, bin_lss, ov_s, cd_b]
  refine ⟨fun hc => ?_, fun hc => ?_⟩
  rotate_left
  · have : i = H.n := by have : ¬ ((i : Int) < H.n) := by simpa using hc
                         omega
    subst this
    simp -implicitDefEqProofs [s3, stoH_all]
    exact hk _ e1
  have hlt : i < H.n := by have : ((i : Int) < H.n) := by simpa using hc
                           omega
  have hw : IntKind.i64.wrap ((i : Int) + 1) = (i + 1 : Nat) := by rw [wrap64_id (by omega) (by omega)]; omega
  have hw2 : IntKind.i64.wrap ((stoH H i : Int) + storedB (H.ss i).book) = (stoH H (i + 1) : Nat) := by
    have h1 := hst (i + 1) (by omega)
    rw [stoH_s] at h1 ⊢
    rw [wrap64_id (by omega) (by omega)]; omega
  have o1 : Only non T h T h1 := Only.of_ext w e1
  have x1 := x.own o1.k
  obtain ⟨b, ob, rb, hb1, tb, ia, l1, l2, l3, l4, l5, l6⟩ := x1.lds (s := i) (k := .i64) hlt
  have hsr := x1.sr i hlt
  have st := hs.st i hlt
  have u1 := hsr.1.1.one
  have u2 := hsr.1.2.1.one
  have u3 := hsr.2.1.1.one
  have u4 := hsr.2.1.2.1.one
  unfold qgKZ
  rw [s9, s11, ia, zcStripe]
  simp -implicitDefEqProofs only [strC] at l6
  simp -implicitDefEqProofs only [ov_s, l6]
  refine nw_st (by simp) (by simp) (by simp [u1.1, u2.1, u3.1, u4.1]) fun yb h2 n2 e2 c2 => ?_
  simp -implicitDefEqProofs only [cells_agg] at c2
  simp -implicitDefEqProofs [ld_at c2, cel_of c2, stm_at c2, stm_upd, ld_same, cel_same, over]
  refine stored_ok _ (by have := st.bk.bl; omega) (fun y hy => by have := st.bk.bn y hy; omega) ((fz_ext T h1).trans e2) hsr.2.1 fun h3 e3 => ?_
  unfold qgJZ
  simp -implicitDefEqProofs [s3, s9, s10, s11, hw, hw2, -Int.natCast_add]
  exact ⟨⟨(e1.trans e2).trans e3, i + 1, by omega, rfl, rfl⟩, by omega⟩
end Go.Proofs.YtcnphhhcknhhaaaGreat
namespace Go.Proofs.YtcnphhhcknhhaaaGreat
open Go Go.Den Go.MapKept
set_option linter.unusedSimpArgs false
set_option linter.unusedVariables false
set_option maxRecDepth 20000
def small:Cfg:=⟨3,2,16,4,1,100,0⟩
theorem bdSmall:bdV (binf P qaUZ) [(0,.int .i64 3),(1,.int .i64 2),(2,.int .i64 16),(3,.int .i64 4),(4,.int .i64 1),(5,.int .u64 100)]=some (.agg (cfgC small).toArray):=by kernel_rfl
theorem smallW:CfgW small:=by constructor<;>simp[small,I64,U64]
variable {K:KTy}
theorem small_ok {h:Heap}(hk:∀ h',Ext h h'→K (.agg (cfgC small).toArray) h'):callM P qcLZ #[] h K:=by
 apply qkBZ
 unfold qeGZ
 rw[zcCfg,bdSmall]
 simp -implicitDefEqProofs only[nwM_s]
 intro v1 n1
 simp -implicitDefEqProofs[stm_upd,ld_same,cel_same,over,cfgC]
 exact hk _ (Ext.upd n1 _)
end Go.Proofs.YtcnphhhcknhhaaaGreat
namespace Go.Proofs.YtcnphhhcknhhaaaGreat
open Go Go.Den Go.MapKept
set_option linter.unusedSimpArgs false
set_option linter.unusedVariables false
set_option maxRecDepth 20000
theorem g1:Gd [1]:=⟨0,[],rfl⟩
theorem g2:Gd [2]:=⟨1,[],rfl⟩
theorem d12:Off (pre [1]) [2]:=off_pre (g:=[]) (x:=[1]) (y:=[2]) (by simp) (by simp)
end Go.Proofs.YtcnphhhcknhhaaaGreat
namespace Go.Proofs.YtcnphhhcknhhaaaGreat
open Go Go.Den Go.MapKept
set_option linter.unusedSimpArgs false
set_option linter.unusedVariables false
set_option maxRecDepth 20000
theorem ext_of_only {U:Tag→Prop}{h:Heap}{T':Tags}{h':Heap}(o:Only U (fun _=>[]) h T' h')(u:¬ U []):Ext h h':=by
 have:=(o.ext u).trans (fz_ext _ _)
 rw[fz_nil] at this; exact this
def c2:Cfg:=⟨2,2,16,4,1,100,0⟩
end Go.Proofs.YtcnphhhcknhhaaaGreat
namespace Go.Den
open Go
set_option linter.unusedVariables false
set_option linter.unusedSimpArgs false
structure Idle (p:PR)(m:Mine)(c:Cfg):Prop where
 h:∀ s,¬ p.holds s
 e:p.em m c=m
theorem Idle.w {p:WP}(m:Mine)(c:Cfg)(h:p.at_=0):Idle (.w p) m c:=⟨fun s hs=>by have:=hs.2.1; omega,rfl⟩
def wd0 (c:Cfg)(n:Nat):Wd:=⟨hall0 c n,fun _=>none,fun _=>[]⟩
theorem LI.init {c:Cfg}{n:Nat}:LI (wd0 c n) (tbl0 c n):=by
 refine⟨rfl,rfl,rfl,fun s hs=>.inl ⟨rfl,rfl,rfl,rfl⟩,fun i p s _ h=>by simp[wd0] at h,fun i p h=>by simp[wd0] at h,⟨fun i hi=>?_,fun s i u hs hi hu=>?_⟩⟩
 ·have:allWs (tbl0 c n) i=[]:=by
   unfold allWs
   rw[List.flatMap_eq_nil_iff]
   intro s _
   rfl
  rw[this]; exact List.Perm.refl _
 ·simp[tbl0,feed0,wsOf] at hu
theorem TS.init {c:Cfg}(cw:CfgW c)(hr:rightB c=true){n:Nat}(hn:(n:Int)=c.stripes):TS 0 (tbl0 c n):=(HS.new cw hr hn).tbl
theorem LI.start {W:Wd}{M:Tbl}(x:LI W M){i:Nat}{p:PR}(hp:PA W.H.n i W.H.c p)(h0:Idle p (W.ms i) W.H.c)(hi:∀ q,W.ps i=some q→Idle q (W.ms i) W.H.c):LI { W with ps:=bset W.ps i (some p) } M:=by
 have hP:∀ j,bset W.ps i (some p) j=if j=i then some p else W.ps j:=fun j=>rfl
 refine⟨x.t,x.c,x.n,fun s hs=>?_,fun j q s hs hq hh=>?_,fun j q hq=>?_,?_⟩
 ·rcases x.st s hs with h | ⟨j,q,h1,h2,h3,h4⟩
  ·exact .inl h
  ·have hji:j≠i:=fun h=>by subst h; exact (hi q h1).h s h2
   exact .inr ⟨j,q,by show bset _ _ _ _=_; rw[hP,if_neg hji]; exact h1,h2,h3,h4⟩
 ·have hq:bset W.ps i (some p) j=some q:=hq
  rw[hP] at hq
  split at hq
  ·simp only[Option.some.injEq] at hq; subst hq; exact absurd hh (h0.h s)
  ·exact x.own j q s hs hq hh
 ·have hq:bset W.ps i (some p) j=some q:=hq
  rw[hP] at hq
  split at hq
  ·rename_i h; simp only[Option.some.injEq] at hq; subst hq; subst h; exact hp
  ·exact x.pa j q hq
 ·refine x.ws.same rfl rfl (fun _ _=>rfl) fun j hj=>?_
  unfold Wd.em
  show (match bset W.ps i (some p) j with | some p=>p.em (W.ms j) W.H.c | none=>W.ms j)=_
  rw[hP]
  by_cases h:j=i
  ·subst h
   rw[if_pos rfl]
   dsimp only
   rw[h0.e]
   cases hq:W.ps j with
   | none=>rfl
   | some q=>exact (hi q hq).e.symm
  ·rw[if_neg h]<;>rfl
end Go.Den
namespace Go.Proofs.YtcnphhhcknhhaaaGreat
open Go Go.Den Go.MapKept
set_option linter.unusedSimpArgs false
set_option linter.unusedVariables false
set_option maxRecDepth 20000
def UW (t:Tag):Prop:=pre [1] t∨pre [2] t
theorem UW.nil:¬ UW []:=by rintro (h | h)<;>simp[pre] at h
theorem UW.two (i:Nat){t:Tag}(h:two (pre [2,i]) (pre [1]) t):UW t:=h.elim (fun h=>.inr (pre_trans (g:=[2]) (s:=[i]) h)) .inl
theorem g2i (i:Nat):Gd [2,i]:=⟨1,[i],rfl⟩
theorem d12i (i:Nat):Off (pre [1]) [2,i]:=off_pre (g:=[]) (x:=[1]) (y:=[2,i]) (by simp) (by simp)
theorem d2i1 (i:Nat):Off (pre [2,i]) [1]:=off_pre (g:=[]) (x:=[2,i]) (y:=[1]) (by simp) (by simp)
theorem d2ij {i j:Nat}(h:i≠j):Off (pre [2,i]) [2,j]:=off_pre (g:=[2]) (x:=[i]) (y:=[j]) (by simpa using h) (by simpa using Ne.symm h)
theorem dtwo {i j:Nat}(h:i≠j):Off (two (pre [2,i]) (pre [1])) [2,j]:=fun t ht hh=>hh.elim (d2ij h t ht) (d12i j t ht)
def PRm (T:Tags)(h:Heap)(g:Tag)(q:Nat):PR→Prop
 | .w p=>WPR T h g q p
 | .r p=>RPR T h g q p
 | .h _=>False
theorem PRm.kp {U:Tag→Prop}{T T':Tags}{h h':Heap}{g:Tag}{q:Nat}{p:PR}(x:PRm T h g q p)(k:Kp U T h T' h')(o:Off U g)(n:¬ U []):PRm T' h' g q p:=by
 cases p with
 | w p=>exact WPR.kp x k o n
 | r p=>exact RPR.kp x k o n
 | h p=>exact x
structure WdM (T:Tags)(h:Heap)(hp:Nat)(A:Nat→Nat)(W:Wd):Prop where
 hl:HallR T h [1] hp W.H
 ps:∀ i p,W.ps i=some p→PRm T h [2,i] (A i) p
theorem WdM.up {U:Tag→Prop}{T T':Tags}{h h':Heap}{hp:Nat}{A:Nat→Nat}{W:Wd}(x:WdM T h hp A W)(o:Only U T h T' h')(f:∀ t,UW t→¬ U t)(n:¬ U []):WdM T' h' hp A W :=
 ⟨x.hl.up o (fun t ht=>f t (.inl ht)) n,fun i p hp=>(x.ps i p hp).kp o.k (fun t ht=>f t (.inr (pre_trans (g:=[2]) (s:=[i]) ht))) n⟩
theorem WdM.ext {T:Tags}{h h':Heap}{hp:Nat}{A:Nat→Nat}{W:Wd}(x:WdM T h hp A W)(w:Wf T h)(e:Ext h h'):WdM T h' hp A W:=x.up (Only.of_ext (U:=non) w e) (fun _ _ h=>h) (not_non _)
structure WdK (k:Nat)(W:Wd)(M:Tbl):Prop where
 li:LI W M
 hs:HS k W.H
 ts:TS k M
theorem WdK.step {k:Nat}{W:Wd}{M:Tbl}(x:WdK k W M)(hk:k<100000){i:Nat}{p:PR}(hp:W.ps i=some p)(n:Int):WdK (k+1) (W.step i n) (p.tb W.H M) :=
 have y:=x.li.step x.hs hk x.ts hp n
 ⟨y.1,y.2.1,y.2.2⟩
theorem WdM.put {U:Tag→Prop}{T T':Tags}{h h':Heap}{hp i:Nat}{A:Nat→Nat}{W:Wd}{p:PR}(x:WdM T h hp A W)(o:Only U T h T' h')(u:∀ j,j≠i→Off U [2,j])(n:¬ U []){k:Int}(hp':W.ps i=some p)
  (y':HallR T' h' [1] hp (p.step (W.ms i) W.H k).2.2) (x':PRm T' h' [2,i] (A i) (p.step (W.ms i) W.H k).1):WdM T' h' hp A (W.step i k):=by
 refine⟨?_,fun j q hq=>?_⟩
 ·have:(W.step i k).H=(p.step (W.ms i) W.H k).2.2:=by simp only[Wd.step,hp']
  rw[this]; exact y'
 ·have hP:(W.step i k).ps j=if j=i then some (p.step (W.ms i) W.H k).1 else W.ps j:=by simp only[Wd.step,hp',bset]
  rw[hP] at hq
  split at hq
  ·rename_i hj; subst hj
   simp -implicitDefEqProofs only[Option.some.injEq] at hq; subst hq
   exact x'
  ·rename_i hj
   exact (x.ps j q hq).kp o.k (u j hj) n
variable {K:KTy}
theorem wdstep_w {T:Tags}{h:Heap}{hp k i:Nat}{A:Nat→Nat}{W:Wd}{M:Tbl}{p:WP}(n:Int)(w:Wf T h)(x:WdM T h hp A W)(y:WdK k W M)(hk:k<100000)(hp':W.ps i=some (.w p))
  (hK:∀ T' h',Only UW T h T' h'→WdM T' h' hp A (W.step i n)→K (.tuple #[]) h'):callM P qaXZ #[ptr (A i),ptr hp,.int .i64 n] h K:=by
 have hpa:=y.li.pa i _ hp'
 refine wstep_ok n w g1 (d12i i) (d2i1 i) (g2i i) (x.ps i _ hp') x.hl y.hs hk hpa.1 fun T' h' o x' y'=>?_
 exact hK T' h' (o.mono fun _=>UW.two i) (x.put o (fun j hj=>dtwo (Ne.symm hj)) (by rintro (h | h)<;>simp[pre] at h) hp' y' x')
theorem wdnew_w {T:Tags}{h:Heap}{hp k i:Nat}{A:Nat→Nat}{W:Wd}{M:Tbl}(hi:i≤900)(o:OpD)(ow:OpW o)(hl:o.users.length<1000000){v:Value}(hv:Sl 1 StrR (fz T h) v o.users)(w:Wf T h)(x:WdM T h hp A W)(y:WdK k W M)(hi':∀ q,W.ps i=some q→Idle q (W.ms i) W.H.c)
  (hK:∀ T' h' q,Only non T h T' h'→WdM T' h' hp (bset A i q) { W with ps:=bset W.ps i (some (.w (wp0 W.H i o))) }→WdK k { W with ps:=bset W.ps i (some (.w (wp0 W.H i o))) } M→K (ptr q) h'):callM P qgCZ #[ptr hp,.int .i64 i,.agg (opC o v).toArray] h K:=by
 have n8:=y.hs.n8
 have nn:=y.hs.nn
 refine wnew_ok i o ow w (g2i i) x.hl hv hl (by omega) fun T' h' q o' nq x'=>?_
 have hst:=stripeOf_lt (u:=o.user) (n:=W.H.c.stripes) (by omega)
 have hsn:(stripeOf o.user W.H.c.stripes).toNat<W.H.n:=by omega
 refine hK T' h' q o' ⟨x.hl.up o' (Off.non _) (not_non _),fun j p hj=>?_⟩ ⟨y.li.start ?_ (Idle.w _ _ rfl) hi',y.hs,y.ts⟩
 ·have hj:bset W.ps i (some (.w (wp0 W.H i o))) j=some p:=hj
  by_cases hji:j=i
  ·subst hji
   rw[bset_same] at hj ⊢
   simp -implicitDefEqProofs only[Option.some.injEq] at hj; subst hj
   exact x'
  ·rw[bset_ne hji] at hj ⊢
   exact (x.ps j p hj).kp o'.k (Off.non _) (not_non _)
 ·refine⟨sect_g hsn (by omega) fun z hz=>?_,rfl,by simp[wp0,sect],fun z hz=>?_⟩
  ·split at hz
   ·cases hz
   ·cases hz; exact ow
  ·have hz:(if badB o then WK.bad else .op o) = .op z:=hz
   split at hz
   ·cases hz
   ·cases hz; rfl
def annW:OpD:=⟨1,⟨#[97,110,110]⟩,0,1,0,5,[]⟩
theorem bdOpAnnW:bdV (binf P qeyZ) [(0,.int .i64 1),(1,.string ⟨#[97,110,110]⟩),(3,.int .i64 1),(5,.int .u64 5)]=some (.agg (opC annW (.slice none 0 0)).toArray):=by kernel_rfl
theorem annWW:OpW annW:=⟨by simp[annW,I64],by simp[annW,I64],by simp[annW,I64],by simp[annW,I64],by simp[annW,U64],by simp[annW,maxLen]; decide⟩
theorem wd0M {T:Tags}{h:Heap}{hp:Nat}{c:Cfg}{n:Nat}(x:HallR T h [1] hp (hall0 c n))(A:Nat→Nat):WdM T h hp A (wd0 c n):=⟨x,fun i p h=>by simp[wd0] at h⟩
theorem wd0K {c:Cfg}(cw:CfgW c)(hr:rightB c=true){n:Nat}(hn:(n:Int)=c.stripes):WdK 0 (wd0 c n) (tbl0 c n):=⟨LI.init,HS.new cw hr hn,TS.init cw hr hn⟩
end Go.Proofs.YtcnphhhcknhhaaaGreat
namespace Go.Proofs.YtcnphhhcknhhaaaGreat
open Go Go.Den Go.MapKept
set_option linter.unusedSimpArgs false
set_option linter.unusedVariables false
set_option maxRecDepth 20000
theorem bin_neqS (t:Nat)(c:Bool)(a b:ByteArray):binV .neq t c (.string a) (.string b)=some (.bool (!decide (a=b))):=by
 simp -implicitDefEqProofs only[binV,strV]
 by_cases h:a=b
 ·subst h; simp
 ·have:¬ a.toList=b.toList:=fun e=>h (str_inj e)
  simp -implicitDefEqProofs[h,this]
theorem take_eq_succ {α:Type}{xs ys:List α}{i:Nat}(h:xs.take i=ys.take i)(h1:i<xs.length)(h2:i<ys.length)(e:xs[i]=ys[i]):xs.take (i+1)=ys.take (i+1):=by
 rw[List.take_succ_eq_append_getElem h1,List.take_succ_eq_append_getElem h2,h,e]
variable {K:KTy}
set_option maxHeartbeats 1000000 in
theorem eqStr_ok (xs ys : List ByteArray) {h : Heap} {v u : Value} (x : Sl 1 StrR h v xs) (y : Sl 1 StrR h u ys) (hl : xs.length < 1000000) (hk : K (.bool (decide (xs = ys))) h) : callM P qbLZ #[v, u] h K := by
  apply qhWZ
  unfold qbYZ
  have lx := x.len
  have ly := y.len
  by_cases hlen : xs.length = ys.length
  rotate_left
  · have hne : xs ≠ ys := fun e => hlen (by rw [e])
    have hi : ¬ (xs.length : Int) = ys.length := by omega
    simp -implicitDefEqProofs [lx, ly, hi]
    rw [decide_eq_false hne] at hk; exact hk
  · have hi : (xs.length : Int) = ys.length := by omega
    simp -implicitDefEqProofs [lx, ly, hi]
    unfold qdYZ
    rw [seqM_eq]
    unfold qdXZ
    simp -implicitDefEqProofs only [lx, ov_s]
    refine loop_on [0, 1, 4, 12] (fun s h' => h' = h ∧ ∃ i : Nat, i ≤ xs.length ∧ s 13 = .int .i64 i ∧ xs.take i = ys.take i) (fun s _ => (xs.length - num (s 13)).toNat) ⟨rfl, 0, by omega, rfl, by simp⟩ ?_
    rintro s h1 hf ⟨rfl, i, hi, s13, hT⟩
    have s0 : s 0 = v := by simpa using hf 0 (by simp)
    have s1 : s 1 = u := by simpa using hf 1 (by simp)
    have s4 : s 4 = .bool false := by simpa using hf 4 (by simp)
    have s12 : s 12 = .int .i64 xs.length := by simpa using hf 12 (by simp)
    unfold qdWZ
    simp -implicitDefEqProofs only [s13, s12, bin_lss, ov_s, cd_b]
    refine ⟨fun hc => ?_, fun hc => ?_⟩
    · have hlt : i < xs.length := by have : ((i : Int) < xs.length) := by simpa using hc
                                     omega
      have hly : i < ys.length := by omega
      have hw : IntKind.i64.wrap ((i : Int) + 1) = (i + 1 : Nat) := by rw [wrap64_id (by omega) (by omega)]; omega
      obtain ⟨b, p, i1, i2⟩ := str_at x (k := .i64) hlt
      obtain ⟨b', p', j1, j2⟩ := str_at y (k := .i64) hly
      unfold qdVZ
      simp -implicitDefEqProofs only [s0, s1, s13, i1, j1, ov_s, ldV_c, i2 _ (Ext.refl _), j2 _ (Ext.refl _), bin_neqS, cd_b]
      refine ⟨fun hd => ?_, fun hd => ?_⟩
      · have hne : xs[i] ≠ ys[i] := by simpa using hd
        have hne' : xs ≠ ys := fun e => hne (by subst e; rfl)
        unfold qdTZ
        simp -implicitDefEqProofs [s4]
        rw [decide_eq_false hne'] at hk; exact hk
      · have he : xs[i] = ys[i] := by simpa using hd
        unfold qdUZ
        simp -implicitDefEqProofs [s0, s1, s4, s12, s13, hw, -Int.natCast_add]
        exact ⟨⟨i + 1, by omega, rfl, take_eq_succ hT hlt hly he⟩, by omega⟩
    · have : i = xs.length := by have : ¬ ((i : Int) < xs.length) := by simpa using hc
                                 omega
      subst this
      have he : xs = ys := by
        rw [List.take_of_length_le (Nat.le_refl _), List.take_of_length_le (by omega)] at hT; exact hT
      simp -implicitDefEqProofs
      rw [decide_eq_true he] at hk; exact hk
theorem sessNe (p q:Sess){x y:Operand}{K:Value→Prop}:pvM P (do eqGuard .neq qbZ x y (.agg (sessC p).toArray) (.agg (sessC q).toArray); binOp .neq qbZ (.agg (sessC p).toArray) (.agg (sessC q).toArray)) K=K (.bool (!decide (p=q))):=by
 simp -implicitDefEqProofs only[sessC]
 rw[pv_neq (d:=5) (b:=(p.id == q.id) && ((p.st == q.st) && ((p.pr == q.pr) && ((p.un == q.un) && true)))) (by kernel_rfl) (by omega) (by kernel_rfl)]
 have:((p.id == q.id) && ((p.st == q.st) && ((p.pr == q.pr) && ((p.un == q.un) && true))))=decide (p=q):=by
  rw[Bool.eq_iff_iff]; cases p; cases q; simp
 rw[this]
set_option maxHeartbeats 1000000 in
theorem eqSess_ok (xs ys : List Sess) {h : Heap} {v u : Value} (x : Sl 4 SessR h v xs) (y : Sl 4 SessR h u ys) (hl : xs.length < 1000000) (hk : K (.bool (decide (xs = ys))) h) : callM P qXZ #[v, u] h K := by
  apply qffZ
  unfold qaeZ
  have lx := x.len
  have ly := y.len
  by_cases hlen : xs.length = ys.length
  rotate_left
  · have hne : xs ≠ ys := fun e => hlen (by rw [e])
    have hi : ¬ (xs.length : Int) = ys.length := by omega
    simp -implicitDefEqProofs [lx, ly, hi]
    rw [decide_eq_false hne] at hk; exact hk
  · have hi : (xs.length : Int) = ys.length := by omega
    simp -implicitDefEqProofs [lx, ly, hi]
    unfold qbtZ
    rw [seqM_eq]
    unfold qbsZ
    simp -implicitDefEqProofs only [lx, ov_s]
    refine loop_on [0, 1, 4, 12] (fun s h' => h' = h ∧ ∃ i : Nat, i ≤ xs.length ∧ s 13 = .int .i64 i ∧ xs.take i = ys.take i) (fun s _ => (xs.length - num (s 13)).toNat) ⟨rfl, 0, by omega, rfl, by simp⟩ ?_
    rintro s h1 hf ⟨rfl, i, hi, s13, hT⟩
    have s0 : s 0 = v := by simpa using hf 0 (by simp)
    have s1 : s 1 = u := by simpa using hf 1 (by simp)
    have s4 : s 4 = .bool false := by simpa using hf 4 (by simp)
    have s12 : s 12 = .int .i64 xs.length := by simpa using hf 12 (by simp)
    unfold qbrZ
    simp -implicitDefEqProofs only [s13, s12, bin_lss, ov_s, cd_b]
    refine ⟨fun hc => ?_, fun hc => ?_⟩
    · have hlt : i < xs.length := by have : ((i : Int) < xs.length) := by simpa using hc
                                     omega
      have hly : i < ys.length := by omega
      have hw : IntKind.i64.wrap ((i : Int) + 1) = (i + 1 : Nat) := by rw [wrap64_id (by omega) (by omega)]; omega
      obtain ⟨b, p, i1, i2⟩ := sess_ld x (k := .i64) hlt
      obtain ⟨b', p', j1, j2⟩ := sess_ld y (k := .i64) hly
      unfold qbqZ
      simp -implicitDefEqProofs only [s0, s1, s13, i1, j1, ov_s, ldV_n (i2 _ (Ext.refl _)), ldV_n (j2 _ (Ext.refl _)), sessNe, cd_b]
      refine ⟨fun hd => ?_, fun hd => ?_⟩
      · have hne : xs[i] ≠ ys[i] := by simpa using hd
        have hne' : xs ≠ ys := fun e => hne (by subst e; rfl)
        unfold qboZ
        simp -implicitDefEqProofs [s4]
        rw [decide_eq_false hne'] at hk; exact hk
      · have he : xs[i] = ys[i] := by simpa using hd
        unfold qbpZ
        simp -implicitDefEqProofs [s0, s1, s4, s12, s13, hw, -Int.natCast_add]
        exact ⟨⟨i + 1, by omega, rfl, take_eq_succ hT hlt hly he⟩, by omega⟩
    · have : i = xs.length := by have : ¬ ((i : Int) < xs.length) := by simpa using hc
                                 omega
      subst this
      have he : xs = ys := by
        rw [List.take_of_length_le (Nat.le_refl _), List.take_of_length_le (by omega)] at hT; exact hT
      simp -implicitDefEqProofs
      rw [decide_eq_true he] at hk; exact hk
def KyJ (hB:Heap)(v3:Nat)(b:Book)(l b' i:Nat)(h':Heap):Prop :=
 ∃ kv,h' v3=some (.cells #[kv] qfZ (0,0))∧Row 1 qJZ h' kv i (((keysB b).take i).flatMap strC1)∧Ext (wo hB [v3]) h'∧∀ r,rowOf kv=some r→r≠v3∧r≠l∧r≠b'∧hB r=none
def KyC (hB:Heap)(v3:Nat)(b:Book)(l b' i:Nat)(s2:Env)(h':Heap):Prop:=KyJ hB v3 b l b' i h'∧s2 3=ptr v3∧∃ hi:i<b.length,s2 4 = .string b[i].1
theorem KyJ.keep {hB:Heap}{v3:Nat}{b:Book}{l b' i:Nat}{h' h'':Heap}(J:KyJ hB v3 b l b' i h')(hl':hB l=none)(h3:hB v3≠none)(k:Keep (some l) h' h''):KyJ hB v3 b l b' i h'':=by
 obtain⟨kv,c,r,e,n⟩:=J
 refine⟨kv,k _ _ c (fun hh=>by cases hh; exact h3 hl'),r.of_at fun g hg=>?_,wo_keep e hl' k,n⟩
 obtain⟨o,ho⟩:=r.lt g hg
 rw[ho]; exact k _ _ ho (fun hh=>(n g hg).2.1 (by cases hh; rfl))
theorem zcSlStr:zc P qfZ=some #[.slice none 0 0]:=by kernel_rfl
set_option maxHeartbeats 1000000 in
theorem keys_ok (b:Book)(hl:b.length<1000000){F h:Heap}(eF:Ext F h){kw vw:Value}(x:BookR F kw vw b)(hk:∀ v' h',Ext h h'→Sl 1 StrR h' v' (keysB b)→K v' h'):callM P qlZ #[.agg #[kw,vw]] h K:=by
 apply qgiZ
 unfold qaJZ
 refine nw_agg fun v1 h1 n1 e1 c1=>?_
 rw[zcSlStr]
 refine nw_intro fun v3 h3 n3 e3 c3=>?_
 have c1:=e3 _ _ c1
 have e0:=e1.trans e3
 have n3':h v3=none:=fresh_of e1 n3
 have o1:=x.1.one
 have o2:=x.2.1.one
 rw[seqM_eq]
 unfold qcPZ
 simp -implicitDefEqProofs[ld_at c1,cel_of c1,stm_at c1,stm_upd,ld_same,cel_same,over,o1.1,o2.1]
 refine all_ok b (eF.trans e0) x fun pA hB nA eA cA=>?_
 have nA3:v3≠pA:=ne_fresh c3 nA
 have c3:=eA _ _ c3
 have h3B:hB v3≠none:=by rw[c3]; simp
 have e0B:=e0.trans eA
 obtain⟨Lv,l1,l2⟩:=x.2.1.els EntR.one
 simp -implicitDefEqProofs only[List.length_map] at l1
 have hF3:F v3=none:=by
  cases hh:F v3 with
  | none=>rfl
  | some o=>rw[eF _ _ hh] at n3'; cases n3'
 have F1:Ext F (wo hB [v3]):=wo_ext (eF.trans e0B) (by simpa using hF3)
 have hlx:(allX b Lv).length=b.length:=by simp[allX]
 have klen:(keysB b).length=b.length:=by simp[keysB]
 unfold qcOZ
 refine rf_go good mixed rfl (by kernel_rfl) (all_it b (hA:=wo hB [v3]) (p:=pA) (kw:=kw) (vw:=vw) (Lv:=Lv) (by rw[wo_out (by simpa using Ne.symm nA3)]; exact cA) (x.ext F1) (l1.ext F1) l2.size (by simpa using l2.len))
  (fun l b' i h'=>KyJ hB v3 b l b' i h') (fun _ _ _ _=>False) (fun l b' i s2 h'=>KyC hB v3 b l b' i s2 h') ?_ ?_ ?_ (fun _ _ _ _ _ _ _ h _=>h) ?_ ?_ ?_ ?_ ?_ (fun _ _ _ _ _ _ _ h=>h.elim) (fun _ _ _ _ _ _ _ _ h=>h.elim)
 ·intro l b' hl' hb'
  exact⟨_,c3,by simpa using (Rf.nil (sz:=1) (e:=qJZ) (Ext.refl hB)).row,fun q o hq=>(wo_get hq).2,fun r hr=>by simp[rowOf] at hr⟩
 ·intro l b' i h' J; obtain⟨kv,_,_,e,_⟩:=J; exact e
 ·intro l b' hl' hb' i h' h'' J k
  exact J.keep hl' h3B k
 ·rintro l b' i s2 ha hb hl' hb' ⟨J,s3,hi,s4⟩ k
  exact⟨J.keep hl' h3B k,s3,hi,s4⟩
 ·intro i hi; simp[allX]
 ·rintro i hi l b' h2 hl' hb' ⟨ol,hol⟩ ⟨ob,hob⟩ J
  rw[qfCZ]
  unfold qcoZ
  obtain⟨hib,sv,hx,hsv,hsn⟩:=allX_at l2 hi
  rw[hx]
  simp -implicitDefEqProofs
  exact⟨J,by simp,hib,by simp⟩
 ·rintro i hi l b' s2 h3 hl' hb' ⟨ol,hol⟩ ⟨ob,hob⟩ ⟨⟨kv,cv,r,e,nr⟩,s3,hib,s4⟩
  rw[qfDZ]
  unfold qcpZ
  simp -implicitDefEqProofs[s3,s4,ld_at cv,cel_of cv,stm_at cv,stm_upd,ld_same,cel_same,over]
  refine app_one (x:=.string b[i].1) bsStr unSlStr apStr (by omega) (by simp) (by simp) r (by unfold maxLen; omega) (by omega) (by omega) fun a kv' h4 r4 k4 ha=>?_
  have hl3:l≠v3:=fun hh=>by subst hh; rw[hl'] at c3; cases c3
  have hb3:b'≠v3:=fun hh=>by subst hh; rw[hb'] at c3; cases c3
  have cv4:h4 v3=some (.cells #[kv] qfZ (0,0)):=k4 _ _ cv (fun hh=>(nr v3 hh.symm).1 rfl)
  have hol4:h4 l=some ol:=k4 _ _ hol (fun hh=>(nr l hh.symm).2.1 rfl)
  have hob4:h4 b'=some ob:=k4 _ _ hob (fun hh=>(nr b' hh.symm).2.2.1 rfl)
  have nr':∀ g,rowOf kv'=some g→g≠v3∧g≠l∧g≠b'∧hB g=none:=fun g hg=>by
   rcases ha with ha | ⟨j,ha,hj⟩
   ·exact nr g (by rw[← ha]; exact hg)
   ·rw[ha] at hg; cases hg
    refine⟨fun hh=>?_,fun hh=>?_,fun hh=>?_,?_⟩
    ·subst hh; rw[cv] at hj; cases hj
    ·subst hh; rw[hol] at hj; cases hj
    ·subst hh; rw[hob] at hj; cases hj
    ·by_cases hg3:g=v3
     ·subst hg3; rw[cv] at hj; cases hj
     ·cases hh:hB g with
      | none=>rfl
      | some o =>
       have:=e g o (by rw[wo_out (by simpa using hg3)]; exact hh)
       rw[this] at hj; cases hj
  have okv:kv'.cells=#[kv']:=r4.one.2
  simp -implicitDefEqProofs[ld_at cv4,cel_of cv4,stm_at cv4,stm_upd,ld_same,cel_same,over,okv,r4.one.1]
  refine⟨by rw[upd_ne hl3,hol4,hol],by rw[upd_ne hb3,hob4,hob],kv',upd_same' _ _ _,?_,wo_upd ?_ (by simp),nr'⟩
  ·have:(keysB b).take (i+1)=(keysB b).take i++[b[i].1]:=by
    rw[List.take_succ_eq_append_getElem (by omega)]; simp[keysB]
   rw[this,List.flatMap_append]
   exact (by simpa [strC1] using r4:Row 1 qJZ h4 kv' (i+1) _).of_at fun g hg=>upd_ne (nr' g hg).1
  ·intro q o hq
   have hqB:=wo_get hq
   have:=e q o hq
   exact k4 q o this fun hh=>by rw[(nr q hh.symm).2.2.2] at hqB; cases hqB.2
 ·intro l b' h' hl' hlb hb' hd J
  rw[hlx] at J
  obtain⟨kv,cv,r,e,nr⟩:=J
  rw[List.take_of_length_le (by omega)] at r
  have nb3:v3≠b':=fun hh=>by subst hh; rw[hb'] at c3; cases c3
  simp -implicitDefEqProofs only[blkM_n,thenM_n]
  simp -implicitDefEqProofs[ld_at cv,cel_of cv,stm_at cv,stm_upd,ld_same,cel_same,over,hd,ld_skip nb3,cel_skip nb3]
  refine hk _ _ (ext_upd (o:=.deferred none) (fresh_of e0B hb') (ext_wo e0B (by simpa using n3') e)) ?_
  have r':Row 1 qJZ (upd h' b' (.deferred none)) kv (keysB b).length ((keysB b).flatMap strC1):=by
   rw[klen]; exact r.of_at fun g hg=>upd_ne (nr g hg).2.2.1
  exact strR_of (Row.slE (enc:=strC1) (R:=StrE) (fun _=>rfl) (fun _=>rfl) r') (str_sizes x.1)
end Go.Proofs.YtcnphhhcknhhaaaGreat
namespace Go.Proofs.YtcnphhhcknhhaaaGreat
open Go Go.Den Go.MapKept
set_option linter.unusedSimpArgs false
set_option linter.unusedVariables false
set_option maxRecDepth 20000
def saE (a b:Book):Prop:=∀ x∈a,x.2=entOf b x.1
theorem book_eq {a b:Book}(so:SrtK (keysB a))(so':SrtK (keysB b))(hk:keysB a=keysB b):a=b↔saE a b:=by
 constructor
 ·rintro rfl x hx
  obtain⟨i,hi,rfl⟩:=List.getElem_of_mem hx
  exact (entOf_mem so hi).symm
 ·intro h
  have hl:a.length=b.length:=by have:=congrArg List.length hk; simpa [keysB] using this
  refine List.ext_getElem hl fun i h1 h2=>?_
  have hki:a[i].1=b[i].1:=by
   have:(keysB a)[i]'(by simpa [keysB] using h1)=(keysB b)[i]'(by simpa [keysB] using h2):=by simp only[hk]
   simpa [keysB] using this
  have he:=h a[i] (List.getElem_mem h1)
  rw[hki,entOf_mem so' h2] at he
  exact Prod.ext hki he
def SaJ (hB:Heap)(v5:Nat)(a b:Book)(i:Nat)(h':Heap):Prop:=Ext (wo hB [v5]) h'∧h' v5=some (.cells #[.bool false] qdiZ (0,0))∧∀ x∈a.take i,x.2=entOf b x.1
def SaS (hB:Heap)(v5:Nat)(a b:Book)(h':Heap):Prop:=Ext (wo hB [v5]) h'∧h' v5=some (.cells #[.bool false] qdiZ (0,0))∧¬ saE a b
def SaC (hB F:Heap)(v3 v5:Nat)(a b:Book)(l i:Nat)(s2:Env)(h':Heap):Prop :=
 SaJ hB v5 a b i h'∧s2 3=ptr v3∧s2 4=ptr v5∧∃ (hi:i<a.length) (xb:Nat) (sv:Value),s2 5 = .string a[i].1∧s2 6=ptr xb∧xb≠l∧xb≠v5∧h' xb=some (.cells (sv::presC a[i].2.told).toArray qhZ (0,0))∧Sl 4 SessR F sv a[i].2.ss
theorem tgBool4:tagg P 4=some none:=by kernel_rfl
theorem zcBool:zc P qdiZ=some #[.bool false]:=by kernel_rfl
variable {K:KTy}
set_option maxHeartbeats 4000000 in
theorem same_ok (a b:Book)(so:SrtK (keysB a))(so':SrtK (keysB b))(hl:a.length<1000000)(hlb:b.length<1000000)(hsn:∀ x∈a,x.2.ss.length<1000000){F h:Heap}(eF:Ext F h){kw vw kw' vw':Value}(x:BookR F kw vw a)(y:BookR F kw' vw' b)
  (hk:∀ h',Ext h h'→K (.bool (decide (a=b))) h'):callM P qdjZ #[.agg #[kw,vw],.agg #[kw',vw']] h K:=by
 apply qmRZ
 unfold qjIZ
 refine nw_agg fun v1 h1 n1 e1 c1=>?_
 refine nw_agg fun v3 h3 n3 e3 c3=>?_
 rw[zcBool]
 refine nw_intro fun v5 h5 n5 e5 c5=>?_
 have c1:=e5 _ _ (e3 _ _ c1)
 have c3:=e5 _ _ c3
 have e0:=(e1.trans e3).trans e5
 have n5':h v5=none:=fresh_of (e1.trans e3) n5
 have o1:=x.1.one
 have o2:=x.2.1.one
 have o3:=y.1.one
 have o4:=y.2.1.one
 have hag3:∀ h',h' v3=some (.cells #[kw',vw'] qaZ (0,0))→ldV (some (some 2)) (ptr v3) h'=some (.agg #[kw',vw']):=fun h' c=>by simp[ld_at c]
 have hag1:∀ h',h' v1=some (.cells #[kw,vw] qaZ (0,0))→ldV (some (some 2)) (ptr v1) h'=some (.agg #[kw,vw]):=fun h' c=>by simp[ld_at c]
 simp -implicitDefEqProofs only[hag1 _ c1,hag3 _ c3,ov_s]
 refine keys_ok a hl (eF.trans e0) x fun ka h6 e6 xa=>?_
 have c1:=e6 _ _ c1
 have c3:=e6 _ _ c3
 have c5:=e6 _ _ c5
 have e0:=e0.trans e6
 unfold qlaZ
 simp -implicitDefEqProofs only[hag3 _ c3,true_and]
 refine keys_ok b hlb (eF.trans e0) y fun kB h7 e7 xb=>?_
 have c1:=e7 _ _ c1
 have c3:=e7 _ _ c3
 have c5:=e7 _ _ c5
 have e0:=e0.trans e7
 refine eqStr_ok (keysB a) (keysB b) (xa.ext (@StrR.ext) e7) xb (by simpa [keysB] using hl) ?_
 unfold qkZZ
 by_cases hkk:keysB a=keysB b
 rotate_left
 ·have hne:a≠b:=fun e=>hkk (by rw[e])
  have w5:Ext h (upd h7 v5 (.cells #[.bool false] qdiZ (0,0))):=ext_upd n5' e0
  simp -implicitDefEqProofs[hkk,ld_at c5,cel_of c5,stm_at c5,stm_upd,ld_same,cel_same,over]
  refine kb (hk _ w5) (by simp[hne])
 have hbe:=book_eq so so' hkk
 simp -implicitDefEqProofs[hkk]
 unfold qkYZ
 rw[seqM_eq]
 unfold qkXZ
 simp -implicitDefEqProofs only[hag1 _ c1,ov_s]
 refine all_ok a (eF.trans e0) x fun pA hB nA eA cA=>?_
 have nA5:v5≠pA:=ne_fresh c5 nA
 have c3:=eA _ _ c3
 have c5:=eA _ _ c5
 have e0B:=e0.trans eA
 have n35:v3≠v5:=fun hh=>by subst hh; rw[c3] at c5; cases c5
 have hv3:wo hB [v5] v3=some (.cells #[kw',vw'] qaZ (0,0)):=by rw[wo_out (by simpa using n35)]; exact c3
 obtain⟨Lv,l1,l2⟩:=x.2.1.els EntR.one
 simp -implicitDefEqProofs only[List.length_map] at l1
 have hF5:F v5=none:=by
  cases hh:F v5 with
  | none=>rfl
  | some o=>rw[eF _ _ hh] at n5'; cases n5'
 have F1:Ext F (wo hB [v5]):=wo_ext (eF.trans e0B) (by simpa using hF5)
 have hlx:(allX a Lv).length=a.length:=by simp[allX]
 unfold qkWZ
 refine rf_go good mixed rfl (by kernel_rfl) (all_it a (hA:=wo hB [v5]) (p:=pA) (kw:=kw) (vw:=vw) (Lv:=Lv) (by rw[wo_out (by simpa using Ne.symm nA5)]; exact cA) (x.ext F1) (l1.ext F1) l2.size (by simpa using l2.len))
  (fun l b' i h'=>SaJ hB v5 a b i h') (fun _ _ e h'=>e = .ret∧SaS hB v5 a b h') (fun l b' i s2 h'=>SaC hB F v3 v5 a b l i s2 h') ?_ ?_ ?_ ?_ ?_ ?_ ?_ ?_ ?_ ?_ ?_
 ·intro l b' hl' hb'
  exact⟨fun q o hq=>(wo_get hq).2,c5,by simp⟩
 ·intro l b' i h' J; exact J.1
 ·intro l b' hl' hb' i h' h'' J k
  exact⟨wo_keep J.1 hl' k,k _ _ J.2.1 (fun hh=>by cases hh; rw[hl'] at c5; cases c5),J.2.2⟩
 ·rintro l b' hl' hb' e h' h'' ⟨rfl,J⟩ k
  exact⟨rfl,wo_keep J.1 hl' k,k _ _ J.2.1 (fun hh=>by cases hh; rw[hl'] at c5; cases c5),J.2.2⟩
 ·rintro l b' i s2 ha hb hl' hb' ⟨J,s3,s4,hi,xb,sv,s5,s6,nx,nx5,cx,sx⟩ k
  exact⟨⟨wo_keep J.1 hl' k,k _ _ J.2.1 (fun hh=>by cases hh; rw[hl'] at c5; cases c5),J.2.2⟩,s3,s4,hi,xb,sv,s5,s6,nx,nx5,k _ _ cx (fun hh=>nx (by cases hh; rfl)),sx⟩
 ·intro i hi; simp[allX]
 ·rintro i hi l b' h2 hl' hb' ⟨ol,hol⟩ ⟨ob,hob⟩ J
  rw[qmtZ]
  unfold qkeZ
  rw[zcEnt]
  obtain⟨hib,sv,hx,hsv,hsn'⟩:=allX_at l2 hi
  rw[hx]
  have hso:=hsv.one
  simp -implicitDefEqProofs
  refine nw_st rfl (by simp[presC]) (by simp[presC,hso.1]) fun xb h4 n4 e4 c4=>?_
  refine⟨⟨⟨J.1.trans e4,e4 _ _ J.2.1,J.2.2⟩,by simp,by simp,hib,xb,sv,by simp,by simp,fun hh=>(by subst hh; rw[hol] at n4; cases n4),fun hh=>(by subst hh; rw[J.2.1] at n4; cases n4),?_,hsv⟩,by rw[hol,e4 _ _ hol],by rw[hob,e4 _ _ hob]⟩
  simpa using c4
 ·rintro i hi l b' s2 h3 hl' hb' ⟨ol,hol⟩ ⟨ob,hob⟩ ⟨J,s3,s4,hib,xb,sv,s5,s6,nx,nx5,cx,sx⟩
  rw[qmuZ]
  unfold qkfZ
  have c3':=J.1 _ _ hv3
  simp -implicitDefEqProofs only[s3,s5,hag3 _ c3',ov_s]
  refine get_ok b so' a[i].1 (F1.trans J.1) y hlb fun h8 sv' e8 xs' xn'=>?_
  have cx:=e8 _ _ cx
  have c58:=e8 _ _ J.2.1
  have e38:=J.1.trans e8
  simp -implicitDefEqProofs only[exV_0,exV_1,ov_s,zcEnt]
  have hso':=xs'.one
  have hso:=sx.one
  refine nw_st rfl (by simp[presC]) (by simp[presC,hso'.1]) fun yb h9 n9 e9 c9=>?_
  have cx:=e9 _ _ cx
  have c59:=e9 _ _ c58
  have e39:=e38.trans e9
  have hol9:h9 l=some ol:=e9 _ _ (e8 _ _ hol)
  have hob9:h9 b'=some ob:=e9 _ _ (e8 _ _ hob)
  simp -implicitDefEqProofs only[presC] at cx c9
  simp -implicitDefEqProofs[s6,ld_at cx,cel_of cx,stm_at cx,ld_at c9,cel_of c9,stm_at c9,stm_upd,ld_same,cel_same,over,presNe]
  have hl5:l≠v5:=fun hh=>by subst hh; rw[hl'] at c5; cases c5
  have hb5:b'≠v5:=fun hh=>by subst hh; rw[hb'] at c5; cases c5
  have bad:a[i].2≠entOf b a[i].1→∀ h36,Ext h9 h36→(upd h36 v5 (.cells #[.bool false] qdiZ (0,0))) l=h3 l∧(upd h36 v5 (.cells #[.bool false] qdiZ (0,0))) b'=h3 b'∧SaS hB v5 a b (upd h36 v5 (.cells #[.bool false] qdiZ (0,0))):=fun hn h36 e36 =>
   ⟨by rw[upd_ne hl5,e36 _ _ hol9,hol],by rw[upd_ne hb5,e36 _ _ hob9,hob],wo_upd (e39.trans e36) (by simp),upd_same' _ _ _,fun sa=>hn (sa _ (List.getElem_mem hib))⟩
  by_cases ht:a[i].2.told=(entOf b a[i].1).told
  ·simp -implicitDefEqProofs[ht,ld_at cx,cel_of cx,stm_at cx,ld_at c9,cel_of c9,stm_at c9,stm_upd,ld_same,cel_same,over]
   refine eqSess_ok _ _ (sx.ext (@SessR.ext) (F1.trans e39)) (xs'.ext (@SessR.ext) (F1.trans e39)) (hsn _ (List.getElem_mem hib)) ?_
   by_cases hs:a[i].2.ss=(entOf b a[i].1).ss
   ·have he:a[i].2=entOf b a[i].1:=by
     cases h1:a[i].2; cases h2:entOf b a[i].1
     rw[h1,h2] at hs ht; simp_all
    simp -implicitDefEqProofs[hs]
    refine⟨by rw[hol9,hol],by rw[hob9,hob],e39,c59,fun z hz=>?_⟩
    rw[List.take_succ_eq_append_getElem hib] at hz
    rcases List.mem_append.1 hz with hz | hz
    ·exact J.2.2 z hz
    ·rw[List.mem_singleton.1 hz]; exact he
   ·simp -implicitDefEqProofs[hs,s4,ld_at c59,cel_of c59,stm_at c59,stm_upd,ld_same,cel_same,over]
    exact bad (fun e=>hs (by rw[e])) _ (Ext.refl _)
  ·simp -implicitDefEqProofs[ht,s4,ld_at c59,cel_of c59,stm_at c59,stm_upd,ld_same,cel_same,over]
   exact bad (fun e=>ht (by rw[e])) _ (Ext.refl _)
 ·intro l b' h' hl' hne hb' hd J
  rw[hlx] at J
  have hsa:a=b:=hbe.2 fun z hz=>J.2.2 z (by rw[List.take_of_length_le (Nat.le_refl _)]; exact hz)
  have nb5:v5≠b':=fun hh=>by subst hh; rw[hb'] at c5; cases c5
  have cv:=J.2.1
  simp -implicitDefEqProofs only[blkM_n,thenM_n]
  simp -implicitDefEqProofs[ld_at cv,cel_of cv,stm_at cv,stm_upd,ld_same,cel_same,over,hd,ld_skip nb5,cel_skip nb5,tgBool4,upd_ne (Ne.symm nb5)]
  refine kb (hk _ (ext_upd (o:=.deferred none) (fresh_of e0B hb') (ext_upd (o:=.cells #[.bool true] qdiZ (0,0)) n5' (ext_wo e0B (by simpa using n5') J.1)))) (by simp[hsa])
 ·rintro l b' h' hl' hne hb' hd ⟨-,J⟩
  have nb5:v5≠b':=fun hh=>by subst hh; rw[hb'] at c5; cases c5
  have cv:=J.2.1
  simp -implicitDefEqProofs[ld_at cv,cel_of cv,stm_at cv,stm_upd,ld_same,cel_same,over,hd,ld_skip nb5,cel_skip nb5,tgBool4]
  refine kb (hk _ (ext_upd (o:=.deferred none) (fresh_of e0B hb') (ext_wo e0B (by simpa using n5') J.1))) (by rw[decide_eq_false (fun e=>J.2.2 (hbe.1 e))])
 ·rintro id l b' h' hl' hne hb' hd ⟨h,-⟩
  cases h
set_option maxHeartbeats 1000000 in
theorem hquiet_ok {T:Tags}{h:Heap}{g:Tag}{p s m:Nat}{H:Hall}(w:Wf T h)(x:HallR T h g p H)(hs:HS m H)(hm:m≤100000)(hlt:s<H.n)(hk:∀ h',Ext h h'→K (.bool (H.quiet s)) h'):callM P qfmZ #[ptr p,.int .i64 s] h K:=by
 apply qlPZ
 unfold qfNZ
 obtain⟨sv,av,Y,x⟩:=x
 have cp:=x.hp
 simp -implicitDefEqProofs only[hallC] at cp
 obtain⟨b,ob,rb,hb1,tb,ia,l1,l2,l3,l4,l5,l6⟩:=x.lds (s:=s) (k:=.i64) hlt
 have hsr:=x.sr s hlt
 have st:=hs.st s hlt
 have u1:=hsr.1.1.one
 have u2:=hsr.1.2.1.one
 have u3:=hsr.2.1.1.one
 have u4:=hsr.2.1.2.1.one
 simp -implicitDefEqProofs[ld_at cp,cel_of cp,stm_at cp,stm_upd,ld_same,cel_same,over]
 rw[ia,zcStripe]
 simp -implicitDefEqProofs only[strC] at l6
 simp -implicitDefEqProofs only[ov_s,l6]
 refine nw_st (by simp) (by simp) (by simp[u1.1,u2.1,u3.1,u4.1]) fun yb h2 n2 e2 c2=>?_
 simp -implicitDefEqProofs only[cells_agg] at c2
 simp -implicitDefEqProofs[ld_at c2,cel_of c2,stm_at c2,stm_upd,ld_same,cel_same,over]
 refine writing_ok _ _ st.wr.1 fun h3 e3=>?_
 have c3:=e3 _ _ c2
 have e0:=e2.trans e3
 unfold qhmZ
 cases hw:wrt (H.ss s).v with
 | true =>
  simp -implicitDefEqProofs
  refine kb (hk _ e0) (by simp[Hall.quiet,hw])
 | false =>
  simp -implicitDefEqProofs[ld_at c3,cel_of c3,stm_at c3,stm_upd,ld_same,cel_same,over]
  refine same_ok _ _ st.sn.bw.so st.bk.bw.so (by have:=st.sn.bl; omega) (by have:=st.bk.bl; omega) (fun y hy=>by have:=st.sn.bn y hy; omega) ((fz_ext T h).trans e0) hsr.1 hsr.2.1 fun h4 e4=>?_
  refine kb (hk _ (e0.trans e4)) (by simp[Hall.quiet,hw])
end Go.Proofs.YtcnphhhcknhhaaaGreat
namespace Go.Proofs.YtcnphhhcknhhaaaGreat
open Go Go.Den Go.MapKept
set_option linter.unusedSimpArgs false
set_option linter.unusedVariables false
set_option maxRecDepth 20000
theorem g3:Gd [3]:=⟨2,[],rfl⟩
end Go.Proofs.YtcnphhhcknhhaaaGreat
namespace Go.Proofs.YtcnphhhcknhhaaaGreat
open Go Go.Den
set_option maxRecDepth 100000
set_option linter.unusedVariables false
set_option maxHeartbeats 40000000
def qdCZ (a:Env)(b:Post)(m:List Nat)(c d e f:Value)(g:Heap):Prop:=ov (binV BinOp.add 2 true (a 16) (Value.int IntKind.i64 1)) fun h=>b .normal m (puts a [(43,(a 16)),(44,(a 3)),(45,c),(46,d),(49,(a 15)),(50,(a 10)),(51,(a 16)),(52,e),(53,f),(47,(a 16)),(48,h),(16,h)]) g
def qdZZ (a:Env)(b:Heap)(c:Post)(m:List Nat)(d e:Value):Prop:=ov (binV BinOp.add 2 true (Value.int IntKind.i64 10) (a 16)) fun f=>callM P qaXZ #[(a 15),(a 10),f] b fun g h=>qdCZ a c m d e f g h
def qeaZ (a:Env)(b:Heap)(c:Post)(m:List Nat):Prop:=ov (cvV (some .i64) (a 3)) fun d=>ov (binV BinOp.lss 2 false (a 16) d) fun e=>cdM e (qdZZ a b c m d e) (c (.exit 0) m (puts a [(43,(a 16)),(44,(a 3)),(45,d),(46,e)]) b)
def qebZ (x0 x1 x2 x3 a b c d e f g h i j k l n o p q r s t u v w x:Value)(y:Heap)(z:Post):Prop:=loopM (fun m aa ab ac=>qeaZ aa ab ac m) [] (puts (envOf [x0,x1,x2,x3]) [(6,a),(8,(Value.bool false)),(18,b),(19,c),(20,d),(9,e),(22,f),(23,g),(21,g),(24,h),(25,i),(10,h),(11,i),(26,i),(27,j),(28,j),(29,k),(30,l),(31,n),(32,x1),(33,o),(34,p),(35,q),(36,r),(12,r),(13,s),(14,t),(37,x0),(38,u),(39,v),(40,r),(41,w),(42,x),(15,x),(16,(Value.int IntKind.i64 0))]) y (blkM 0 z)
def qdDZ (a:Value)(b:Env)(c:Heap)(d:Value)(K:KTy)(m:List Nat)(e:Value):Prop:=ov (unV UnOp.not a) fun f=>gM (isB f true) (fun g=>g (b 15) c) c fun h i=>gM (isB f true) (fun j=>callM P qdnZ #[h] i fun k l=>j k l) i fun n o=>gM (isB f true) (fun p=>ov (fdV (some (none,0)) n) fun q=>p q o) o fun r s=>gM (isB f true) (fun t=>ov (binV BinOp.eql 2 true r (Value.int IntKind.i64 0)) fun u=>t u s) s fun v w=>ov (pkV f v (Value.bool false)) fun x=>gM (isB x true) (fun y=>ov (ldV (some none) (b 13) w) fun z=>y z w) w fun aa ab=>gM (isB x true) (fun ac=>ov (binV BinOp.eql 2 true aa (Value.int IntKind.i64 1)) fun ad=>ac ad ab) ab fun ae af=>gM (isB x true) (fun ag=>ag d af) af fun ah ai=>gM (isB x true) (fun aj=>ov (binV BinOp.gtr 2 true ah (Value.int IntKind.i64 3)) fun ak=>aj ak ai) ai fun al am=>gM (isB x true) (fun an=>ov (binV BinOp.eql 1 false ae al) fun ao=>an ao am) am fun ap aq=>ov (pkV x ap (Value.bool false)) fun ar=>gM (isB ar true) (fun au=>au (b 15) aq) aq fun av aw=>gM (isB ar true) (fun ax=>callM P qdeZ #[av] aw fun ay az=>ax ay az) aw fun ba bb=>gM (isB ar true) (fun bc=>ov (binV BinOp.eql 2 true ba (Value.int IntKind.i64 12)) fun bd=>bc bd bb) bb fun be bf=>gM (isB ar true) (fun bg=>bg d bf) bf fun bh bi=>gM (isB ar true) (fun bj=>ov (binV BinOp.gtr 2 true bh (Value.int IntKind.i64 2)) fun bk=>bj bk bi) bi fun bl bm=>gM (isB ar true) (fun bn=>ov (binV BinOp.eql 1 false be bl) fun bo=>bn bo bm) bm fun bp bq=>ov (pkV ar bp (Value.bool false)) fun br=>gM (isB br true) (fun bs=>bs (b 10) bq) bq fun bt bu=>gM (isB br true) (fun bv=>bv (b 12) bu) bu fun bw bx=>gM (isB br true) (fun bz=>callM P qcZZ #[bt,bw] bx fun ca cb=>bz ca cb) bx fun cc cd=>gM (isB br true) (fun ce=>ce d cd) cd fun cf cg=>gM (isB br true) (fun ch=>ov (binV BinOp.eql 2 true cf (Value.int IntKind.i64 0)) fun ci=>ch ci cg) cg fun cj ck=>gM (isB br true) (fun cl=>ov (binV BinOp.eql 1 false cc cj) fun cm=>cl cm ck) ck fun cn co=>ov (pkV br cn (Value.bool false)) fun cp=>(retM P [.tmp 8] K) .ret m (puts b [(54,(b 3)),(55,d),(17,d),(56,d),(57,e),(58,(b 15)),(59,a),(60,f),(61,f),(62,h),(63,n),(64,r),(65,v),(66,x),(67,x),(68,aa),(69,ae),(70,ah),(71,al),(72,ap),(73,ar),(74,ar),(75,av),(76,ba),(77,be),(78,bh),(79,bl),(80,bp),(81,br),(82,br),(83,bt),(84,bw),(85,cc),(86,cf),(87,cj),(88,cn),(89,cp),(8,cp)]) co
def qdEZ (a:Env)(b:Heap)(c:Value)(K:KTy)(m:List Nat)(d:Value):Prop:=callM P qAZ #[(a 15)] b fun e f=>qdDZ e a f c K m d
def qdFZ (a:Value)(b:Env)(c:Heap)(K:KTy)(m:List Nat)(d e:Value):Prop:=gv (isB a true) (fun k=>k (b 15)) fun f=>gv (isB a true) (ov (ldV (some none) (b 6) c)) fun g=>gv (isB a true) (ov (cvV (some .i64) g)) fun h=>gM (isB a true) (fun i=>callM P qdnZ #[f] c fun j l=>i j l) c fun n o=>((isB a true)=true→ldV (some none) (b 6) o=some g)∧gv (isB a true) (ov (fdV (some (none,0)) n)) fun p=>gv (isB a true) (ov (binV BinOp.eql 2 false p h)) fun q=>ov (pkV a q (Value.bool false)) fun r=>gv (isB r true) (ov (ldV (some none) (b 13) o)) fun s=>gv (isB r true) (ov (binV BinOp.eql 2 true s (Value.int IntKind.i64 1))) fun t=>ov (pkV r t (Value.bool false)) fun u=>gv (isB u true) (ov (faV (some 1) (b 14))) fun v=>gv (isB u true) (ov (ldV (some none) v o)) fun w=>gv (isB u true) (ov (binV BinOp.eql 2 true w (Value.int IntKind.u64 1))) fun x=>ov (pkV u x (Value.bool false)) fun y=>gv (isB y true) (fun k=>k (b 10)) fun z=>gv (isB y true) (fun k=>k (b 12)) fun aa=>gM (isB y true) (fun ab=>callM P qcZZ #[z,aa] o fun ac ad=>ab ac ad) o fun ae af=>ov (pkV y ae (Value.bool false)) fun ag=>gv (isB ag true) (fun k=>k (b 10)) fun ah=>gv (isB ag true) (fun k=>k (b 12)) fun ai=>gM (isB ag true) (fun aj=>callM P qfmZ #[ah,ai] af fun ak al=>aj ak al) af fun am an=>ov (pkV ag am (Value.bool false)) fun ao=>(retM P [.tmp 8] K) .ret m (puts b [(54,(b 3)),(55,d),(17,d),(56,d),(57,e),(90,(b 15)),(91,a),(92,a),(93,f),(96,g),(97,h),(94,n),(95,p),(98,q),(99,r),(100,r),(101,s),(102,t),(103,u),(104,u),(105,v),(106,w),(107,x),(108,y),(109,y),(110,z),(111,aa),(112,ae),(113,ag),(114,ag),(115,ah),(116,ai),(117,am),(118,ao),(8,ao)]) an
def qdGZ (a:Env)(b:Heap)(K:KTy)(m:List Nat)(c d:Value):Prop:=callM P qAZ #[(a 15)] b fun e f=>qdFZ e a f K m c d
def qdHZ (a:Env)(b:Heap)(K:KTy)(m:List Nat):Prop:=ov (cvV (some .i64) (a 3)) fun c=>ov (binV BinOp.lss 2 true c (Value.int IntKind.i64 7)) fun d=>cdM d (qdEZ a b c K m d) (qdGZ a b K m c d)
def qecZ (x0 x1 x2 x3 a b c d e f g h i j k l n o p q r s t u v w x:Value)(y:Heap)(K:KTy):Prop:=seqM (fun z=>qebZ x0 x1 x2 x3 a b c d e f g h i j k l n o p q r s t u v w x y z) (fun m aa ab=>qdHZ aa ab K m) (retM P [.tmp 8] K)
def qedZ (x1 a:Value)(b:Heap)(x0 c x2 x3 d e f g h i j k l m n:Value)(K:KTy):Prop:=ov (cvV (some .i64) x1) fun o=>ov (faV (some 0) a) fun p=>ov (ldV (some none) p b) fun q=>ov (binV BinOp.rem 2 false o q) fun r=>nwM (zc P qiZ) qiZ b fun s t=>stM (some 1) s (Value.int IntKind.i64 0) t fun u=>nwM (zc P qsZ) qsZ u fun v w=>ov (cvV (some .i64) x0) fun x=>ov (binV BinOp.rem 2 true x (Value.int IntKind.i64 10)) fun y=>ov ((some (.func (Fn.func qpZ) #[] #[s,v,c]):Option Value)) fun z=>callM P qeAZ #[y,r,z] w fun aa ab=>qecZ x0 x1 x2 x3 c d e f a g h i j k l m n o p q r s v x y z aa ab K
def qeeZ (a:Value)(b:Heap)(K:KTy)(x1 c x0 d x2 x3 e f g h:Value):Prop:=ov (exV a 0) fun i=>ov (exV a 1) fun j=>ov (binV BinOp.neq 2 true j (Value.int IntKind.i64 0)) fun k=>gM (isB k false) (fun l=>l i b) b fun m n=>gM (isB k false) (fun o=>ov (binV BinOp.eql 4 true m (Value.pointer none)) fun p=>o p n) n fun q r=>ov (pkV k (Value.bool true) q) fun s=>cdM s (K (Value.bool false) r) (qedZ x1 c r x0 d x2 x3 e f g h a i j k m q s K)
def qefZ (a:Heap)(b:Value)(K:KTy)(x1 x0 c x2 x3 d e:Value):Prop:=nwM (zc P qaUZ) qaUZ a fun f g=>stM (some 7) f b g fun h=>ov (ldV (some (some 7)) f h) fun i=>callM P qibZ #[i] h fun j k=>qeeZ j k K x1 f x0 c x2 x3 d e b i
def qegZ (a:Heap)(K:KTy)(x1 x0 b x2 x3 c d:Value):Prop:=callM P qcLZ #[] a fun e f=>qefZ f e K x1 x0 b x2 x3 c d
def qehZ (a:Value)(K:KTy)(b:Heap)(x1 x0 c x2 x3:Value):Prop:=ov (unV UnOp.not a) fun d=>cdM d (K (Value.bool false) b) (qegZ b K x1 x0 c x2 x3 a d)
def qcaZ (x0 x1 x2 x3:Value)(h:Heap)(K:KTy):Prop:=nwM (some x2.cells) qmEZ h fun a b=>callM P qeqZ #[] b fun c d=>qehZ c K d x1 x0 a x2 x3
variable {K:KTy}
theorem qiaZ {x0 x1 x2 x3:Value}{h:Heap}(hd:qcaZ x0 x1 x2 x3 h K):callM P qbJZ #[x0,x1,x2,x3] h K :=
 call_of good mixed (fn:=Tryz.f8) (args:=[x0,x1,x2,x3]) Tryz.func8 rfl (by kernel_rfl) (of_decide_eq_true rfl) (B:=qcaZ x0 x1 x2 x3 h K) (by kernel_rfl) hd
end Go.Proofs.YtcnphhhcknhhaaaGreat
namespace Go.Proofs.YtcnphhhcknhhaaaGreat
open Go Go.Den Go.MapKept
set_option linter.unusedSimpArgs false
set_option linter.unusedVariables false
set_option maxRecDepth 20000
def sstp (p:WP)(H:Hall)(n e:Int):WP × Hall:=if p.at_=3 then ({ p with at_:=4,err:=e },H) else p.stp H n
structure SeI (w k:Nat)(e:Int)(n:Nat)(p:WP)(H:Hall)(told:Int)(a:Tm):Prop where
 kk:p.k = .sweep
 ww:p.who=w
 s:p.s=k
 at_:p.at_=min n 7
 pl:p.placed=if 2<n then 12 else -1
 er:p.err=if 3<n then e else 0
 tq:2<n→p.t.seq=1
 tu:U64 p.t.now∧U64 p.t.seq
 hn:H.n=3
 hs:HS n H
 sq:H.t.seq=if 2<n then 1 else 0
 wh:(H.ss k).who=if n=0∨7≤n then 0 else (w:Int)+1
 bk:(H.ss k).book=[]∧(H.ss k).snap=[]
 v:5<n→wrt (H.ss k).v=false
 to:told=if 3<n then 1 else 0
 aq:3<n→a.seq=1
theorem SeI.init {w k:Nat}(e:Int)(hk:k<3):SeI w k e 0 (sect w k .sweep) (hall0 small 3) 0 ⟨0,0,false⟩:=by
 refine⟨rfl,rfl,rfl,rfl,rfl,rfl,fun h=>by omega,by simp[sect,U64],rfl,HS.new smallW (by decide) (by decide),rfl,rfl,⟨rfl,rfl⟩,fun h=>by omega,rfl,fun h=>by omega⟩
theorem SeI.late {w k:Nat}{e:Int}{n:Nat}{p:WP}{H:Hall}{told:Int}{a:Tm}(x:SeI w k e n p H told a)(h:7≤n):SeI w k e (n+1) p H told a:=by
 obtain⟨h1,h2,h3,h4,h5,h6,h7,h8,h9,h10,h11,h12,h13,h14,h15,h16⟩:=x
 refine⟨h1,h2,h3,by omega,?_,?_,fun _=>h7 (by omega),h8,h9,h10.mono (by omega),?_,?_,h13,fun _=>h14 (by omega),?_,fun _=>h16 (by omega)⟩
 ·rw[h5,if_pos (by omega),if_pos (by omega)]
 ·rw[h6,if_pos (by omega),if_pos (by omega)]
 ·rw[h11,if_pos (by omega),if_pos (by omega)]
 ·rw[h12,if_pos (by omega),if_pos (by omega)]
 ·rw[h15,if_pos (by omega),if_pos (by omega)]
theorem wrt_end (v:Int):wrt (endV v)=false:=by
 unfold endV wrt
 by_cases h:v % 2=1
 ·simp -implicitDefEqProofs[h]; omega
 ·simp -implicitDefEqProofs[h]
theorem SeI.step {w k:Nat}{e:Int}{n:Nat}{p:WP}{H:Hall}{told:Int}{a:Tm}(x:SeI w k e n p H told a)(h:n<7)(hk:k<3)(hw:w≤9) :
  SeI w k e (n+1) (sstp p H (10+n) e).1 (sstp p H (10+n) e).2 (if p.at_=3 then told+1 else told) (if p.at_=3 then p.t else a):=by
 obtain⟨h1,h2,h3,h4,h5,h6,h7,h8,h9,h10,h11,h12,h13,h14,h15,h16⟩:=x
 have at_:p.at_=n:=by omega
 have hlt:p.s<H.n:=by omega
 have hwI:(p.who:Int)≤900:=by rw[h2]; omega
 rcases (by omega:n=0∨n=1∨n=2∨n=3∨n=4∨n=5∨n=6) with rfl | rfl | rfl | rfl | rfl | rfl | rfl
 ·have e1:sstp p H (10+(0:Nat)) e=({ p with at_:=1 },H.lock p.who p.s):=by unfold sstp; rw[if_neg (by omega),stp0 _ _ at_]
  rw[e1,if_neg (by omega),if_neg (by omega)]
  have w0:(H.ss p.s).who=0:=by rw[h3,h12]; rfl
  have e2:H.lock p.who p.s=(H.did p.who 5 (4*p.s+1)).put p.s { H.ss p.s with who:=p.who+1 }:=by unfold Hall.lock; rw[if_pos (by simp[canTake,w0,h2])]
  have hs':=h10.lock hlt hwI
  dsimp only
  rw[e2] at hs' ⊢
  exact⟨h1,h2,h3,rfl,by simpa using h5,by simpa using h6,fun h=>by omega,h8,h9,hs',by simpa [Hall.put,Hall.did] using h11,by simp[Hall.put,sput,h3,h2],by simpa [Hall.put,sput,h3] using h13,fun h=>by omega,by simpa using h15,fun h=>by omega⟩
 ·have e1:sstp p H (10+(1:Nat)) e=({ p with at_:=2 },H.begin p.who p.s):=by unfold sstp; rw[if_neg (by omega),stp1 _ _ at_]
  rw[e1,if_neg (by omega),if_neg (by omega)]
  have hs':=h10.begin (w:=p.who) hlt
  exact⟨h1,h2,h3,rfl,by simpa using h5,by simpa using h6,fun h=>by omega,h8,h9,hs',by simpa [Hall.begin,Hall.pub,Hall.end_,Hall.put,Hall.did] using h11,by simpa [Hall.begin,Hall.put,Hall.did,sput,h3] using h12,by simpa [Hall.begin,Hall.put,Hall.did,sput,h3] using h13,fun h=>by omega,by simpa using h15,fun h=>by omega⟩
 ·have e1:sstp p H (10+(2:Nat)) e=({ p with at_:=3,placed:=10+(2:Nat),t:=(H.take p.who).t },H.take p.who):=by unfold sstp; rw[if_neg (by omega),stp2 _ _ at_]
  rw[e1,if_neg (by omega),if_neg (by omega)]
  have hs':=h10.take p.who
  have hq:(H.take p.who).t.seq=1:=by simp[Hall.take,h11,addU]
  exact⟨h1,h2,h3,rfl,by simp,by simpa using h6,fun _=>hq,⟨hs'.tn,hs'.ts⟩,h9,hs',by simpa using hq,by simpa [Hall.take,Hall.did] using h12,by simpa [Hall.take,Hall.did] using h13,fun h=>by omega,by simpa using h15,fun h=>by omega⟩
 ·have e1:sstp p H (10+(3:Nat)) e=({ p with at_:=4,err:=e },H):=by unfold sstp; rw[if_pos (by omega)]
  rw[e1,if_pos (by omega),if_pos (by omega)]
  exact⟨h1,h2,h3,rfl,by simpa using h5,by simp,fun _=>h7 (by omega),h8,h9,h10.mono (by omega),by simpa [Hall.begin,Hall.pub,Hall.end_,Hall.put,Hall.did] using h11,by simpa using h12,h13,fun h=>by omega,by simp[h15],fun _=>h7 (by omega)⟩
 ·have e1:sstp p H (10+(4:Nat)) e=({ p with at_:=5 },H.pub p.who p.s):=by unfold sstp; rw[if_neg (by omega),stp4 _ _ at_]
  rw[e1,if_neg (by omega),if_neg (by omega)]
  have hs':=h10.pub (w:=p.who) hlt
  exact⟨h1,h2,h3,rfl,by simpa using h5,by simpa using h6,fun _=>h7 (by omega),h8,h9,hs',by simpa [Hall.begin,Hall.pub,Hall.end_,Hall.put,Hall.did] using h11,by simpa [Hall.pub,Hall.put,Hall.did,sput,h3] using h12,by simpa [Hall.pub,Hall.put,Hall.did,sput,h3] using h13.1,fun h=>by omega,by simpa using h15,fun _=>h16 (by omega)⟩
 ·have e1:sstp p H (10+(5:Nat)) e=({ p with at_:=6 },H.end_ p.who p.s):=by unfold sstp; rw[if_neg (by omega),stp5 _ _ at_]
  rw[e1,if_neg (by omega),if_neg (by omega)]
  have hs':=h10.end_ (w:=p.who) hlt
  exact⟨h1,h2,h3,rfl,by simpa using h5,by simpa using h6,fun _=>h7 (by omega),h8,h9,hs',by simpa [Hall.begin,Hall.pub,Hall.end_,Hall.put,Hall.did] using h11,by simpa [Hall.end_,Hall.put,Hall.did,sput,h3] using h12,by simpa [Hall.end_,Hall.put,Hall.did,sput,h3] using h13,fun _=>by simpa [Hall.end_,Hall.put,Hall.did,sput,h3] using wrt_end _,by simpa using h15,fun _=>h16 (by omega)⟩
 ·have e1:sstp p H (10+(6:Nat)) e=({ p with at_:=7 },H.unlock p.who p.s):=by unfold sstp; rw[if_neg (by omega),stp6 _ _ (by omega)]
  rw[e1,if_neg (by omega),if_neg (by omega)]
  have w1:(H.ss p.s).who=(w:Int)+1:=by rw[h3,h12]; rfl
  have e2:H.unlock p.who p.s=(H.did p.who 6 (4*p.s+1)).put p.s { H.ss p.s with who:=0 }:=by unfold Hall.unlock; rw[if_pos (by simp[canGive,w1,h2]; omega)]
  have hs':=h10.unlock (w:=p.who) hlt
  dsimp only
  rw[e2] at hs' ⊢
  exact⟨h1,h2,h3,rfl,by simpa using h5,by simpa using h6,fun _=>h7 (by omega),h8,h9,hs',by simpa [Hall.put,Hall.did] using h11,by simp[Hall.put,sput,h3],by simpa [Hall.put,sput,h3] using h13,fun _=>by simpa [Hall.put,sput,h3] using h14 (by omega),by simpa using h15,fun _=>h16 (by omega)⟩
def seAp (bt ba be:Nat):Value:=.func (.func qpZ) #[] #[ptr bt,ptr ba,ptr be]
structure SeX (T:Tags)(h:Heap)(q bt ba be:Nat)(p:WP)(told:Int)(a:Tm)(e:Int):Prop where
 hp:h q=some (.cells (wpC p (seAp bt ba be)).toArray qyZ (0,0))
 tp:T q=[2,0]
 ht:h bt=some (.cells #[.int .i64 told] qiZ (0,0))
 tt:T bt=[2,1]
 ha:h ba=some (.cells (tmC a).toArray qsZ (0,0))
 ta:T ba=[2,2]
 he:fz T h be=some (.cells #[.int .u8 e] qmEZ (0,0))
section
variable {T T':Tags}{h h':Heap}{q bt ba be hp:Nat}{p:WP}{told:Int}{a:Tm}{e:Int}{H:Hall}{K:KTy}
theorem SeX.kp {U:Tag→Prop}(x:SeX T h q bt ba be p told a e)(k:Kp U T h T' h')(o:Off U [2])(n:¬ U []):SeX T' h' q bt ba be p told a e :=
 ⟨(k.at x.hp x.tp (o.at [0])).1,(k.at x.hp x.tp (o.at [0])).2,(k.at x.ht x.tt (o.at [1])).1,(k.at x.ht x.tt (o.at [1])).2,(k.at x.ha x.ta (o.at [2])).1,(k.at x.ha x.ta (o.at [2])).2,k.ext n _ _ x.he⟩
theorem SeX.up (x:SeX T h q bt ba be p told a e)(w:Wf T h)(e':Ext h h'):SeX T h' q bt ba be p told a e:=x.kp (Only.of_ext (U:=non) w e').k (Off.non _) (not_non _)
theorem SeX.st (x:SeX T h q bt ba be p told a e)(w:Wf T h){p':WP}{c:Array Value}(hc:c=(wpC p' (seAp bt ba be)).toArray) :
  Only (fun t=>t=[2,0]) T h T (upd h q (.cells c qyZ (0,0)))∧SeX T (upd h q (.cells c qyZ (0,0))) q bt ba be p' told a e:=by
 have o1:Only (fun t=>t=[2,0]) T h T (upd h q (.cells c qyZ (0,0))):=Only.upd w x.hp x.tp
 exact⟨o1,by rw[upd_same',hc],x.tp,(o1.k.at x.ht x.tt (by simp)).1,x.tt,(o1.k.at x.ha x.ta (by simp)).1,x.ta,o1.ext (by simp) _ _ x.he⟩
theorem SeX.stt (x:SeX T h q bt ba be p told a e)(w:Wf T h)(told':Int) :
  Only (fun t=>t=[2,1]) T h T (upd h bt (.cells #[.int .i64 told'] qiZ (0,0)))∧SeX T (upd h bt (.cells #[.int .i64 told'] qiZ (0,0))) q bt ba be p told' a e:=by
 have o1:Only (fun t=>t=[2,1]) T h T (upd h bt (.cells #[.int .i64 told'] qiZ (0,0))):=Only.upd w x.ht x.tt
 exact⟨o1,(o1.k.at x.hp x.tp (by simp)).1,x.tp,upd_same' _ _ _,x.tt,(o1.k.at x.ha x.ta (by simp)).1,x.ta,o1.ext (by simp) _ _ x.he⟩
theorem SeX.sta (x:SeX T h q bt ba be p told a e)(w:Wf T h){a':Tm}{c:Array Value}(hc:c=(tmC a').toArray) :
  Only (fun t=>t=[2,2]) T h T (upd h ba (.cells c qsZ (0,0)))∧SeX T (upd h ba (.cells c qsZ (0,0))) q bt ba be p told a' e:=by
 have o1:Only (fun t=>t=[2,2]) T h T (upd h ba (.cells c qsZ (0,0))):=Only.upd w x.ha x.ta
 exact⟨o1,(o1.k.at x.hp x.tp (by simp)).1,x.tp,(o1.k.at x.ht x.tt (by simp)).1,x.tt,by rw[upd_same',hc],x.ta,o1.ext (by simp) _ _ x.he⟩
theorem u20:∀ t:Tag,t=[2,0]→UW t:=fun t h=>.inr (h▸by simp[pre])
theorem u21:∀ t:Tag,t=[2,1]→UW t:=fun t h=>.inr (h▸by simp[pre])
theorem u22:∀ t:Tag,t=[2,2]→UW t:=fun t h=>.inr (h▸by simp[pre])
theorem seap_ok (x:SeX T h q bt ba be p told a e)(w:Wf T h)(y:HallR T h [1] hp H)(t:Tm)(ht:told=0)(he:0≤e∧e<256)(hk:∀ T' h',Only UW T h T' h'→SeX T' h' q bt ba be p (told+1) t e→HallR T' h' [1] hp H→K (.agg (repC e).toArray) h') :
  callM P qpZ #[ptr hp,.agg (tmC t).toArray,ptr bt,ptr ba,ptr be] h K:=by
 apply qgBZ
 unfold qaZZ
 rw[zcRep]
 refine nw_agg fun v1 h1 n1 e1 c1=>?_
 have o1:Only non T h T h1:=Only.of_ext w e1
 refine nw_tag o1.wf lc fun v3 T2 h2 n3 o2 t3 c3=>?_
 have x2:=(x.up w e1).kp o2.k (Off.non _) (not_non _)
 have y2:=(y.up o1 (Off.non _) (not_non _)).up o2 (Off.non _) (not_non _)
 have k1:=o2.k.at c1 (w v1 n1) (not_non _)
 have m3:h v3=none:=fresh_of e1 n3
 have ct:=x2.ht
 have hw1:IntKind.i64.wrap (told+1)=told+1:=by rw[wrap64_id (by omega) (by omega)]
 obtain⟨o3,x3⟩:=x2.stt o2.wf (told+1)
 have y3:=y2.up o3 (fun t ht h=>by subst h; simp[pre] at ht) (by simp)
 have c1':=(o3.k.at k1.1 k1.2 (by simp)).1
 have b3:=o3.k.at c3 t3 (by simp[lc])
 have ob:ldV (some (some 3)) (ptr v1) (upd h2 bt (.cells #[.int .i64 (told+1)] qiZ (0,0)))=some (.agg (tmC t).toArray):=by simp[ld_at c1',tmC]
 have ca:=x3.ha
 obtain⟨o4,x4⟩:=x3.sta o3.wf (a':=t) (c:=(tmC t).toArray) rfl
 have y4:=y3.up o4 (fun t ht h=>by subst h; simp[pre] at ht) (by simp)
 have ce:=(fz_get x4.he).1
 have b4:=o4.k.at b3.1 b3.2 (by simp[lc])
 have c3':=b4.1
 have hwe:IntKind.i64.wrap e=e:=by rw[wrap64_id (by omega) (by omega)]
 simp -implicitDefEqProofs[ld_at ct,cel_of ct,stm_at ct,stm_upd,ld_same,cel_same,over,hw1]
 simp -implicitDefEqProofs only[ob,ov_s]
 simp -implicitDefEqProofs only[tmC] at ca
 simp -implicitDefEqProofs[ld_at ca,cel_of ca,stm_at ca,stm_upd,ld_same,cel_same,over,tmC]
 simp -implicitDefEqProofs only[tmC] at ce c3' x4 y4 o4 b4
 simp -implicitDefEqProofs[ld_at ce,cel_of ce,stm_at ce,ld_at c3',cel_of c3',stm_at c3',stm_upd,ld_same,cel_same,over,hwe,bdRepE]
 have oo:Only UW T h T2 _:=(((o1.mono non_up).up o2 non_up).up o3 u21).up o4 u22
 exact hk T2 _ (oo.own m3 c3') (x4.kp (Only.upd (U:=fun t=>t=lc) oo.wf c3' b4.2).k g2.off (by simp[lc])) (y4.lst g1 oo.wf b4)
theorem wdone_at (cp:h q=some (.cells (wpC p (seAp bt ba be)).toArray qyZ (0,0)))(hk:∀ h',Ext h h'→K (.bool p.done) h'):callM P qAZ #[ptr q] h K:=by
 apply qiIZ
 unfold qenZ
 simp -implicitDefEqProofs only[wpC] at cp
 simp -implicitDefEqProofs[ld_at cp,cel_of cp,stm_at cp,stm_upd,ld_same,cel_same,over]
 refine steps_ok fun b h1 n1 e1 c1=>?_
 have cp:=e1 _ _ cp
 simp -implicitDefEqProofs[ld_at cp,cel_of cp,stm_at cp,stm_upd,ld_same,cel_same,over]
 exact kb (hk _ e1) (by unfold WP.done; exact decide_eq_decide.2 (by omega))
theorem wenabled_at (w:Wf T h)(x:SeX T h q bt ba be p told a e)(hb:p.k.isBad=false)(y:HallR T h [1] hp H)(hs:p.s<H.n)(hk:∀ h',Ext h h'→K (.bool (p.enabled H)) h'):callM P qcMZ #[ptr q,ptr hp] h K:=by
 apply qgFZ
 unfold qdfZ
 refine wdone_at x.hp fun h1 e1=>?_
 unfold qejZ
 have o1:Only non T h T h1:=Only.of_ext w e1
 have x1:=x.kp o1.k (Off.non _) (not_non _)
 have y1:=y.up o1 (Off.non _) (not_non _)
 have cp:=x1.hp
 simp -implicitDefEqProofs only[wpC,seAp] at cp
 cases hd:p.done with
 | true =>
  simp -implicitDefEqProofs
  exact kb (hk _ e1) (by simp[WP.enabled,hd])
 | false =>
  simp -implicitDefEqProofs
  have hwt:p.waits=if 0<p.at_ then -1 else (p.s:Int):=by unfold WP.waits; rw[hb]; simp
  apply qidZ
  unfold qdOZ
  simp -implicitDefEqProofs[ld_at cp,cel_of cp,stm_at cp,stm_upd,ld_same,cel_same,over,show binV .eql 6 true (.func (.func qpZ) #[] #[ptr bt,ptr ba,ptr be]) .nilFunc=some (.bool false) from rfl]
  refine⟨fun h0=>?_,fun h0=>?_⟩
  ·have:p.waits = -1:=by rw[hwt,if_pos (by omega)]
   try simp
   exact kb (hk _ e1) (by simp[WP.enabled,hd,this])
  ·have:p.waits=p.s:=by rw[hwt,if_neg (by omega)]
   have hnn:¬ (p.s:Int)<0:=by omega
   try simp[hnn,ld_at cp,cel_of cp,stm_at cp,stm_upd,ld_same,cel_same,over]
   refine free_ok y1 hs fun h2 e2=>?_
   try simp
   exact kb (hk _ (e1.trans e2)) (by simp[WP.enabled,hd,this]; omega)
theorem off1_20:Off (fun t=>t=[2,0]) [1]:=fun t ht h=>by subst h; simp[pre] at ht
theorem SeX.hall (x:SeX T h q bt ba be p told a e)(o:Only (pre [1]) T h T' h'):Only UW T h T' h'∧SeX T' h' q bt ba be p told a e:=⟨o.mono fun _ h=>.inl h,x.kp o.k d12 g1.nil⟩
theorem seact_ok {m:Nat}(n:Int)(w:Wf T h)(x:SeX T h q bt ba be p told a e)(y:HallR T h [1] hp H)(hs:HS m H)(hm:m<100000)(wg:WG H.n p)(h7:p.at_<7)(h3:p.at_=3→told=0)(he:0≤e∧e<256){f:Value}(hf:stepA[p.at_]?=some f)(hpl:p.at_=2→p.placed=n)
  (hk:∀ T' h',Only UW T h T' h'→SeX T' h' q bt ba be { (sstp p H n e).1 with at_:=p.at_ } (if p.at_=3 then told+1 else told) (if p.at_=3 then p.t else a) e→HallR T' h' [1] hp (sstp p H n e).2→K (.tuple #[]) h'):nxM P (do let d ← Deferred.ofValue f #[ptr q,ptr hp]; invoke d.target d.args) h K:=by
 have st:=hs.st p.s wg.s
 have n8:=hs.n8.2
 have ac:H.acts.length<900000:=by have:=hs.ac; omega
 have cp:=x.hp
 simp -implicitDefEqProofs only[wpC] at cp
 by_cases c0:p.at_=0
 ·unfold sstp at hk
  rw[if_neg (by omega),stp0 H n c0,if_neg (by omega),if_neg (by omega)] at hk
  simp -implicitDefEqProofs only[c0] at hf hk
  cases hf
  refine nx_fn good (by kernel_rfl) ?_
  apply qiMZ
  unfold qeoZ
  simp -implicitDefEqProofs[ld_at cp,cel_of cp,stm_at cp,stm_upd,ld_same,cel_same,over]
  refine lock_ok _ w g1 y wg.s n8 (by omega) (by have:=wg.w; omega) fun T1 h1 o1 y1=>hk T1 h1 (x.hall o1).1 ?_ y1
  have:=(x.hall o1).2
  rw[← c0]; exact this
 by_cases c1:p.at_=1
 ·unfold sstp at hk
  rw[if_neg (by omega),stp1 H n c1,if_neg (by omega),if_neg (by omega)] at hk
  simp -implicitDefEqProofs only[c1] at hf hk
  cases hf
  refine nx_fn good (by kernel_rfl) ?_
  apply qivZ
  unfold qdRZ
  simp -implicitDefEqProofs[ld_at cp,cel_of cp,stm_at cp,stm_upd,ld_same,cel_same,over]
  refine begin2_ok _ w g1 y wg.s n8 (by omega) st.wr.1 st.wr.2.1 fun T1 h1 o1 y1=>hk T1 h1 (x.hall o1).1 ?_ y1
  have:=(x.hall o1).2
  rw[← c1]; exact this
 by_cases c2:p.at_=2
 ·unfold sstp at hk
  rw[if_neg (by omega),stp2 H n c2,if_neg (by omega),if_neg (by omega)] at hk
  simp -implicitDefEqProofs only[c2] at hf hk
  cases hf
  refine nx_fn good (by kernel_rfl) ?_
  apply qiNZ
  unfold qepZ
  simp -implicitDefEqProofs[ld_at cp,cel_of cp,stm_at cp,stm_upd,ld_same,cel_same,over]
  refine htake_ok _ w g1 y hs.ts (by omega) fun T1 h1 o1 y1=>?_
  have x1:=(x.hall o1).2
  have cp:=x1.hp
  simp -implicitDefEqProofs only[wpC] at cp
  obtain⟨o2,x2⟩:=x1.st (p':={ p with t:=(H.take p.who).t }) o1.wf (c:=_) rfl
  simp -implicitDefEqProofs[ld_at cp,cel_of cp,stm_at cp,stm_upd,ld_same,cel_same,over,tmC]
  refine hk T1 _ ((x.hall o1).1.up o2 u20) ?_ (y1.up o2 off1_20 (by simp))
  rw[← hpl c2,← c2]; exact x2
 by_cases c3:p.at_=3
 ·unfold sstp at hk
  rw[if_pos c3,if_pos c3,if_pos c3] at hk
  simp -implicitDefEqProofs only[c3] at hf hk
  cases hf
  refine nx_fn good (by kernel_rfl) ?_
  apply qiwZ
  unfold qdSZ
  have oa:ldV (some (some 3)) (.pointer (some ⟨q,4,none⟩)) h=some (.agg (tmC p.t).toArray):=by simp[ld_at cp,tmC]
  simp -implicitDefEqProofs[ld_at cp,cel_of cp,stm_at cp,stm_upd,ld_same,cel_same,over,oa]
  refine nx_fn good (by kernel_rfl) ?_
  refine seap_ok x w y p.t (h3 c3) he fun T1 h1 o1 x1 y1=>?_
  have cp:=x1.hp
  simp -implicitDefEqProofs only[wpC] at cp
  obtain⟨o2,x2⟩:=x1.st (p':={ p with err:=e }) o1.wf (c:=_) rfl
  simp -implicitDefEqProofs[ld_at cp,cel_of cp,stm_at cp,stm_upd,ld_same,cel_same,over,repC]
  refine hk T1 _ (o1.up o2 u20) ?_ (y1.up o2 off1_20 (by simp))
  rw[← c3]; exact x2
 by_cases c4:p.at_=4
 ·unfold sstp at hk
  rw[if_neg (by omega),stp4 H n c4,if_neg (by omega),if_neg (by omega)] at hk
  simp -implicitDefEqProofs only[c4] at hf hk
  cases hf
  refine nx_fn good (by kernel_rfl) ?_
  apply qgWZ
  unfold qdgZ
  simp -implicitDefEqProofs[ld_at cp,cel_of cp,stm_at cp,stm_upd,ld_same,cel_same,over]
  refine hpub_ok _ w g1 y wg.s n8 (by omega) fun T1 h1 o1 y1=>hk T1 h1 (x.hall o1).1 ?_ y1
  have:=(x.hall o1).2
  rw[← c4]; exact this
 by_cases c5:p.at_=5
 ·unfold sstp at hk
  rw[if_neg (by omega),stp5 H n c5,if_neg (by omega),if_neg (by omega)] at hk
  simp -implicitDefEqProofs only[c5] at hf hk
  cases hf
  refine nx_fn good (by kernel_rfl) ?_
  apply qjcZ
  unfold qeLZ
  simp -implicitDefEqProofs[ld_at cp,cel_of cp,stm_at cp,stm_upd,ld_same,cel_same,over]
  refine hend_ok _ w g1 y wg.s n8 (by omega) st.wr.1 st.wr.2.2 fun T1 h1 o1 y1=>hk T1 h1 (x.hall o1).1 ?_ y1
  have:=(x.hall o1).2
  rw[← c5]; exact this
 ·have c6:p.at_=6:=by omega
  unfold sstp at hk
  rw[if_neg (by omega),stp6 H n (by omega),if_neg (by omega),if_neg (by omega)] at hk
  simp -implicitDefEqProofs only[c6] at hf hk
  cases hf
  refine nx_fn good (by kernel_rfl) ?_
  apply qhEZ
  unfold qdqZ
  simp -implicitDefEqProofs[ld_at cp,cel_of cp,stm_at cp,stm_upd,ld_same,cel_same,over]
  refine unlock_ok _ w g1 y wg.s n8 (by omega) (by have:=st.wh; omega) fun T1 h1 o1 y1=>hk T1 h1 (x.hall o1).1 ?_ y1
  have:=(x.hall o1).2
  rw[← c6]; exact this
theorem sstp_at (p:WP)(H:Hall)(n e:Int)(h:p.at_<7):(sstp p H n e).1.at_=p.at_+1:=by
 unfold sstp
 split
 ·rename_i h3; show 4=_; omega
 ·exact stp_at p H n h
set_option maxHeartbeats 2000000 in
theorem sestep_ok {m:Nat}(n:Int)(w:Wf T h)(x:SeX T h q bt ba be p told a e)(y:HallR T h [1] hp H)(hs:HS m H)(hm:m<100000)(wg:WG H.n p)(hb:p.k.isBad=false)(h3:p.at_=3→told=0)(he:0≤e∧e<256)
  (hk:∀ T' h',Only UW T h T' h'→(p.enabled H=true→SeX T' h' q bt ba be (sstp p H n e).1 (if p.at_=3 then told+1 else told) (if p.at_=3 then p.t else a) e∧HallR T' h' [1] hp (sstp p H n e).2)→(p.enabled H=false→SeX T' h' q bt ba be p told a e∧HallR T' h' [1] hp H)→K (.tuple #[]) h'):callM P qaXZ #[ptr q,ptr hp,.int .i64 n] h K:=by
 apply qiHZ
 unfold qemZ
 refine wenabled_at w x hb y wg.s fun h1 e1=>?_
 have o1:Only non T h T h1:=Only.of_ext w e1
 have x:=x.kp o1.k (Off.non _) (not_non _)
 have y:=y.up o1 (Off.non _) (not_non _)
 have cp:=x.hp
 simp -implicitDefEqProofs only[wpC,seAp] at cp
 unfold qfaZ
 cases hen:p.enabled H with
 | false =>
  simp -implicitDefEqProofs
  exact hk T h1 (o1.mono non_up) (by simp[hen]) fun _=>⟨x,y⟩
 | true =>
  have h7:=enabled_at hen
  simp -implicitDefEqProofs
  unfold qeZZ
  simp -implicitDefEqProofs[ld_at cp,cel_of cp,stm_at cp,stm_upd,ld_same,cel_same,over,show binV .eql 6 true (.func (.func qpZ) #[] #[ptr bt,ptr ba,ptr be]) .nilFunc=some (.bool false) from rfl]
  unfold qeYZ
  rw[seqM_eq]
  have fin:∀ (p1:WP) (h3':Heap) (s:Env),Only UW T h T h3'→SeX T h3' q bt ba be p1 told a e→HallR T h3' [1] hp H→WG H.n p1→sstp p1 H n e=sstp p H n e→p1.at_=p.at_→p1.t=p.t→(p1.at_=2→p1.placed=n)→s 0=ptr q→s 1=ptr hp→qbQZ s h3' K []:=by
   intro p1 h3' s o3 x3 y3 g3 est eat et epl s0 s1
   have cp:=x3.hp
   simp -implicitDefEqProofs only[wpC] at cp
   unfold qbQZ
   simp -implicitDefEqProofs[s0,s1,ld_at cp,cel_of cp,stm_at cp,stm_upd,ld_same,cel_same,over]
   refine steps_ok fun b h4 n4 e4 c4=>?_
   have o4:Only non T h3' T h4:=Only.of_ext o3.wf e4
   have x4:=x3.kp o4.k (Off.non _) (not_non _)
   have y4:=y3.up o4 (Off.non _) (not_non _)
   have cp:=x4.hp
   simp -implicitDefEqProofs only[wpC] at cp
   unfold qeIZ
   have h17:p1.at_<7:=by omega
   obtain⟨f,hf⟩:∃ f,stepA[p1.at_]?=some f:=⟨_,Array.getElem?_eq_getElem (xs:=stepA) (i:=p1.at_) h17⟩
   have hia:iaV (some (none,1)) (.slice (some ⟨b,0,none⟩) 7 7) (.int .i64 p1.at_)=some (.pointer (some ⟨b,p1.at_,none⟩)):=by
    have:(0:Int)≤p1.at_∧(p1.at_:Int)<7:=by omega
    simp -implicitDefEqProofs[iaV,this]
   have hcl:cel h4 b p1.at_=some f:=by rw[cel_of c4]; exact hf
   simp -implicitDefEqProofs[ld_at cp,cel_of cp,stm_at cp,stm_upd,ld_same,cel_same,over,hia,hcl,s0,s1]
   refine seact_ok n o4.wf x4 y4 hs hm g3 h17 (fun h=>h3 (by omega)) he hf epl fun T5 h5 o5 x5 y5=>?_
   have cp:=x5.hp
   simp -implicitDefEqProofs only[wpC] at cp
   unfold qeHZ
   have hw:IntKind.i64.wrap ((p1.at_:Int)+1)=(p1.at_+1:Nat):=by rw[wrap64_id (by omega) (by omega)]; omega
   have hat:=sstp_at p1 H n e h17
   obtain⟨o6,x6⟩:=x5.st (p':=(sstp p1 H n e).1) o5.wf (c:=_) rfl
   have x6':=x6.hp
   simp -implicitDefEqProofs only[wpC,hat] at o6 x6'
   simp -implicitDefEqProofs[ld_at cp,cel_of cp,stm_at cp,stm_upd,ld_same,cel_same,over,hw,s0,s1,-Int.natCast_add]
   refine hk T5 _ (((o3.up o4 non_up).up o5 fun _ hh=>hh).up o6 u20) (fun _=>⟨?_,by rw[← est]; exact y5.up o6 off1_20 (by simp)⟩) (fun h=>by rw[hen] at h; cases h)
   rw[← est,← eat,← et]
   simp -implicitDefEqProofs only[wpC,hat] at x6
   exact x6
  unfold qeXZ
  simp -implicitDefEqProofs[ld_at cp,cel_of cp,stm_at cp,stm_upd,ld_same,cel_same,over]
  refine⟨fun h2=>?_,fun h2=>?_⟩
  ·have h2:p.at_=2:=by omega
   unfold qeVZ
   obtain⟨o3,x3⟩:=x.st (p':={ p with placed:=n }) o1.wf (c:=_) rfl
   simp -implicitDefEqProofs only[wpC,seAp] at x3 o3
   simp -implicitDefEqProofs[ld_at cp,cel_of cp,stm_at cp,stm_upd,ld_same,cel_same,over]
   refine fin { p with placed:=n } _ _ ((o1.mono non_up).up o3 u20) ?_ (y.up o3 off1_20 (by simp)) ⟨wg.s,wg.w,wg.a,wg.t,wg.o⟩ ?_ rfl rfl (fun _=>rfl) ?_ ?_
   ·exact x3
   ·unfold sstp; rw[if_neg (by show ¬ p.at_=3; omega),if_neg (by omega),stp2 H n h2,stp2 H n (by exact h2)]
   ·simp -implicitDefEqProofs
   ·simp -implicitDefEqProofs
  ·have h2:p.at_≠2:=by omega
   unfold qeWZ
   simp -implicitDefEqProofs
   refine fin p h1 _ (o1.mono non_up) x y wg rfl rfl rfl (fun h=>absurd h h2) ?_ ?_<;>simp
theorem wreply_at (x:SeX T h q bt ba be p told a e)(w:Wf T h)(hk:∀ h',Ext h h'→K (.agg (repC (if p.done then p.err else 0)).toArray) h'):callM P qdnZ #[ptr q] h K:=by
 apply qlrZ
 unfold qfwZ
 rw[zcRep]
 refine nw_intro fun v1 h1 n1 e1 c1=>?_
 refine wdone_at (e1 _ _ x.hp) fun h2 e2=>?_
 have c1:=e2 _ _ c1
 unfold qgIZ
 cases hd:p.done with
 | false =>
  rw[hd] at hk
  simp -implicitDefEqProofs[ld_at c1,cel_of c1,stm_at c1,stm_upd,ld_same,cel_same,over,bdRep0]
  exact kv (hk _ (ext_upd n1 (e1.trans e2))) (by simp[repC])
 | true =>
  rw[hd] at hk
  unfold qgHZ
  have cp:=(e1.trans e2) _ _ x.hp
  simp -implicitDefEqProofs only[wpC] at cp
  simp -implicitDefEqProofs[ld_at c1,cel_of c1,stm_at c1,ld_at cp,cel_of cp,stm_at cp,stm_upd,ld_same,cel_same,over]
  exact kv (hk _ (ext_upd n1 (e1.trans e2))) (by simp[repC])
end
end Go.Proofs.YtcnphhhcknhhaaaGreat
namespace Go.Proofs.YtcnphhhcknhhaaaGreat
open Go Go.Den Go.MapKept
set_option linter.unusedSimpArgs false
set_option linter.unusedVariables false
set_option maxRecDepth 20000
def aw15:Nat→WP × Hall
 | 0=>(wp0 (hall0 small 3) 0 annW,hall0 small 3)
 | n+1=>(aw15 n).1.step (aw15 n).2 n
theorem aw15_done:∀ n,n≤7→((aw15 n).1.done=true↔n=7):=by decide +kernel
theorem aw15_end:(aw15 7).1.placed=2∧(aw15 7).2.stored=1:=by decide +kernel
def Aw15 (T0:Tags)(h0:Heap)(hp pp:Nat)(v:Value)(h':Heap):Prop :=
 ∃ (T':Tags) (k:Nat) (W:Wd) (M:Tbl),Only UW T0 h0 T' h'∧WdM T' h' hp (fun _=>pp) W∧WdK k W M∧W.H=(aw15 k).2∧W.ps 0=some (.w (aw15 k).1)∧v = .int .i64 k∧k≤7
variable {K:KTy}
set_option maxHeartbeats 2000000 in
theorem awake15_ok {h:Heap}(hk:∀ h',Ext h h'→K (.bool true) h'):callM P qeqZ #[] h K:=by
 apply qkAZ
 unfold qeFZ
 refine small_ok fun h1 e1=>?_
 unfold qgfZ
 have w1:=wf_nil h1
 refine hallNew_ok small smallW w1 g1 (fun hr T2 h2 q o2 y2=>?_) (fun hr=>by simp[rightB,small] at hr)
 have hn3:small.stripes.toNat=3:=by decide
 rw[hn3] at y2
 unfold qgeZ
 have enil:binV .eql 4 true (ptr q) (.pointer none)=some (.bool false):=rfl
 simp -implicitDefEqProofs[enil]
 unfold qgdZ
 rw[bdOpAnnW]
 simp -implicitDefEqProofs only[ov_s]
 refine wdnew_w (i:=0) (A:=fun _=>0) (by omega) annW annWW (by simp[annW]) (.inl ⟨rfl,_,_,rfl⟩) o2.wf (wd0M y2 _) (wd0K smallW hr (by decide)) (fun q h=>by simp[wd0] at h) fun T3 h3 p o3 x3 k3=>?_
 have o0:Only UW (fun _=>[]) h1 T3 h3:=(o2.mono fun _=>.inl).up o3 non_up
 unfold qgcZ
 rw[seqM_eq]
 unfold qgaZ
 have hA:bset (fun _=>0) 0 p 0=p:=rfl
 refine loop_on [1,3] (fun s h'=>Aw15 T3 h3 q p (s 4) h') (fun s _=>(9-num (s 4)).toNat) ⟨T3,0,_,_,Only.refl o3.wf,⟨x3.hl,fun i r hr=>?_⟩,k3,rfl,rfl,rfl,by omega⟩ ?_
 ·by_cases hi:i=0
  ·subst hi; exact x3.ps 0 r hr
  ·have hr:bset (wd0 small 3).ps 0 (some (.w (wp0 (hall0 small 3) 0 annW))) i=some r:=hr
   rw[bset_ne hi] at hr; simp[wd0] at hr
 rintro s h4 hf ⟨T4,k,W,M,o4,x4,k4,hH,hP,s4,hk7⟩
 have s1:s 1=ptr q:=by simpa using hf 1 (by simp)
 have s3:s 3=ptr p:=by simpa using hf 3 (by simp)
 have hw:IntKind.i64.wrap ((k:Int)+1)=(k+1:Nat):=by rw[wrap64_id (by omega) (by omega)]; omega
 have hd:=aw15_done k hk7
 have hn9:(k:Int)<9:=by omega
 have xp:=x4.ps 0 _ hP
 unfold qfZZ
 simp -implicitDefEqProofs[s4,s3,hn9]
 refine wdone_ok xp fun h5 e5=>?_
 by_cases h7:k=7
 ·subst h7
  rw[hd.2 rfl]
  simp -implicitDefEqProofs[s3,s4]
  unfold qgbZ
  have o5:Only non T4 h4 T4 h5:=Only.of_ext o4.wf e5
  have x5:=x4.ext o4.wf e5
  have xp:=x5.ps 0 _ hP
  simp -implicitDefEqProofs[s3,s4]
  refine wplaced_ok xp ?_
  rw[aw15_end.1]
  simp -implicitDefEqProofs[s3]
  refine wdone_ok xp fun h6 e6=>?_
  rw[hd.2 rfl]
  simp -implicitDefEqProofs[s1]
  have x6:=x5.ext o5.wf e6
  refine hstored_ok (o5.wf.ext e6) x6.hl k4.hs (by omega) fun h7 e7=>?_
  rw[hH,aw15_end.2]
  simp -implicitDefEqProofs
  exact hk _ (e1.trans ((ext_of_only (o0.trans o4) UW.nil).trans (e5.trans (e6.trans e7))))
 ·have hdf:(aw15 k).1.done=false:=by
   cases hh:(aw15 k).1.done with
   | false=>rfl
   | true=>exact absurd (hd.1 hh) h7
  rw[hdf]
  simp -implicitDefEqProofs
  unfold qfYZ
  simp -implicitDefEqProofs only[s3,s1,s4]
  have x5:=x4.ext o4.wf e5
  refine wdstep_w (i:=0) (A:=fun _=>p) k (o4.wf.ext e5) x5 k4 (by omega) hP fun T6 h6 o6 x6=>?_
  unfold qfXZ
  simp -implicitDefEqProofs[s1,s3,s4,hw,-Int.natCast_add]
  have hst:W.step 0 k=⟨((aw15 k).1.step (aw15 k).2 k).2,bset W.ps 0 (some (.w ((aw15 k).1.step (aw15 k).2 k).1)),bset W.ms 0 (W.ms 0)⟩:=by
   simp -implicitDefEqProofs only[Wd.step,hP,PR.step,hH]
  refine⟨⟨T6,k+1,_,_,(o4.up (Only.of_ext (U:=non) o4.wf e5) non_up).trans o6,x6,k4.step (by omega) hP k,by rw[hst]; rfl,by rw[hst]; rfl,rfl,by omega⟩,by omega⟩
end Go.Proofs.YtcnphhhcknhhaaaGreat
namespace Go.Proofs.YtcnphhhcknhhaaaGreat
open Go Go.Den Go.MapKept
set_option linter.unusedSimpArgs false
set_option linter.unusedVariables false
set_option maxRecDepth 20000
structure SeL (T5:Tags)(h5:Heap)(q bt ba be hp w k:Nat)(e:Int)(n:Nat)(h':Heap):Prop where
 o:∃ T',Only UW T5 h5 T' h'∧∃ (p:WP) (H:Hall) (told:Int) (a:Tm),SeI w k e n p H told a∧SeX T' h' q bt ba be p told a e∧HallR T' h' [1] hp H
theorem SeI.en {w k:Nat}{e:Int}{n:Nat}{p:WP}{H:Hall}{told:Int}{a:Tm}(x:SeI w k e n p H told a):p.enabled H=decide (n<7):=by
 have at_:=x.at_
 unfold WP.enabled WP.done
 by_cases h7:n<7
 ·have h1:¬ 7≤p.at_:=by omega
  simp -implicitDefEqProofs[h1,h7]
  by_cases h0:n=0
  ·right; rw[x.s,x.wh,if_pos (.inl h0)]
  ·left
   unfold WP.waits
   rw[if_pos (.inr (by omega))]; omega
 ·have h1:7≤p.at_:=by omega
  simp -implicitDefEqProofs[h1,h7]
theorem SeI.wg {w k:Nat}{e:Int}{n:Nat}{p:WP}{H:Hall}{told:Int}{a:Tm}(x:SeI w k e n p H told a)(hk:k<3)(hw:w≤9):WG H.n p :=
 ⟨by rw[x.s,x.hn]; exact hk,by rw[x.ww]; omega,by have:=x.at_; omega,x.tu,fun o h=>by rw[x.kk] at h; cases h⟩
variable {K:KTy}
set_option maxHeartbeats 8000000 in
theorem writeSections_ok {a b e c:Int}(ha:0≤a∧a≤255)(hb:0≤b∧b≤255)(he:0≤e∧e≤255)(hc:0≤c∧c≤255){h:Heap}(hk:∀ h',Ext h h'→K (.bool true) h') :
  callM P qbJZ #[.int .u8 a,.int .u8 b,.int .u8 e,.int .u8 c] h K:=by
 apply qiaZ
 unfold qcaZ
 refine nw_intro fun be h1 n1 e1 c1=>?_
 simp -implicitDefEqProofs only[cells_i] at c1
 refine awake15_ok fun h2 e2=>?_
 unfold qehZ
 simp -implicitDefEqProofs
 unfold qegZ
 refine small_ok fun h3 e3=>?_
 have c1:=(e2.trans e3) _ _ c1
 have e03:=(e1.trans e2).trans e3
 unfold qefZ
 rw[zcCfg]
 refine nw_st rfl rfl (by simp[cfgC]) fun v8 h4 n4 e4 c4=>?_
 simp -implicitDefEqProofs only[cells_agg] at c4
 have c1:=e4 _ _ c1
 have e04:=e03.trans e4
 have og:ldV (some (some 7)) (ptr v8) h4=some (.agg (cfgC small).toArray):=by simp[ld_at c4,cfgC]
 simp -implicitDefEqProofs only[og,ov_s]
 refine hallNew_ok small smallW (wf_nil h4) g1 (fun hr T5 h5 hp o5 y5=>?_) (fun hr=>by simp[rightB,small] at hr)
 have hn3:small.stripes.toNat=3:=by decide
 rw[hn3] at y5
 have enil:binV .eql 4 true (ptr hp) (.pointer none)=some (.bool false):=rfl
 unfold qeeZ
 simp -implicitDefEqProofs[enil]
 have cb:=o5.k.at c4 rfl (by simp[pre])
 have ce:=o5.k.at c1 rfl (by simp[pre])
 have os:cel h5 v8 0=some (.int .i64 3):=by simp[cel_of cb.1,cfgC,small]
 unfold qedZ
 have kb':IntKind.i64.wrap b=b:=by rw[wrap64_id (by omega) (by omega)]
 have ka':IntKind.i64.wrap a=a:=by rw[wrap64_id (by omega) (by omega)]
 obtain⟨k,hkk⟩:∃ k:Nat,b.tmod 3=(k:Int):=⟨(b.tmod 3).toNat,by have:=Int.tmod_nonneg 3 hb.1; omega⟩
 obtain⟨w,hww⟩:∃ w:Nat,a.tmod 10=(w:Int):=⟨(a.tmod 10).toNat,by have:=Int.tmod_nonneg 10 ha.1; omega⟩
 have k3:k<3:=by have:=Int.tmod_lt_of_pos b (show (0:Int)<3 by omega); omega
 have w9:w≤9:=by have:=Int.tmod_lt_of_pos a (show (0:Int)<10 by omega); omega
 simp -implicitDefEqProofs[os,kb',ka',hkk,hww]
 rw[zcInt]
 refine nw_tag o5.wf [2,1] fun bt T6 h6 n6 o6 t6 c6=>?_
 rw[stm_at (n:=1) (v:=.int .i64 0) c6 rfl (by simp) rfl]
 have o6':=o6.own (o':=.cells (over #[.int .i64 0] 0 (Value.int .i64 0).cells.toList) qiZ (0,0)) n6 c6
 have c6':upd h6 bt (.cells (over #[.int .i64 0] 0 (Value.int .i64 0).cells.toList) qiZ (0,0)) bt=some (.cells #[.int .i64 0] qiZ (0,0)):=by rw[upd_same']; rfl
 generalize upd h6 bt (.cells (over #[.int .i64 0] 0 (Value.int .i64 0).cells.toList) qiZ (0,0))=h6' at *
 rw[zcTime]
 refine nw_tag o6'.wf [2,2] fun ba T7 h7 n7 o7 t7 c7=>?_
 have b7:=o7.k.at c6' t6 (not_non _)
 refine section_ok w k .sweep qpZ _ _ fun q h8 n8 e8 c8=>?_
 have o8:Only non T7 h7 (tset T7 q [2,0]) h8:=Only.enew [2,0] o7.wf e8 n8 c8
 have b8:=o8.k.at b7.1 b7.2 (not_non _)
 have a8:=o8.k.at c7 t7 (not_non _)
 have o58:Only non T5 h5 (tset T7 q [2,0]) h8:=(o6'.trans o7).trans o8
 have e8':=o58.k.at ce.1 ce.2 (not_non _)
 have x8:SeX (tset T7 q [2,0]) h8 q bt ba be (sect w k .sweep) 0 ⟨0,0,false⟩ e:=⟨c8,tset_same _ _ _,b8.1,b8.2,a8.1,a8.2,fz_at e8'.1 e8'.2⟩
 have y8:=y5.up o58 (Off.non _) (not_non _)
 have z8:SeL T5 h5 q bt ba be hp w k e 0 h8:=⟨_,o58.mono non_up,_,_,_,_,SeI.init e k3,x8,y8⟩
 have kE:∀ {T' h'},Only UW T5 h5 T' h'→∀ {h''},Ext h' h''→K (.bool true) h'':=fun {T' h'} o {h''} ee=>hk _ (e04.trans ((ext_of_only ((o5.mono fun _ h=>Or.inl h:Only UW (fun _=>[]) h4 T5 h5).trans o) UW.nil).trans ee))
 obtain⟨n0,rfl⟩:∃ n0:Nat,c=n0:=⟨c.toNat,by omega⟩
 have kc':IntKind.i64.wrap (n0:Int)=n0:=by rw[wrap64_id (by omega) (by omega)]
 unfold qecZ
 rw[seqM_eq]
 unfold qebZ
 refine loop_on [3,6,10,12,13,14,15] (fun s h'=>∃ n:Nat,SeL T5 h5 q bt ba be hp w k e n h'∧s 16 = .int .i64 n∧n≤n0) (fun s _=>(n0-num (s 16)).toNat) ⟨0,z8,by simp,by omega⟩ ?_
 rintro s h9 hf ⟨n,⟨T9,o9,p,H,told,a9,I,X,Y⟩,s16,hn⟩
 have s3:s 3 = .int .u8 n0:=by simpa using hf 3 (by simp)
 have s6:s 6=ptr be:=by simpa using hf 6 (by simp)
 have s10:s 10=ptr hp:=by simpa using hf 10 (by simp)
 have s12:s 12 = .int .i64 k:=by simpa [hkk] using hf 12 (by simp)
 have s13:s 13=ptr bt:=by simpa using hf 13 (by simp)
 have s14:s 14=ptr ba:=by simpa using hf 14 (by simp)
 have s15:s 15=ptr q:=by simpa using hf 15 (by simp)
 unfold qeaZ
 simp -implicitDefEqProofs[s3,s16,kc']
 have hlt:p.s<H.n:=by rw[I.s,I.hn]; exact k3
 refine⟨fun hc=>?_,fun hc=>?_⟩
 ·have hw1:IntKind.i64.wrap ((n:Int)+1)=(n+1:Nat):=by rw[wrap64_id (by omega) (by omega)]; omega
  have hw10:IntKind.i64.wrap (10+(n:Int))=10+n:=by rw[wrap64_id (by omega) (by omega)]
  unfold qdZZ
  simp -implicitDefEqProofs[s10,s15,s16,hw10]
  refine sestep_ok (m:=n) (10+n) o9.wf X Y I.hs (by omega) (I.wg k3 w9) (by rw[I.kk]; rfl) (fun h3=>?_) (by omega) fun T10 h10 o10 ht hf'=>?_
  ·have:=I.at_; rw[I.to,if_neg (by omega)]
  have en:=I.en
  have z10:SeL T5 h5 q bt ba be hp w k e (n+1) h10:=by
   by_cases h7:n<7
   ·rw[decide_eq_true h7] at en
    obtain⟨x10,y10⟩:=ht en
    exact⟨T10,o9.trans o10,_,_,_,_,I.step h7 k3 w9,x10,y10⟩
   ·rw[decide_eq_false h7] at en
    obtain⟨x10,y10⟩:=hf' en
    exact⟨T10,o9.trans o10,_,_,_,_,I.late (by omega),x10,y10⟩
  unfold qdCZ
  simp -implicitDefEqProofs[s3,s6,s10,s12,s13,s14,s15,s16,hw1,-Int.natCast_add]
  exact⟨⟨n+1,z10,rfl,by omega⟩,by omega⟩
 have hnn:n=n0:=by omega
 subst hnn
 unfold qdHZ
 simp -implicitDefEqProofs[s3,kc']
 have at_:=I.at_
 refine⟨fun h7=>?_,fun h7=>?_⟩
 ·have h7:n<7:=by omega
  have hd:p.done=false:=by unfold WP.done; simp; omega
  unfold qdEZ
  simp -implicitDefEqProofs[s15]
  refine wdone_at X.hp fun h10 e10=>?_
  rw[hd]
  have x10:=X.up o9.wf e10
  have o10:Only non T9 h9 T9 h10:=Only.of_ext o9.wf e10
  have y10:=Y.up o10 (Off.non _) (not_non _)
  unfold qdDZ
  simp -implicitDefEqProofs[s15]
  refine wreply_at x10 o10.wf fun h11 e11=>?_
  have x11:=x10.up o10.wf e11
  have o11:Only non T9 h10 T9 h11:=Only.of_ext o10.wf e11
  have y11:=y10.up o11 (Off.non _) (not_non _)
  have ct:=x11.ht
  have cp:=x11.hp
  rw[hd]
  simp -implicitDefEqProofs[repC,s13,ld_at ct,cel_of ct,stm_at ct,stm_upd,ld_same,cel_same,over,fdV,kc']
  have to:=I.to
  have pl:=I.pl
  have wh:=I.wh
  have hq1:(decide (told=1) == decide ((3:Int)<n))=true:=by
   by_cases h3:3<n
   ·rw[to,if_pos h3]; simp; omega
   ·rw[to,if_neg h3]; simp; omega
  have hq2:(decide (p.placed=12) == decide ((2:Int)<n))=true:=by
   by_cases h3:2<n
   ·rw[pl,if_pos h3]; simp; omega
   ·rw[pl,if_neg h3]; simp; omega
  have hq3:(decide ((H.ss p.s).who=0) == decide ((n:Int)=0))=true:=by
   rw[I.s,wh]
   by_cases h3:n=0
   ·rw[if_pos (.inl h3)]; simp[h3]
   ·rw[if_neg (by omega)]; simp; omega
  simp -implicitDefEqProofs[hq1]
  apply qhlZ
  unfold qdpZ
  simp -implicitDefEqProofs only[wpC] at cp
  simp -implicitDefEqProofs[ld_at cp,cel_of cp,stm_at cp,stm_upd,ld_same,cel_same,over,hq2,s10,s12]
  rw[← I.s]
  refine free_ok y11 hlt fun h12 e12=>?_
  exact kb (kE o9 ((e10.trans e11).trans e12)) (by simpa using hq3)
 ·have h7:7≤n:=by omega
  have hd:p.done=true:=by unfold WP.done; simp; omega
  unfold qdGZ
  simp -implicitDefEqProofs[s15]
  refine wdone_at X.hp fun h10 e10=>?_
  rw[hd]
  have x10:=X.up o9.wf e10
  have o10:Only non T9 h9 T9 h10:=Only.of_ext o9.wf e10
  have y10:=Y.up o10 (Off.non _) (not_non _)
  unfold qdFZ
  have ce10:=(fz_get x10.he).1
  have ke:IntKind.i64.wrap e=e:=by rw[wrap64_id (by omega) (by omega)]
  simp -implicitDefEqProofs[s15,s6,ld_at ce10,cel_of ce10,stm_at ce10,stm_upd,ld_same,cel_same,over,ke]
  refine wreply_at x10 o10.wf fun h11 e11=>?_
  have x11:=x10.up o10.wf e11
  have o11:Only non T9 h10 T9 h11:=Only.of_ext o10.wf e11
  have y11:=y10.up o11 (Off.non _) (not_non _)
  have ct:=x11.ht
  have ca:=x11.ha
  have ce11:=(fz_get x11.he).1
  have er:=I.er
  rw[if_pos (by omega)] at er
  have to:=I.to
  rw[if_pos (by omega)] at to
  have aq:=I.aq (by omega)
  rw[hd]
  simp -implicitDefEqProofs only[tmC,aq,to] at ca ct
  simp -implicitDefEqProofs[repC,er,s6,s13,s14,s10,s12,ld_at ct,cel_of ct,stm_at ct,ld_at ca,cel_of ca,stm_at ca,ld_at ce11,cel_of ce11,stm_at ce11,stm_upd,ld_same,cel_same,over,fdV]
  have w0:(H.ss p.s).who=0:=by rw[I.s,I.wh,if_pos (.inr h7)]
  have hqt:H.quiet p.s=true:=by
   unfold Hall.quiet
   rw[I.s,I.v (by omega),I.bk.1,I.bk.2]; rfl
  rw[← I.s]
  refine free_ok y11 hlt fun h12 e12=>?_
  simp -implicitDefEqProofs[w0]
  have o12:Only non T9 h11 T9 h12:=Only.of_ext o11.wf e12
  refine hquiet_ok o12.wf (y11.up o12 (Off.non _) (not_non _)) I.hs (by omega) hlt fun h13 e13=>?_
  simp -implicitDefEqProofs[hqt]
  exact kE o9 (((e10.trans e11).trans e12).trans e13)
end Go.Proofs.YtcnphhhcknhhaaaGreat
namespace Go.Proofs.YtcnphhhcknhhaaaGreat
open Go Go.Den
variable {K:KTy}
theorem writeSections_row {a b e c:Int}{h:Heap}(ha:0≤a∧a≤255)(hb:0≤b∧b≤255)(he:0≤e∧e≤255)(hc:0≤c∧c≤255)(hk:∀ h',Ext h h'→K (.bool true) h') :
  callM P qbJZ #[.int .u8 a,.int .u8 b,.int .u8 e,.int .u8 c] h K:=writeSections_ok ha hb he hc hk
end Go.Proofs.YtcnphhhcknhhaaaGreat
