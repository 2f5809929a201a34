/- Words, plain data and contracts of the Go functions that this claim reaches. No condition beyond the hypotheses that each theorem states. -/
import Derived.Test.YtmbningljbcpkaaGreatWpl5
set_option linter.unusedSimpArgs false
set_option linter.unusedVariables false
namespace Go.Proofs.YtmbningljbcpkaaGreat
open Go Go.Den Go.MapKept
set_option linter.unusedSimpArgs false
set_option linter.unusedVariables false
set_option maxRecDepth 20000
theorem allX_at {b:Book}{Lv:List (List Value)}{F:Heap}(l2:El 4 EntR F Lv (b.map (·.2))){i:Nat}(hi:i<(allX b Lv).length):∃ (hb:i<b.length) (v:Value),(allX b Lv)[i]=#[.string b[i].1,.agg (v::presC b[i].2.told).toArray]∧Sl 4 SessR F v b[i].2.ss∧Sn v:=by
 have hb:i<b.length:=by simpa [allX] using hi
 have hL:i<Lv.length:=by rw[l2.len]; simpa using hb
 have he:=l2.el i hL (by simpa using hb)
 obtain⟨v,h1,h2,h3⟩:=he
 simp -implicitDefEqProofs only[List.getElem_map] at h1 h2
 refine⟨hb,v,?_,h2,h3⟩
 simp -implicitDefEqProofs only[allX,List.getElem_map,List.getElem_range]
 have e1:b.getD i (⟨#[]⟩,ent0)=b[i]:=by rw[List.getD_eq_getElem?_getD,List.getElem?_eq_getElem hb]; rfl
 have e2:Lv.getD i []=Lv[i]:=by rw[List.getD_eq_getElem?_getD,List.getElem?_eq_getElem hL]; rfl
 rw[e1,e2,h1]
def StoJ (hB:Heap)(v3:Nat)(b:Book)(i:Nat)(h':Heap):Prop:=Ext (wo hB [v3]) h'∧h' v3=some (.cells #[.int .i64 (stoTo b i)] qsZ (0,0))
def StoC (hB F:Heap)(v3:Nat)(b:Book)(l i:Nat)(s2:Env)(h':Heap):Prop:=StoJ hB v3 b i h'∧s2 3=ptr v3∧∃ (hi:i<b.length) (xb:Nat) (sv:Value),s2 5=ptr xb∧xb≠l∧h' xb=some (.cells (sv::presC b[i].2.told).toArray qjZ (0,0))∧Sl 4 SessR F sv b[i].2.ss
variable {K:KTy}
theorem stored_ok (b:Book)(hl:b.length≤100000)(hn:∀ y∈b,y.2.ss.length≤900000){F h:Heap}(eF:Ext F h){kw vw:Value}(x:BookR F kw vw b)(hk:∀ h',Ext h h'→K (.int .i64 (storedB b)) h'):callM P qcEZ #[.agg #[kw,vw]] h K:=by
 apply quPZ
 unfold qpRZ
 refine nw_agg fun v1 h1 n1 e1 c1=>?_
 rw[zcInt]
 refine nw_intro fun v3 h3 n3 e3 c3=>?_
 have c1:=e3 _ _ c1
 have e0:=e1.trans e3
 have n3':h v3=none:=fresh_of e1 n3
 have o1:=x.1.one
 have o2:=x.2.1.one
 have ec3:upd h3 v3 (.cells #[.int .i64 0] qsZ (0,0))=h3:=(upd_of (fun _ _=>rfl) c3).symm
 simp -implicitDefEqProofs[ld_at c3,cel_of c3,stm_at c3,stm_upd,ld_same,cel_same,over]
 rw[ec3,seqM_eq]
 unfold qqNZ
 simp -implicitDefEqProofs[ld_at c1,cel_of c1,stm_at c1,stm_upd,ld_same,cel_same,over]
 refine all_ok b (eF.trans e0) x fun pA hB nA eA cA=>?_
 have nA3:v3≠pA:=ne_fresh c3 nA
 have c3:=eA _ _ c3
 have e0B:=e0.trans eA
 obtain⟨Lv,l1,l2⟩:=x.2.1.els EntR.one
 simp -implicitDefEqProofs only[List.length_map] at l1
 have hF3:F v3=none:=by
  cases hh:F v3 with
  | none=>rfl
  | some o=>rw[eF _ _ hh] at n3'; cases n3'
 have F1:Ext F (wo hB [v3]):=wo_ext (eF.trans e0B) (by simpa using hF3)
 have hsb:stoTo b b.length=storedB b:=by simp[stoTo]
 have hbound:storedB b≤90000000000:=Nat.le_trans (stored_le hl hn) (by decide)
 unfold qqMZ
 refine rf_go good mixed rfl (by kernel_rfl) (all_it b (hA:=wo hB [v3]) (p:=pA) (kw:=kw) (vw:=vw) (Lv:=Lv) (by rw[wo_out (by simpa using Ne.symm nA3)]; exact cA) (x.ext F1) (l1.ext F1) l2.size (by simpa using l2.len))
  (fun l b' i h'=>StoJ hB v3 b i h') (fun _ _ _ _=>False) (fun l b' i s2 h'=>StoC hB F v3 b l i s2 h') ?_ ?_ ?_ (fun _ _ _ _ _ _ _ h _=>h) ?_ ?_ ?_ ?_ ?_ (fun _ _ _ _ _ _ _ h=>h.elim) (fun _ _ _ _ _ _ _ _ h=>h.elim)
 ·intro l b' hl' hb'
  exact⟨fun q o hq=>(wo_get hq).2,by simpa [stoTo,storedB] using c3⟩
 ·intro l b' i h' J; exact J.1
 ·intro l b' hl' hb' i h' h'' J k
  exact⟨wo_keep J.1 hl' k,k _ _ J.2 (fun hh=>by cases hh; rw[hl'] at c3; cases c3)⟩
 ·rintro l b' i s2 ha hb hl' hb' ⟨J,s3,hi,xb,sv,s5,nx,cx,sx⟩ k
  exact⟨⟨wo_keep J.1 hl' k,k _ _ J.2 (fun hh=>by cases hh; rw[hl'] at c3; cases c3)⟩,s3,hi,xb,sv,s5,nx,k _ _ cx (fun hh=>nx (by cases hh; rfl)),sx⟩
 ·intro i hi; simp[allX]
 ·rintro i hi l b' h2 hl' hb' ⟨ol,hol⟩ ⟨ob,hob⟩ J
  rw[quvZ]
  unfold qqtZ
  rw[zcEnt]
  obtain⟨hib,sv,hx,hsv,hsn⟩:=allX_at l2 hi
  rw[hx]
  have hso:=hsv.one
  simp -implicitDefEqProofs
  refine nw_st rfl (by simp[presC]) (by simp[presC,hso.1]) fun xb h4 n4 e4 c4=>?_
  refine⟨⟨⟨J.1.trans e4,e4 _ _ J.2⟩,by simp,hib,xb,sv,by simp,fun hh=>(by subst hh; rw[hol] at n4; cases n4),?_,hsv⟩,by rw[hol,e4 _ _ hol],by rw[hob,e4 _ _ hob]⟩
  simpa using c4
 ·rintro i hi l b' s2 h3 hl' hb' ⟨ol,hol⟩ ⟨ob,hob⟩ ⟨J,s3,hib,xb,sv,s5,nx,cx,sx⟩
  rw[quwZ]
  unfold qquZ
  have cv:=J.2
  have hlen:=sx.len
  simp -implicitDefEqProofs only[presC] at cx
  have hw:IntKind.i64.wrap ((stoTo b i:Int)+b[i].2.ss.length)=(stoTo b (i+1):Nat):=by
   have h1:=stoTo_le (b:=b) (i+1)
   rw[stoTo_s hib] at h1 ⊢
   rw[wrap64_id (by omega) (by omega)]; omega
  have hl3:l≠v3:=fun hh=>by subst hh; rw[hl'] at c3; cases c3
  have hb3:b'≠v3:=fun hh=>by subst hh; rw[hb'] at c3; cases c3
  simp -implicitDefEqProofs[s3,s5,ld_at cv,cel_of cv,stm_at cv,ld_at cx,cel_of cx,stm_at cx,stm_upd,ld_same,cel_same,over,hlen,hw]
  refine⟨by rw[upd_ne hl3],by rw[upd_ne hb3],wo_upd J.1 (by simp),upd_same' _ _ _⟩
 ·intro l b' h' hl' hlb hb' hd J
  have hlx:(allX b Lv).length=b.length:=by simp[allX]
  rw[hlx] at J
  have cv:=J.2
  rw[hsb] at cv
  have nb3:v3≠b':=fun hh=>by subst hh; rw[hb'] at c3; cases c3
  simp -implicitDefEqProofs only[blkM_n,thenM_n]
  simp -implicitDefEqProofs[ld_at cv,cel_of cv,stm_at cv,stm_upd,ld_same,cel_same,over,hd,ld_skip nb3,cel_skip nb3]
  refine hk _ ?_
  exact ext_upd (o:=.deferred none) (fresh_of e0B hb') (ext_wo e0B (by simpa using n3') J.1)
theorem zcStripe:zc P qKZ=some #[.int .i64 0,.int .u64 0,.int .u64 0,.slice none 0 0,.slice none 0 0,.slice none 0 0,.slice none 0 0,.pointer none]:=by kernel_rfl
theorem hstored_ok {T : Tags} {h : Heap} {g : Tag} {p m : Nat} {H : Hall} (w : Wf T h) (x : HallR T h g p H) (hs : HS m H) (hm : m ≤ 100000) (hk : ∀ h', Ext h h' → K (.int .i64 H.stored) h') : callM P qeHZ #[ptr p] h K := by
  apply qtqZ
  unfold qjwZ
  rw [seqM_eq]
  unfold qneZ
  obtain ⟨sv, av, Y, x⟩ := x
  have cp := x.hp
  simp -implicitDefEqProofs only [hallC] at cp
  have hlen := x.st.len
  have h8 := hs.n8.2
  have hmm : m * m ≤ 10000000000 := Nat.le_trans (Nat.mul_le_mul hm hm) (by decide)
  have hst : ∀ i, i ≤ H.n → stoH H i ≤ 80000000000 := fun i hi => Nat.le_trans (stoH_le hs i hi) (Nat.le_trans (Nat.mul_le_mul (Nat.le_trans hi h8) hmm) (by decide))
  simp -implicitDefEqProofs [ld_at cp, cel_of cp, stm_at cp, stm_upd, ld_same, cel_same, over, hlen]
  refine loop_on [9, 10] (fun s h' => Ext h h' ∧ ∃ i : Nat, i ≤ H.n ∧ s 11 = .int .i64 i ∧ s 3 = .int .i64 (stoH H i)) (fun s _ => (H.n - num (s 11)).toNat) ⟨Ext.refl h, 0, by omega, rfl, rfl⟩ ?_
  rintro s h1 hf ⟨e1, i, hi, s11, s3⟩
  have s9 : s 9 = sv := by simpa using hf 9 (by simp)
  have s10 : s 10 = .int .i64 H.n := by simpa using hf 10 (by simp)
  unfold qndZ
  simp -implicitDefEqProofs only [s11, s10, bin_lss, ov_s, cd_b]
  refine ⟨fun hc => ?_, fun hc => ?_⟩
  rotate_left
  · have : i = H.n := by have : ¬ ((i : Int) < H.n) := by simpa using hc
                         omega
    subst this
    simp -implicitDefEqProofs [s3, stoH_all]
    exact hk _ e1
  have hlt : i < H.n := by have : ((i : Int) < H.n) := by simpa using hc
                           omega
  have hw : IntKind.i64.wrap ((i : Int) + 1) = (i + 1 : Nat) := by rw [wrap64_id (by omega) (by omega)]; omega
  have hw2 : IntKind.i64.wrap ((stoH H i : Int) + storedB (H.ss i).book) = (stoH H (i + 1) : Nat) := by
    have h1 := hst (i + 1) (by omega)
    rw [stoH_s] at h1 ⊢
    rw [wrap64_id (by omega) (by omega)]; omega
  have o1 : Only non T h T h1 := Only.of_ext w e1
  have x1 := x.own o1.k
  obtain ⟨b, ob, rb, hb1, tb, ia, l1, l2, l3, l4, l5, l6⟩ := x1.lds (s := i) (k := .i64) hlt
  have hsr := x1.sr i hlt
  have st := hs.st i hlt
  have u1 := hsr.1.1.one
  have u2 := hsr.1.2.1.one
  have u3 := hsr.2.1.1.one
  have u4 := hsr.2.1.2.1.one
  unfold qncZ
  rw [s9, s11, ia, zcStripe]
  simp -implicitDefEqProofs only [strC] at l6
  simp -implicitDefEqProofs only [ov_s, l6]
  refine nw_st (by simp) (by simp) (by simp [u1.1, u2.1, u3.1, u4.1]) fun yb h2 n2 e2 c2 => ?_
  simp -implicitDefEqProofs only [cells_agg] at c2
  simp -implicitDefEqProofs [ld_at c2, cel_of c2, stm_at c2, stm_upd, ld_same, cel_same, over]
  refine stored_ok _ (by have := st.bk.bl; omega) (fun y hy => by have := st.bk.bn y hy; omega) ((fz_ext T h1).trans e2) hsr.2.1 fun h3 e3 => ?_
  unfold qnbZ
  simp -implicitDefEqProofs [s3, s9, s10, s11, hw, hw2, -Int.natCast_add]
  exact ⟨⟨(e1.trans e2).trans e3, i + 1, by omega, rfl, rfl⟩, by omega⟩
end Go.Proofs.YtmbningljbcpkaaGreat
namespace Go.Proofs.YtmbningljbcpkaaGreat
open Go Go.Den Go.MapKept
set_option linter.unusedSimpArgs false
set_option linter.unusedVariables false
set_option maxRecDepth 20000
def small:Cfg:=⟨3,2,16,4,1,100,0⟩
theorem bdSmall:bdV (binf P qaoZ) [(0,.int .i64 3),(1,.int .i64 2),(2,.int .i64 16),(3,.int .i64 4),(4,.int .i64 1),(5,.int .u64 100)]=some (.agg (cfgC small).toArray):=by kernel_rfl
theorem smallW:CfgW small:=by constructor<;>simp[small,I64,U64]
variable {K:KTy}
theorem small_ok {h:Heap}(hk:∀ h',Ext h h'→K (.agg (cfgC small).toArray) h'):callM P qfFZ #[] h K:=by
 apply qseZ
 unfold qhIZ
 rw[zcCfg,bdSmall]
 simp -implicitDefEqProofs only[nwM_s]
 intro v1 n1
 simp -implicitDefEqProofs[stm_upd,ld_same,cel_same,over,cfgC]
 exact hk _ (Ext.upd n1 _)
theorem zcOp:zc P qaiZ=some #[.int .i64 0,.string ⟨#[]⟩,.int .i64 0,.int .i64 0,.int .i64 0,.int .u64 0,.slice none 0 0]:=by kernel_rfl
end Go.Proofs.YtmbningljbcpkaaGreat
namespace Go.Proofs.YtmbningljbcpkaaGreat
open Go Go.Den Go.MapKept
set_option linter.unusedSimpArgs false
set_option linter.unusedVariables false
set_option maxRecDepth 20000
theorem g1:Gd [1]:=⟨0,[],rfl⟩
theorem g2:Gd [2]:=⟨1,[],rfl⟩
end Go.Proofs.YtmbningljbcpkaaGreat
namespace Go.Proofs.YtmbningljbcpkaaGreat
open Go Go.Den Go.MapKept
set_option linter.unusedSimpArgs false
set_option linter.unusedVariables false
set_option maxRecDepth 20000
def wrOp (x:OpD):OpD:={ x with kind:=1+x.kind % 3 }
theorem wrOp_w {x:OpD}(w:OpW x):OpW (wrOp x):=⟨(by show I64 (1+x.kind % 3); unfold I64; omega),w.i2,w.i3,w.i4,w.u1,w.s1⟩
variable {K:KTy}
theorem writing15_ok (x:OpD){h:Heap}{v:Value}(ho:One v)(hk:∀ h',Ext h h'→K (.agg (opC (wrOp x) v).toArray) h'):callM P qctZ #[.agg (opC x v).toArray] h K:=by
 apply qrjZ
 unfold qfxZ
 refine nw_agg fun v1 h1 n1 e1 c1=>?_
 rw[zcOp]
 refine nw_intro fun v3 h3 n3 e3 c3=>?_
 have ne:=ne_fresh c1 n3
 have c1:=e3 _ _ c1
 simp -implicitDefEqProofs only[opC] at c1
 have m1:=tmod_rng x.kind (show (0:Int)<3 by omega)
 have m2:=Int.mul_tdiv_add_tmod x.kind 3
 have e2:(x.kind.tmod 3+3).tmod 3=x.kind % 3:=by rw[tmod_pos (by omega)]; omega
 have w1:IntKind.i64.wrap (x.kind.tmod 3+3)=x.kind.tmod 3+3:=wrap64_id (by omega) (by omega)
 have w2:IntKind.i64.wrap (1+x.kind % 3)=1+x.kind % 3:=wrap64_id (by omega) (by omega)
 simp -implicitDefEqProofs[ld_at c1,cel_of c1,stm_at c1,ld_at c3,cel_of c3,stm_at c3,stm_skip ne,stm_skip (Ne.symm ne),ld_skip ne,ld_skip (Ne.symm ne),cel_skip ne,cel_skip (Ne.symm ne),stm_upd,ld_same,cel_same,over,w1,e2,w2,ho.1,ho.2]
 refine kv (hk _ ?_) rfl
 exact ext_upd n1 (ext_upd (fresh_of e1 n3) (e1.trans e3))
end Go.Proofs.YtmbningljbcpkaaGreat
namespace Go.Proofs.YtmbningljbcpkaaGreat
open Go Go.Den Go.MapKept
set_option linter.unusedSimpArgs false
set_option linter.unusedVariables false
set_option maxRecDepth 20000
variable {K:KTy}
theorem now_ok {T:Tags}{h:Heap}{g:Tag}{p:Nat}{H:Hall}(x:HallR T h g p H)(hk:∀ h',Ext h h'→K (.agg (tmC H.t).toArray) h'):callM P qlHZ #[ptr p] h K:=by
 apply quzZ
 unfold qnaZ
 rw[zcTime]
 refine nw_intro fun v1 h1 n1 e1 c1=>?_
 obtain⟨sv,av,Y,x⟩:=x
 have cp:=e1 _ _ x.hp
 simp -implicitDefEqProofs only[hallC] at cp
 simp -implicitDefEqProofs[ld_at c1,cel_of c1,stm_at c1,ld_at cp,cel_of cp,stm_at cp,stm_upd,ld_same,cel_same,over]
 exact kv (hk _ (ext_upd n1 e1)) (by simp[tmC])
theorem ext_of_only {U:Tag→Prop}{h:Heap}{T':Tags}{h':Heap}(o:Only U (fun _=>[]) h T' h')(u:¬ U []):Ext h h':=by
 have:=(o.ext u).trans (fz_ext _ _)
 rw[fz_nil] at this; exact this
def c2:Cfg:=⟨2,2,16,4,1,100,0⟩
end Go.Proofs.YtmbningljbcpkaaGreat
namespace Go.Den
open Go
set_option linter.unusedVariables false
set_option linter.unusedSimpArgs false
structure Idle (p:PR)(m:Mine)(c:Cfg):Prop where
 h:∀ s,¬ p.holds s
 e:p.em m c=m
theorem Idle.w {p:WP}(m:Mine)(c:Cfg)(h:p.at_=0):Idle (.w p) m c:=⟨fun s hs=>by have:=hs.2.1; omega,rfl⟩
def wd0 (c:Cfg)(n:Nat):Wd:=⟨hall0 c n,fun _=>none,fun _=>[]⟩
theorem LI.init {c:Cfg}{n:Nat}:LI (wd0 c n) (tbl0 c n):=by
 refine⟨rfl,rfl,rfl,fun s hs=>.inl ⟨rfl,rfl,rfl,rfl⟩,fun i p s _ h=>by simp[wd0] at h,fun i p h=>by simp[wd0] at h,⟨fun i hi=>?_,fun s i u hs hi hu=>?_⟩⟩
 ·have:allWs (tbl0 c n) i=[]:=by
   unfold allWs
   rw[List.flatMap_eq_nil_iff]
   intro s _
   rfl
  rw[this]; exact List.Perm.refl _
 ·simp[tbl0,feed0,wsOf] at hu
theorem TS.init {c:Cfg}(cw:CfgW c)(hr:rightB c=true){n:Nat}(hn:(n:Int)=c.stripes):TS 0 (tbl0 c n):=(HS.new cw hr hn).tbl
theorem LI.start {W:Wd}{M:Tbl}(x:LI W M){i:Nat}{p:PR}(hp:PA W.H.n i W.H.c p)(h0:Idle p (W.ms i) W.H.c)(hi:∀ q,W.ps i=some q→Idle q (W.ms i) W.H.c):LI { W with ps:=bset W.ps i (some p) } M:=by
 have hP:∀ j,bset W.ps i (some p) j=if j=i then some p else W.ps j:=fun j=>rfl
 refine⟨x.t,x.c,x.n,fun s hs=>?_,fun j q s hs hq hh=>?_,fun j q hq=>?_,?_⟩
 ·rcases x.st s hs with h | ⟨j,q,h1,h2,h3,h4⟩
  ·exact .inl h
  ·have hji:j≠i:=fun h=>by subst h; exact (hi q h1).h s h2
   exact .inr ⟨j,q,by show bset _ _ _ _=_; rw[hP,if_neg hji]; exact h1,h2,h3,h4⟩
 ·have hq:bset W.ps i (some p) j=some q:=hq
  rw[hP] at hq
  split at hq
  ·simp only[Option.some.injEq] at hq; subst hq; exact absurd hh (h0.h s)
  ·exact x.own j q s hs hq hh
 ·have hq:bset W.ps i (some p) j=some q:=hq
  rw[hP] at hq
  split at hq
  ·rename_i h; simp only[Option.some.injEq] at hq; subst hq; subst h; exact hp
  ·exact x.pa j q hq
 ·refine x.ws.same rfl rfl (fun _ _=>rfl) fun j hj=>?_
  unfold Wd.em
  show (match bset W.ps i (some p) j with | some p=>p.em (W.ms j) W.H.c | none=>W.ms j)=_
  rw[hP]
  by_cases h:j=i
  ·subst h
   rw[if_pos rfl]
   dsimp only
   rw[h0.e]
   cases hq:W.ps j with
   | none=>rfl
   | some q=>exact (hi q hq).e.symm
  ·rw[if_neg h]<;>rfl
end Go.Den
namespace Go.Proofs.YtmbningljbcpkaaGreat
open Go Go.Den Go.MapKept
set_option linter.unusedSimpArgs false
set_option linter.unusedVariables false
set_option maxRecDepth 20000
def UW (t:Tag):Prop:=pre [1] t∨pre [2] t
theorem UW.nil:¬ UW []:=by rintro (h | h)<;>simp[pre] at h
theorem UW.two (i:Nat){t:Tag}(h:two (pre [2,i]) (pre [1]) t):UW t:=h.elim (fun h=>.inr (pre_trans (g:=[2]) (s:=[i]) h)) .inl
theorem g2i (i:Nat):Gd [2,i]:=⟨1,[i],rfl⟩
theorem d12i (i:Nat):Off (pre [1]) [2,i]:=off_pre (g:=[]) (x:=[1]) (y:=[2,i]) (by simp) (by simp)
theorem d2i1 (i:Nat):Off (pre [2,i]) [1]:=off_pre (g:=[]) (x:=[2,i]) (y:=[1]) (by simp) (by simp)
theorem d2ij {i j:Nat}(h:i≠j):Off (pre [2,i]) [2,j]:=off_pre (g:=[2]) (x:=[i]) (y:=[j]) (by simpa using h) (by simpa using Ne.symm h)
theorem dtwo {i j:Nat}(h:i≠j):Off (two (pre [2,i]) (pre [1])) [2,j]:=fun t ht hh=>hh.elim (d2ij h t ht) (d12i j t ht)
def PRm (T:Tags)(h:Heap)(g:Tag)(q:Nat):PR→Prop
 | .w p=>WPR T h g q p
 | .r p=>RPR T h g q p
 | .h _=>False
theorem PRm.kp {U:Tag→Prop}{T T':Tags}{h h':Heap}{g:Tag}{q:Nat}{p:PR}(x:PRm T h g q p)(k:Kp U T h T' h')(o:Off U g)(n:¬ U []):PRm T' h' g q p:=by
 cases p with
 | w p=>exact WPR.kp x k o n
 | r p=>exact RPR.kp x k o n
 | h p=>exact x
structure WdM (T:Tags)(h:Heap)(hp:Nat)(A:Nat→Nat)(W:Wd):Prop where
 hl:HallR T h [1] hp W.H
 ps:∀ i p,W.ps i=some p→PRm T h [2,i] (A i) p
theorem WdM.up {U:Tag→Prop}{T T':Tags}{h h':Heap}{hp:Nat}{A:Nat→Nat}{W:Wd}(x:WdM T h hp A W)(o:Only U T h T' h')(f:∀ t,UW t→¬ U t)(n:¬ U []):WdM T' h' hp A W :=
 ⟨x.hl.up o (fun t ht=>f t (.inl ht)) n,fun i p hp=>(x.ps i p hp).kp o.k (fun t ht=>f t (.inr (pre_trans (g:=[2]) (s:=[i]) ht))) n⟩
theorem WdM.ext {T:Tags}{h h':Heap}{hp:Nat}{A:Nat→Nat}{W:Wd}(x:WdM T h hp A W)(w:Wf T h)(e:Ext h h'):WdM T h' hp A W:=x.up (Only.of_ext (U:=non) w e) (fun _ _ h=>h) (not_non _)
structure WdK (k:Nat)(W:Wd)(M:Tbl):Prop where
 li:LI W M
 hs:HS k W.H
 ts:TS k M
theorem WdK.step {k:Nat}{W:Wd}{M:Tbl}(x:WdK k W M)(hk:k<100000){i:Nat}{p:PR}(hp:W.ps i=some p)(n:Int):WdK (k+1) (W.step i n) (p.tb W.H M) :=
 have y:=x.li.step x.hs hk x.ts hp n
 ⟨y.1,y.2.1,y.2.2⟩
theorem WdM.put {U:Tag→Prop}{T T':Tags}{h h':Heap}{hp i:Nat}{A:Nat→Nat}{W:Wd}{p:PR}(x:WdM T h hp A W)(o:Only U T h T' h')(u:∀ j,j≠i→Off U [2,j])(n:¬ U []){k:Int}(hp':W.ps i=some p)
  (y':HallR T' h' [1] hp (p.step (W.ms i) W.H k).2.2) (x':PRm T' h' [2,i] (A i) (p.step (W.ms i) W.H k).1):WdM T' h' hp A (W.step i k):=by
 refine⟨?_,fun j q hq=>?_⟩
 ·have:(W.step i k).H=(p.step (W.ms i) W.H k).2.2:=by simp only[Wd.step,hp']
  rw[this]; exact y'
 ·have hP:(W.step i k).ps j=if j=i then some (p.step (W.ms i) W.H k).1 else W.ps j:=by simp only[Wd.step,hp',bset]
  rw[hP] at hq
  split at hq
  ·rename_i hj; subst hj
   simp -implicitDefEqProofs only[Option.some.injEq] at hq; subst hq
   exact x'
  ·rename_i hj
   exact (x.ps j q hq).kp o.k (u j hj) n
variable {K:KTy}
theorem wdstep_w {T:Tags}{h:Heap}{hp k i:Nat}{A:Nat→Nat}{W:Wd}{M:Tbl}{p:WP}(n:Int)(w:Wf T h)(x:WdM T h hp A W)(y:WdK k W M)(hk:k<100000)(hp':W.ps i=some (.w p))
  (hK:∀ T' h',Only UW T h T' h'→WdM T' h' hp A (W.step i n)→K (.tuple #[]) h'):callM P qaEZ #[ptr (A i),ptr hp,.int .i64 n] h K:=by
 have hpa:=y.li.pa i _ hp'
 refine wstep_ok n w g1 (d12i i) (d2i1 i) (g2i i) (x.ps i _ hp') x.hl y.hs hk hpa.1 fun T' h' o x' y'=>?_
 exact hK T' h' (o.mono fun _=>UW.two i) (x.put o (fun j hj=>dtwo (Ne.symm hj)) (by rintro (h | h)<;>simp[pre] at h) hp' y' x')
theorem wdnew_w {T:Tags}{h:Heap}{hp k i:Nat}{A:Nat→Nat}{W:Wd}{M:Tbl}(hi:i≤900)(o:OpD)(ow:OpW o)(hl:o.users.length<1000000){v:Value}(hv:Sl 1 StrR (fz T h) v o.users)(w:Wf T h)(x:WdM T h hp A W)(y:WdK k W M)(hi':∀ q,W.ps i=some q→Idle q (W.ms i) W.H.c)
  (hK:∀ T' h' q,Only non T h T' h'→WdM T' h' hp (bset A i q) { W with ps:=bset W.ps i (some (.w (wp0 W.H i o))) }→WdK k { W with ps:=bset W.ps i (some (.w (wp0 W.H i o))) } M→K (ptr q) h'):callM P qfIZ #[ptr hp,.int .i64 i,.agg (opC o v).toArray] h K:=by
 have n8:=y.hs.n8
 have nn:=y.hs.nn
 refine wnew_ok i o ow w (g2i i) x.hl hv hl (by omega) fun T' h' q o' nq x'=>?_
 have hst:=stripeOf_lt (u:=o.user) (n:=W.H.c.stripes) (by omega)
 have hsn:(stripeOf o.user W.H.c.stripes).toNat<W.H.n:=by omega
 refine hK T' h' q o' ⟨x.hl.up o' (Off.non _) (not_non _),fun j p hj=>?_⟩ ⟨y.li.start ?_ (Idle.w _ _ rfl) hi',y.hs,y.ts⟩
 ·have hj:bset W.ps i (some (.w (wp0 W.H i o))) j=some p:=hj
  by_cases hji:j=i
  ·subst hji
   rw[bset_same] at hj ⊢
   simp -implicitDefEqProofs only[Option.some.injEq] at hj; subst hj
   exact x'
  ·rw[bset_ne hji] at hj ⊢
   exact (x.ps j p hj).kp o'.k (Off.non _) (not_non _)
 ·refine⟨sect_g hsn (by omega) fun z hz=>?_,rfl,by simp[wp0,sect],fun z hz=>?_⟩
  ·split at hz
   ·cases hz
   ·cases hz; exact ow
  ·have hz:(if badB o then WK.bad else .op o) = .op z:=hz
   split at hz
   ·cases hz
   ·cases hz; rfl
def annW:OpD:=⟨1,⟨#[97,110,110]⟩,0,1,0,5,[]⟩
theorem bdOpAnnW:bdV (binf P qaiZ) [(0,.int .i64 1),(1,.string ⟨#[97,110,110]⟩),(3,.int .i64 1),(5,.int .u64 5)]=some (.agg (opC annW (.slice none 0 0)).toArray):=by kernel_rfl
theorem annWW:OpW annW:=⟨by simp[annW,I64],by simp[annW,I64],by simp[annW,I64],by simp[annW,I64],by simp[annW,U64],by simp[annW,maxLen]; decide⟩
theorem wd0M {T:Tags}{h:Heap}{hp:Nat}{c:Cfg}{n:Nat}(x:HallR T h [1] hp (hall0 c n))(A:Nat→Nat):WdM T h hp A (wd0 c n):=⟨x,fun i p h=>by simp[wd0] at h⟩
theorem wd0K {c:Cfg}(cw:CfgW c)(hr:rightB c=true){n:Nat}(hn:(n:Int)=c.stripes):WdK 0 (wd0 c n) (tbl0 c n):=⟨LI.init,HS.new cw hr hn,TS.init cw hr hn⟩
end Go.Proofs.YtmbningljbcpkaaGreat
namespace Go.Proofs.YtmbningljbcpkaaGreat
open Go Go.Den Go.MapKept
set_option linter.unusedSimpArgs false
set_option linter.unusedVariables false
set_option maxRecDepth 20000
theorem bin_neqS (t:Nat)(c:Bool)(a b:ByteArray):binV .neq t c (.string a) (.string b)=some (.bool (!decide (a=b))):=by
 simp -implicitDefEqProofs only[binV,strV]
 by_cases h:a=b
 ·subst h; simp
 ·have:¬ a.toList=b.toList:=fun e=>h (str_inj e)
  simp -implicitDefEqProofs[h,this]
theorem take_eq_succ {α:Type}{xs ys:List α}{i:Nat}(h:xs.take i=ys.take i)(h1:i<xs.length)(h2:i<ys.length)(e:xs[i]=ys[i]):xs.take (i+1)=ys.take (i+1):=by
 rw[List.take_succ_eq_append_getElem h1,List.take_succ_eq_append_getElem h2,h,e]
variable {K:KTy}
set_option maxHeartbeats 1000000 in
theorem eqStr_ok (xs ys : List ByteArray) {h : Heap} {v u : Value} (x : Sl 1 StrR h v xs) (y : Sl 1 StrR h u ys) (hl : xs.length < 1000000) (hk : K (.bool (decide (xs = ys))) h) : callM P qcoZ #[v, u] h K := by
  apply qpiZ
  unfold qcIZ
  have lx := x.len
  have ly := y.len
  by_cases hlen : xs.length = ys.length
  rotate_left
  · have hne : xs ≠ ys := fun e => hlen (by rw [e])
    have hi : ¬ (xs.length : Int) = ys.length := by omega
    simp -implicitDefEqProofs [lx, ly, hi]
    rw [decide_eq_false hne] at hk; exact hk
  · have hi : (xs.length : Int) = ys.length := by omega
    simp -implicitDefEqProofs [lx, ly, hi]
    unfold qfrZ
    rw [seqM_eq]
    unfold qfqZ
    simp -implicitDefEqProofs only [lx, ov_s]
    refine loop_on [0, 1, 4, 12] (fun s h' => h' = h ∧ ∃ i : Nat, i ≤ xs.length ∧ s 13 = .int .i64 i ∧ xs.take i = ys.take i) (fun s _ => (xs.length - num (s 13)).toNat) ⟨rfl, 0, by omega, rfl, by simp⟩ ?_
    rintro s h1 hf ⟨rfl, i, hi, s13, hT⟩
    have s0 : s 0 = v := by simpa using hf 0 (by simp)
    have s1 : s 1 = u := by simpa using hf 1 (by simp)
    have s4 : s 4 = .bool false := by simpa using hf 4 (by simp)
    have s12 : s 12 = .int .i64 xs.length := by simpa using hf 12 (by simp)
    unfold qfpZ
    simp -implicitDefEqProofs only [s13, s12, bin_lss, ov_s, cd_b]
    refine ⟨fun hc => ?_, fun hc => ?_⟩
    · have hlt : i < xs.length := by have : ((i : Int) < xs.length) := by simpa using hc
                                     omega
      have hly : i < ys.length := by omega
      have hw : IntKind.i64.wrap ((i : Int) + 1) = (i + 1 : Nat) := by rw [wrap64_id (by omega) (by omega)]; omega
      obtain ⟨b, p, i1, i2⟩ := str_at x (k := .i64) hlt
      obtain ⟨b', p', j1, j2⟩ := str_at y (k := .i64) hly
      unfold qfoZ
      simp -implicitDefEqProofs only [s0, s1, s13, i1, j1, ov_s, ldV_c, i2 _ (Ext.refl _), j2 _ (Ext.refl _), bin_neqS, cd_b]
      refine ⟨fun hd => ?_, fun hd => ?_⟩
      · have hne : xs[i] ≠ ys[i] := by simpa using hd
        have hne' : xs ≠ ys := fun e => hne (by subst e; rfl)
        unfold qfmZ
        simp -implicitDefEqProofs [s4]
        rw [decide_eq_false hne'] at hk; exact hk
      · have he : xs[i] = ys[i] := by simpa using hd
        unfold qfnZ
        simp -implicitDefEqProofs [s0, s1, s4, s12, s13, hw, -Int.natCast_add]
        exact ⟨⟨i + 1, by omega, rfl, take_eq_succ hT hlt hly he⟩, by omega⟩
    · have : i = xs.length := by have : ¬ ((i : Int) < xs.length) := by simpa using hc
                                 omega
      subst this
      have he : xs = ys := by
        rw [List.take_of_length_le (Nat.le_refl _), List.take_of_length_le (by omega)] at hT; exact hT
      simp -implicitDefEqProofs
      rw [decide_eq_true he] at hk; exact hk
theorem sessNe (p q:Sess){x y:Operand}{K:Value→Prop}:pvM P (do eqGuard .neq qcZ x y (.agg (sessC p).toArray) (.agg (sessC q).toArray); binOp .neq qcZ (.agg (sessC p).toArray) (.agg (sessC q).toArray)) K=K (.bool (!decide (p=q))):=by
 simp -implicitDefEqProofs only[sessC]
 rw[pv_neq (d:=5) (b:=(p.id == q.id) && ((p.st == q.st) && ((p.pr == q.pr) && ((p.un == q.un) && true)))) (by kernel_rfl) (by omega) (by kernel_rfl)]
 have:((p.id == q.id) && ((p.st == q.st) && ((p.pr == q.pr) && ((p.un == q.un) && true))))=decide (p=q):=by
  rw[Bool.eq_iff_iff]; cases p; cases q; simp
 rw[this]
set_option maxHeartbeats 1000000 in
theorem eqSess_ok (xs ys : List Sess) {h : Heap} {v u : Value} (x : Sl 4 SessR h v xs) (y : Sl 4 SessR h u ys) (hl : xs.length < 1000000) (hk : K (.bool (decide (xs = ys))) h) : callM P qanZ #[v, u] h K := by
  apply qiRZ
  unfold qavZ
  have lx := x.len
  have ly := y.len
  by_cases hlen : xs.length = ys.length
  rotate_left
  · have hne : xs ≠ ys := fun e => hlen (by rw [e])
    have hi : ¬ (xs.length : Int) = ys.length := by omega
    simp -implicitDefEqProofs [lx, ly, hi]
    rw [decide_eq_false hne] at hk; exact hk
  · have hi : (xs.length : Int) = ys.length := by omega
    simp -implicitDefEqProofs [lx, ly, hi]
    unfold qbWZ
    rw [seqM_eq]
    unfold qbVZ
    simp -implicitDefEqProofs only [lx, ov_s]
    refine loop_on [0, 1, 4, 12] (fun s h' => h' = h ∧ ∃ i : Nat, i ≤ xs.length ∧ s 13 = .int .i64 i ∧ xs.take i = ys.take i) (fun s _ => (xs.length - num (s 13)).toNat) ⟨rfl, 0, by omega, rfl, by simp⟩ ?_
    rintro s h1 hf ⟨rfl, i, hi, s13, hT⟩
    have s0 : s 0 = v := by simpa using hf 0 (by simp)
    have s1 : s 1 = u := by simpa using hf 1 (by simp)
    have s4 : s 4 = .bool false := by simpa using hf 4 (by simp)
    have s12 : s 12 = .int .i64 xs.length := by simpa using hf 12 (by simp)
    unfold qbUZ
    simp -implicitDefEqProofs only [s13, s12, bin_lss, ov_s, cd_b]
    refine ⟨fun hc => ?_, fun hc => ?_⟩
    · have hlt : i < xs.length := by have : ((i : Int) < xs.length) := by simpa using hc
                                     omega
      have hly : i < ys.length := by omega
      have hw : IntKind.i64.wrap ((i : Int) + 1) = (i + 1 : Nat) := by rw [wrap64_id (by omega) (by omega)]; omega
      obtain ⟨b, p, i1, i2⟩ := sess_ld x (k := .i64) hlt
      obtain ⟨b', p', j1, j2⟩ := sess_ld y (k := .i64) hly
      unfold qbTZ
      simp -implicitDefEqProofs only [s0, s1, s13, i1, j1, ov_s, ldV_n (i2 _ (Ext.refl _)), ldV_n (j2 _ (Ext.refl _)), sessNe, cd_b]
      refine ⟨fun hd => ?_, fun hd => ?_⟩
      · have hne : xs[i] ≠ ys[i] := by simpa using hd
        have hne' : xs ≠ ys := fun e => hne (by subst e; rfl)
        unfold qbRZ
        simp -implicitDefEqProofs [s4]
        rw [decide_eq_false hne'] at hk; exact hk
      · have he : xs[i] = ys[i] := by simpa using hd
        unfold qbSZ
        simp -implicitDefEqProofs [s0, s1, s4, s12, s13, hw, -Int.natCast_add]
        exact ⟨⟨i + 1, by omega, rfl, take_eq_succ hT hlt hly he⟩, by omega⟩
    · have : i = xs.length := by have : ¬ ((i : Int) < xs.length) := by simpa using hc
                                 omega
      subst this
      have he : xs = ys := by
        rw [List.take_of_length_le (Nat.le_refl _), List.take_of_length_le (by omega)] at hT; exact hT
      simp -implicitDefEqProofs
      rw [decide_eq_true he] at hk; exact hk
def KyJ (hB:Heap)(v3:Nat)(b:Book)(l b' i:Nat)(h':Heap):Prop :=
 ∃ kv,h' v3=some (.cells #[kv] qgZ (0,0))∧Row 1 qXZ h' kv i (((keysB b).take i).flatMap strC1)∧Ext (wo hB [v3]) h'∧∀ r,rowOf kv=some r→r≠v3∧r≠l∧r≠b'∧hB r=none
def KyC (hB:Heap)(v3:Nat)(b:Book)(l b' i:Nat)(s2:Env)(h':Heap):Prop:=KyJ hB v3 b l b' i h'∧s2 3=ptr v3∧∃ hi:i<b.length,s2 4 = .string b[i].1
theorem KyJ.keep {hB:Heap}{v3:Nat}{b:Book}{l b' i:Nat}{h' h'':Heap}(J:KyJ hB v3 b l b' i h')(hl':hB l=none)(h3:hB v3≠none)(k:Keep (some l) h' h''):KyJ hB v3 b l b' i h'':=by
 obtain⟨kv,c,r,e,n⟩:=J
 refine⟨kv,k _ _ c (fun hh=>by cases hh; exact h3 hl'),r.of_at fun g hg=>?_,wo_keep e hl' k,n⟩
 obtain⟨o,ho⟩:=r.lt g hg
 rw[ho]; exact k _ _ ho (fun hh=>(n g hg).2.1 (by cases hh; rfl))
theorem zcSlStr:zc P qgZ=some #[.slice none 0 0]:=by kernel_rfl
set_option maxHeartbeats 1000000 in
theorem keys_ok (b:Book)(hl:b.length<1000000){F h:Heap}(eF:Ext F h){kw vw:Value}(x:BookR F kw vw b)(hk:∀ v' h',Ext h h'→Sl 1 StrR h' v' (keysB b)→K v' h'):callM P qpZ #[.agg #[kw,vw]] h K:=by
 apply qlqZ
 unfold qbjZ
 refine nw_agg fun v1 h1 n1 e1 c1=>?_
 rw[zcSlStr]
 refine nw_intro fun v3 h3 n3 e3 c3=>?_
 have c1:=e3 _ _ c1
 have e0:=e1.trans e3
 have n3':h v3=none:=fresh_of e1 n3
 have o1:=x.1.one
 have o2:=x.2.1.one
 rw[seqM_eq]
 unfold qdGZ
 simp -implicitDefEqProofs[ld_at c1,cel_of c1,stm_at c1,stm_upd,ld_same,cel_same,over,o1.1,o2.1]
 refine all_ok b (eF.trans e0) x fun pA hB nA eA cA=>?_
 have nA3:v3≠pA:=ne_fresh c3 nA
 have c3:=eA _ _ c3
 have h3B:hB v3≠none:=by rw[c3]; simp
 have e0B:=e0.trans eA
 obtain⟨Lv,l1,l2⟩:=x.2.1.els EntR.one
 simp -implicitDefEqProofs only[List.length_map] at l1
 have hF3:F v3=none:=by
  cases hh:F v3 with
  | none=>rfl
  | some o=>rw[eF _ _ hh] at n3'; cases n3'
 have F1:Ext F (wo hB [v3]):=wo_ext (eF.trans e0B) (by simpa using hF3)
 have hlx:(allX b Lv).length=b.length:=by simp[allX]
 have klen:(keysB b).length=b.length:=by simp[keysB]
 unfold qdFZ
 refine rf_go good mixed rfl (by kernel_rfl) (all_it b (hA:=wo hB [v3]) (p:=pA) (kw:=kw) (vw:=vw) (Lv:=Lv) (by rw[wo_out (by simpa using Ne.symm nA3)]; exact cA) (x.ext F1) (l1.ext F1) l2.size (by simpa using l2.len))
  (fun l b' i h'=>KyJ hB v3 b l b' i h') (fun _ _ _ _=>False) (fun l b' i s2 h'=>KyC hB v3 b l b' i s2 h') ?_ ?_ ?_ (fun _ _ _ _ _ _ _ h _=>h) ?_ ?_ ?_ ?_ ?_ (fun _ _ _ _ _ _ _ h=>h.elim) (fun _ _ _ _ _ _ _ _ h=>h.elim)
 ·intro l b' hl' hb'
  exact⟨_,c3,by simpa using (Rf.nil (sz:=1) (e:=qXZ) (Ext.refl hB)).row,fun q o hq=>(wo_get hq).2,fun r hr=>by simp[rowOf] at hr⟩
 ·intro l b' i h' J; obtain⟨kv,_,_,e,_⟩:=J; exact e
 ·intro l b' hl' hb' i h' h'' J k
  exact J.keep hl' h3B k
 ·rintro l b' i s2 ha hb hl' hb' ⟨J,s3,hi,s4⟩ k
  exact⟨J.keep hl' h3B k,s3,hi,s4⟩
 ·intro i hi; simp[allX]
 ·rintro i hi l b' h2 hl' hb' ⟨ol,hol⟩ ⟨ob,hob⟩ J
  rw[qjHZ]
  unfold qdfZ
  obtain⟨hib,sv,hx,hsv,hsn⟩:=allX_at l2 hi
  rw[hx]
  simp -implicitDefEqProofs
  exact⟨J,by simp,hib,by simp⟩
 ·rintro i hi l b' s2 h3 hl' hb' ⟨ol,hol⟩ ⟨ob,hob⟩ ⟨⟨kv,cv,r,e,nr⟩,s3,hib,s4⟩
  rw[qjIZ]
  unfold qdgZ
  simp -implicitDefEqProofs[s3,s4,ld_at cv,cel_of cv,stm_at cv,stm_upd,ld_same,cel_same,over]
  refine app_one (x:=.string b[i].1) bsStr unSlStr apStr (by omega) (by simp) (by simp) r (by unfold maxLen; omega) (by omega) (by omega) fun a kv' h4 r4 k4 ha=>?_
  have hl3:l≠v3:=fun hh=>by subst hh; rw[hl'] at c3; cases c3
  have hb3:b'≠v3:=fun hh=>by subst hh; rw[hb'] at c3; cases c3
  have cv4:h4 v3=some (.cells #[kv] qgZ (0,0)):=k4 _ _ cv (fun hh=>(nr v3 hh.symm).1 rfl)
  have hol4:h4 l=some ol:=k4 _ _ hol (fun hh=>(nr l hh.symm).2.1 rfl)
  have hob4:h4 b'=some ob:=k4 _ _ hob (fun hh=>(nr b' hh.symm).2.2.1 rfl)
  have nr':∀ g,rowOf kv'=some g→g≠v3∧g≠l∧g≠b'∧hB g=none:=fun g hg=>by
   rcases ha with ha | ⟨j,ha,hj⟩
   ·exact nr g (by rw[← ha]; exact hg)
   ·rw[ha] at hg; cases hg
    refine⟨fun hh=>?_,fun hh=>?_,fun hh=>?_,?_⟩
    ·subst hh; rw[cv] at hj; cases hj
    ·subst hh; rw[hol] at hj; cases hj
    ·subst hh; rw[hob] at hj; cases hj
    ·by_cases hg3:g=v3
     ·subst hg3; rw[cv] at hj; cases hj
     ·cases hh:hB g with
      | none=>rfl
      | some o =>
       have:=e g o (by rw[wo_out (by simpa using hg3)]; exact hh)
       rw[this] at hj; cases hj
  have okv:kv'.cells=#[kv']:=r4.one.2
  simp -implicitDefEqProofs[ld_at cv4,cel_of cv4,stm_at cv4,stm_upd,ld_same,cel_same,over,okv,r4.one.1]
  refine⟨by rw[upd_ne hl3,hol4,hol],by rw[upd_ne hb3,hob4,hob],kv',upd_same' _ _ _,?_,wo_upd ?_ (by simp),nr'⟩
  ·have:(keysB b).take (i+1)=(keysB b).take i++[b[i].1]:=by
    rw[List.take_succ_eq_append_getElem (by omega)]; simp[keysB]
   rw[this,List.flatMap_append]
   exact (by simpa [strC1] using r4:Row 1 qXZ h4 kv' (i+1) _).of_at fun g hg=>upd_ne (nr' g hg).1
  ·intro q o hq
   have hqB:=wo_get hq
   have:=e q o hq
   exact k4 q o this fun hh=>by rw[(nr q hh.symm).2.2.2] at hqB; cases hqB.2
 ·intro l b' h' hl' hlb hb' hd J
  rw[hlx] at J
  obtain⟨kv,cv,r,e,nr⟩:=J
  rw[List.take_of_length_le (by omega)] at r
  have nb3:v3≠b':=fun hh=>by subst hh; rw[hb'] at c3; cases c3
  simp -implicitDefEqProofs only[blkM_n,thenM_n]
  simp -implicitDefEqProofs[ld_at cv,cel_of cv,stm_at cv,stm_upd,ld_same,cel_same,over,hd,ld_skip nb3,cel_skip nb3]
  refine hk _ _ (ext_upd (o:=.deferred none) (fresh_of e0B hb') (ext_wo e0B (by simpa using n3') e)) ?_
  have r':Row 1 qXZ (upd h' b' (.deferred none)) kv (keysB b).length ((keysB b).flatMap strC1):=by
   rw[klen]; exact r.of_at fun g hg=>upd_ne (nr g hg).2.2.1
  exact strR_of (Row.slE (enc:=strC1) (R:=StrE) (fun _=>rfl) (fun _=>rfl) r') (str_sizes x.1)
end Go.Proofs.YtmbningljbcpkaaGreat
namespace Go.Proofs.YtmbningljbcpkaaGreat
open Go Go.Den Go.MapKept
set_option linter.unusedSimpArgs false
set_option linter.unusedVariables false
set_option maxRecDepth 20000
def saE (a b:Book):Prop:=∀ x∈a,x.2=entOf b x.1
theorem book_eq {a b:Book}(so:SrtK (keysB a))(so':SrtK (keysB b))(hk:keysB a=keysB b):a=b↔saE a b:=by
 constructor
 ·rintro rfl x hx
  obtain⟨i,hi,rfl⟩:=List.getElem_of_mem hx
  exact (entOf_mem so hi).symm
 ·intro h
  have hl:a.length=b.length:=by have:=congrArg List.length hk; simpa [keysB] using this
  refine List.ext_getElem hl fun i h1 h2=>?_
  have hki:a[i].1=b[i].1:=by
   have:(keysB a)[i]'(by simpa [keysB] using h1)=(keysB b)[i]'(by simpa [keysB] using h2):=by simp only[hk]
   simpa [keysB] using this
  have he:=h a[i] (List.getElem_mem h1)
  rw[hki,entOf_mem so' h2] at he
  exact Prod.ext hki he
def SaJ (hB:Heap)(v5:Nat)(a b:Book)(i:Nat)(h':Heap):Prop:=Ext (wo hB [v5]) h'∧h' v5=some (.cells #[.bool false] qetZ (0,0))∧∀ x∈a.take i,x.2=entOf b x.1
def SaS (hB:Heap)(v5:Nat)(a b:Book)(h':Heap):Prop:=Ext (wo hB [v5]) h'∧h' v5=some (.cells #[.bool false] qetZ (0,0))∧¬ saE a b
def SaC (hB F:Heap)(v3 v5:Nat)(a b:Book)(l i:Nat)(s2:Env)(h':Heap):Prop :=
 SaJ hB v5 a b i h'∧s2 3=ptr v3∧s2 4=ptr v5∧∃ (hi:i<a.length) (xb:Nat) (sv:Value),s2 5 = .string a[i].1∧s2 6=ptr xb∧xb≠l∧xb≠v5∧h' xb=some (.cells (sv::presC a[i].2.told).toArray qjZ (0,0))∧Sl 4 SessR F sv a[i].2.ss
theorem tgBool4:tagg P 4=some none:=by kernel_rfl
theorem zcBool:zc P qetZ=some #[.bool false]:=by kernel_rfl
variable {K:KTy}
set_option maxHeartbeats 4000000 in
theorem same_ok (a b:Book)(so:SrtK (keysB a))(so':SrtK (keysB b))(hl:a.length<1000000)(hlb:b.length<1000000)(hsn:∀ x∈a,x.2.ss.length<1000000){F h:Heap}(eF:Ext F h){kw vw kw' vw':Value}(x:BookR F kw vw a)(y:BookR F kw' vw' b)
  (hk:∀ h',Ext h h'→K (.bool (decide (a=b))) h'):callM P qewZ #[.agg #[kw,vw],.agg #[kw',vw']] h K:=by
 apply qvgZ
 unfold qrkZ
 refine nw_agg fun v1 h1 n1 e1 c1=>?_
 refine nw_agg fun v3 h3 n3 e3 c3=>?_
 rw[zcBool]
 refine nw_intro fun v5 h5 n5 e5 c5=>?_
 have c1:=e5 _ _ (e3 _ _ c1)
 have c3:=e5 _ _ c3
 have e0:=(e1.trans e3).trans e5
 have n5':h v5=none:=fresh_of (e1.trans e3) n5
 have o1:=x.1.one
 have o2:=x.2.1.one
 have o3:=y.1.one
 have o4:=y.2.1.one
 have hag3:∀ h',h' v3=some (.cells #[kw',vw'] qaZ (0,0))→ldV (some (some 2)) (ptr v3) h'=some (.agg #[kw',vw']):=fun h' c=>by simp[ld_at c]
 have hag1:∀ h',h' v1=some (.cells #[kw,vw] qaZ (0,0))→ldV (some (some 2)) (ptr v1) h'=some (.agg #[kw,vw]):=fun h' c=>by simp[ld_at c]
 simp -implicitDefEqProofs only[hag1 _ c1,hag3 _ c3,ov_s]
 refine keys_ok a hl (eF.trans e0) x fun ka h6 e6 xa=>?_
 have c1:=e6 _ _ c1
 have c3:=e6 _ _ c3
 have c5:=e6 _ _ c5
 have e0:=e0.trans e6
 unfold qsGZ
 simp -implicitDefEqProofs only[hag3 _ c3,true_and]
 refine keys_ok b hlb (eF.trans e0) y fun kB h7 e7 xb=>?_
 have c1:=e7 _ _ c1
 have c3:=e7 _ _ c3
 have c5:=e7 _ _ c5
 have e0:=e0.trans e7
 refine eqStr_ok (keysB a) (keysB b) (xa.ext (@StrR.ext) e7) xb (by simpa [keysB] using hl) ?_
 unfold qsFZ
 by_cases hkk:keysB a=keysB b
 rotate_left
 ·have hne:a≠b:=fun e=>hkk (by rw[e])
  have w5:Ext h (upd h7 v5 (.cells #[.bool false] qetZ (0,0))):=ext_upd n5' e0
  simp -implicitDefEqProofs[hkk,ld_at c5,cel_of c5,stm_at c5,stm_upd,ld_same,cel_same,over]
  refine kb (hk _ w5) (by simp[hne])
 have hbe:=book_eq so so' hkk
 simp -implicitDefEqProofs[hkk]
 unfold qsEZ
 rw[seqM_eq]
 unfold qsDZ
 simp -implicitDefEqProofs only[hag1 _ c1,ov_s]
 refine all_ok a (eF.trans e0) x fun pA hB nA eA cA=>?_
 have nA5:v5≠pA:=ne_fresh c5 nA
 have c3:=eA _ _ c3
 have c5:=eA _ _ c5
 have e0B:=e0.trans eA
 have n35:v3≠v5:=fun hh=>by subst hh; rw[c3] at c5; cases c5
 have hv3:wo hB [v5] v3=some (.cells #[kw',vw'] qaZ (0,0)):=by rw[wo_out (by simpa using n35)]; exact c3
 obtain⟨Lv,l1,l2⟩:=x.2.1.els EntR.one
 simp -implicitDefEqProofs only[List.length_map] at l1
 have hF5:F v5=none:=by
  cases hh:F v5 with
  | none=>rfl
  | some o=>rw[eF _ _ hh] at n5'; cases n5'
 have F1:Ext F (wo hB [v5]):=wo_ext (eF.trans e0B) (by simpa using hF5)
 have hlx:(allX a Lv).length=a.length:=by simp[allX]
 unfold qsCZ
 refine rf_go good mixed rfl (by kernel_rfl) (all_it a (hA:=wo hB [v5]) (p:=pA) (kw:=kw) (vw:=vw) (Lv:=Lv) (by rw[wo_out (by simpa using Ne.symm nA5)]; exact cA) (x.ext F1) (l1.ext F1) l2.size (by simpa using l2.len))
  (fun l b' i h'=>SaJ hB v5 a b i h') (fun _ _ e h'=>e = .ret∧SaS hB v5 a b h') (fun l b' i s2 h'=>SaC hB F v3 v5 a b l i s2 h') ?_ ?_ ?_ ?_ ?_ ?_ ?_ ?_ ?_ ?_ ?_
 ·intro l b' hl' hb'
  exact⟨fun q o hq=>(wo_get hq).2,c5,by simp⟩
 ·intro l b' i h' J; exact J.1
 ·intro l b' hl' hb' i h' h'' J k
  exact⟨wo_keep J.1 hl' k,k _ _ J.2.1 (fun hh=>by cases hh; rw[hl'] at c5; cases c5),J.2.2⟩
 ·rintro l b' hl' hb' e h' h'' ⟨rfl,J⟩ k
  exact⟨rfl,wo_keep J.1 hl' k,k _ _ J.2.1 (fun hh=>by cases hh; rw[hl'] at c5; cases c5),J.2.2⟩
 ·rintro l b' i s2 ha hb hl' hb' ⟨J,s3,s4,hi,xb,sv,s5,s6,nx,nx5,cx,sx⟩ k
  exact⟨⟨wo_keep J.1 hl' k,k _ _ J.2.1 (fun hh=>by cases hh; rw[hl'] at c5; cases c5),J.2.2⟩,s3,s4,hi,xb,sv,s5,s6,nx,nx5,k _ _ cx (fun hh=>nx (by cases hh; rfl)),sx⟩
 ·intro i hi; simp[allX]
 ·rintro i hi l b' h2 hl' hb' ⟨ol,hol⟩ ⟨ob,hob⟩ J
  rw[quIZ]
  unfold qrrZ
  rw[zcEnt]
  obtain⟨hib,sv,hx,hsv,hsn'⟩:=allX_at l2 hi
  rw[hx]
  have hso:=hsv.one
  simp -implicitDefEqProofs
  refine nw_st rfl (by simp[presC]) (by simp[presC,hso.1]) fun xb h4 n4 e4 c4=>?_
  refine⟨⟨⟨J.1.trans e4,e4 _ _ J.2.1,J.2.2⟩,by simp,by simp,hib,xb,sv,by simp,by simp,fun hh=>(by subst hh; rw[hol] at n4; cases n4),fun hh=>(by subst hh; rw[J.2.1] at n4; cases n4),?_,hsv⟩,by rw[hol,e4 _ _ hol],by rw[hob,e4 _ _ hob]⟩
  simpa using c4
 ·rintro i hi l b' s2 h3 hl' hb' ⟨ol,hol⟩ ⟨ob,hob⟩ ⟨J,s3,s4,hib,xb,sv,s5,s6,nx,nx5,cx,sx⟩
  rw[quJZ]
  unfold qrsZ
  have c3':=J.1 _ _ hv3
  simp -implicitDefEqProofs only[s3,s5,hag3 _ c3',ov_s]
  refine get_ok b so' a[i].1 (F1.trans J.1) y hlb fun h8 sv' e8 xs' xn'=>?_
  have cx:=e8 _ _ cx
  have c58:=e8 _ _ J.2.1
  have e38:=J.1.trans e8
  simp -implicitDefEqProofs only[exV_0,exV_1,ov_s,zcEnt]
  have hso':=xs'.one
  have hso:=sx.one
  refine nw_st rfl (by simp[presC]) (by simp[presC,hso'.1]) fun yb h9 n9 e9 c9=>?_
  have cx:=e9 _ _ cx
  have c59:=e9 _ _ c58
  have e39:=e38.trans e9
  have hol9:h9 l=some ol:=e9 _ _ (e8 _ _ hol)
  have hob9:h9 b'=some ob:=e9 _ _ (e8 _ _ hob)
  simp -implicitDefEqProofs only[presC] at cx c9
  simp -implicitDefEqProofs[s6,ld_at cx,cel_of cx,stm_at cx,ld_at c9,cel_of c9,stm_at c9,stm_upd,ld_same,cel_same,over,presNe]
  have hl5:l≠v5:=fun hh=>by subst hh; rw[hl'] at c5; cases c5
  have hb5:b'≠v5:=fun hh=>by subst hh; rw[hb'] at c5; cases c5
  have bad:a[i].2≠entOf b a[i].1→∀ h36,Ext h9 h36→(upd h36 v5 (.cells #[.bool false] qetZ (0,0))) l=h3 l∧(upd h36 v5 (.cells #[.bool false] qetZ (0,0))) b'=h3 b'∧SaS hB v5 a b (upd h36 v5 (.cells #[.bool false] qetZ (0,0))):=fun hn h36 e36 =>
   ⟨by rw[upd_ne hl5,e36 _ _ hol9,hol],by rw[upd_ne hb5,e36 _ _ hob9,hob],wo_upd (e39.trans e36) (by simp),upd_same' _ _ _,fun sa=>hn (sa _ (List.getElem_mem hib))⟩
  by_cases ht:a[i].2.told=(entOf b a[i].1).told
  ·simp -implicitDefEqProofs[ht,ld_at cx,cel_of cx,stm_at cx,ld_at c9,cel_of c9,stm_at c9,stm_upd,ld_same,cel_same,over]
   refine eqSess_ok _ _ (sx.ext (@SessR.ext) (F1.trans e39)) (xs'.ext (@SessR.ext) (F1.trans e39)) (hsn _ (List.getElem_mem hib)) ?_
   by_cases hs:a[i].2.ss=(entOf b a[i].1).ss
   ·have he:a[i].2=entOf b a[i].1:=by
     cases h1:a[i].2; cases h2:entOf b a[i].1
     rw[h1,h2] at hs ht; simp_all
    simp -implicitDefEqProofs[hs]
    refine⟨by rw[hol9,hol],by rw[hob9,hob],e39,c59,fun z hz=>?_⟩
    rw[List.take_succ_eq_append_getElem hib] at hz
    rcases List.mem_append.1 hz with hz | hz
    ·exact J.2.2 z hz
    ·rw[List.mem_singleton.1 hz]; exact he
   ·simp -implicitDefEqProofs[hs,s4,ld_at c59,cel_of c59,stm_at c59,stm_upd,ld_same,cel_same,over]
    exact bad (fun e=>hs (by rw[e])) _ (Ext.refl _)
  ·simp -implicitDefEqProofs[ht,s4,ld_at c59,cel_of c59,stm_at c59,stm_upd,ld_same,cel_same,over]
   exact bad (fun e=>ht (by rw[e])) _ (Ext.refl _)
 ·intro l b' h' hl' hne hb' hd J
  rw[hlx] at J
  have hsa:a=b:=hbe.2 fun z hz=>J.2.2 z (by rw[List.take_of_length_le (Nat.le_refl _)]; exact hz)
  have nb5:v5≠b':=fun hh=>by subst hh; rw[hb'] at c5; cases c5
  have cv:=J.2.1
  simp -implicitDefEqProofs only[blkM_n,thenM_n]
  simp -implicitDefEqProofs[ld_at cv,cel_of cv,stm_at cv,stm_upd,ld_same,cel_same,over,hd,ld_skip nb5,cel_skip nb5,tgBool4,upd_ne (Ne.symm nb5)]
  refine kb (hk _ (ext_upd (o:=.deferred none) (fresh_of e0B hb') (ext_upd (o:=.cells #[.bool true] qetZ (0,0)) n5' (ext_wo e0B (by simpa using n5') J.1)))) (by simp[hsa])
 ·rintro l b' h' hl' hne hb' hd ⟨-,J⟩
  have nb5:v5≠b':=fun hh=>by subst hh; rw[hb'] at c5; cases c5
  have cv:=J.2.1
  simp -implicitDefEqProofs[ld_at cv,cel_of cv,stm_at cv,stm_upd,ld_same,cel_same,over,hd,ld_skip nb5,cel_skip nb5,tgBool4]
  refine kb (hk _ (ext_upd (o:=.deferred none) (fresh_of e0B hb') (ext_wo e0B (by simpa using n5') J.1))) (by rw[decide_eq_false (fun e=>J.2.2 (hbe.1 e))])
 ·rintro id l b' h' hl' hne hb' hd ⟨h,-⟩
  cases h
set_option maxHeartbeats 1000000 in
theorem hquiet_ok {T:Tags}{h:Heap}{g:Tag}{p s m:Nat}{H:Hall}(w:Wf T h)(x:HallR T h g p H)(hs:HS m H)(hm:m≤100000)(hlt:s<H.n)(hk:∀ h',Ext h h'→K (.bool (H.quiet s)) h'):callM P qjkZ #[ptr p,.int .i64 s] h K:=by
 apply qtXZ
 unfold qkuZ
 obtain⟨sv,av,Y,x⟩:=x
 have cp:=x.hp
 simp -implicitDefEqProofs only[hallC] at cp
 obtain⟨b,ob,rb,hb1,tb,ia,l1,l2,l3,l4,l5,l6⟩:=x.lds (s:=s) (k:=.i64) hlt
 have hsr:=x.sr s hlt
 have st:=hs.st s hlt
 have u1:=hsr.1.1.one
 have u2:=hsr.1.2.1.one
 have u3:=hsr.2.1.1.one
 have u4:=hsr.2.1.2.1.one
 simp -implicitDefEqProofs[ld_at cp,cel_of cp,stm_at cp,stm_upd,ld_same,cel_same,over]
 rw[ia,zcStripe]
 simp -implicitDefEqProofs only[strC] at l6
 simp -implicitDefEqProofs only[ov_s,l6]
 refine nw_st (by simp) (by simp) (by simp[u1.1,u2.1,u3.1,u4.1]) fun yb h2 n2 e2 c2=>?_
 simp -implicitDefEqProofs only[cells_agg] at c2
 simp -implicitDefEqProofs[ld_at c2,cel_of c2,stm_at c2,stm_upd,ld_same,cel_same,over]
 refine writing_ok _ _ st.wr.1 fun h3 e3=>?_
 have c3:=e3 _ _ c2
 have e0:=e2.trans e3
 unfold qofZ
 cases hw:wrt (H.ss s).v with
 | true =>
  simp -implicitDefEqProofs
  refine kb (hk _ e0) (by simp[Hall.quiet,hw])
 | false =>
  simp -implicitDefEqProofs[ld_at c3,cel_of c3,stm_at c3,stm_upd,ld_same,cel_same,over]
  refine same_ok _ _ st.sn.bw.so st.bk.bw.so (by have:=st.sn.bl; omega) (by have:=st.bk.bl; omega) (fun y hy=>by have:=st.sn.bn y hy; omega) ((fz_ext T h).trans e0) hsr.1 hsr.2.1 fun h4 e4=>?_
  refine kb (hk _ (e0.trans e4)) (by simp[Hall.quiet,hw])
end Go.Proofs.YtmbningljbcpkaaGreat
namespace Go.Proofs.YtmbningljbcpkaaGreat
open Go Go.Den Go.MapKept
set_option linter.unusedSimpArgs false
set_option linter.unusedVariables false
set_option maxRecDepth 20000
theorem g3:Gd [3]:=⟨2,[],rfl⟩
theorem opsAt {F:Heap}{v:Value}{xs:List OpD}(x:Sl 7 OpR F v xs){i:Nat}(hi:i<xs.length):∃ b p u,iaV (some (none,7)) v (.int .i64 i)=some (.pointer (some ⟨b,p,none⟩))∧(∀ h',Ext F h'→ldV (some (some 7)) (.pointer (some ⟨b,p,none⟩)) h'=some (.agg (opC xs[i] u).toArray))∧Sl 1 StrR F u xs[i].users∧OpW xs[i]:=by
 obtain⟨b,o,c,i1,i2,i3⟩:=x.at (k:=.i64) (i:=i) (by omega) (by omega)
 obtain⟨u,h1,h2,h3⟩:=i3
 simp -implicitDefEqProofs only[Int.toNat_natCast] at h1 h2 h3
 exact⟨b,o,u,i1,fun h' e=>by rw[ldV_n (cels_ext e i2),h1],h2,h3⟩
end Go.Proofs.YtmbningljbcpkaaGreat
namespace Go.Proofs.YtmbningljbcpkaaGreat
open Go Go.Den Go.MapKept
set_option linter.unusedSimpArgs false
set_option linter.unusedVariables false
set_option maxRecDepth 20000
theorem evNe (p q:Evt){x y:Operand}{K:Value→Prop}:pvM P (do eqGuard .neq qtZ x y (.agg (evC p).toArray) (.agg (evC q).toArray); binOp .neq qtZ (.agg (evC p).toArray) (.agg (evC q).toArray)) K=K (.bool (!decide (p=q))):=by
 simp -implicitDefEqProofs only[evC,presC,List.cons_append,List.nil_append]
 rw[pv_neq (d:=5) (b:=(p.user.toList == q.user.toList) && (((p.old.st == q.old.st) && ((p.old.pr == q.old.pr) && ((p.old.lv == q.old.lv) && true))) && (((p.new.st == q.new.st) && ((p.new.pr == q.new.pr) && ((p.new.lv == q.new.lv) && true))) && ((p.seq == q.seq) && true)))) (by kernel_rfl) (by omega) (by kernel_rfl)]
 have:((p.user.toList == q.user.toList) && (((p.old.st == q.old.st) && ((p.old.pr == q.old.pr) && ((p.old.lv == q.old.lv) && true))) && (((p.new.st == q.new.st) && ((p.new.pr == q.new.pr) && ((p.new.lv == q.new.lv) && true))) && ((p.seq == q.seq) && true))))=decide (p=q):=by
  rw[str_beq,Bool.eq_iff_iff]
  obtain⟨u,⟨a,b,c⟩,⟨d,e,f⟩,s⟩:=p
  obtain⟨u',⟨a',b',c'⟩,⟨d',e',f'⟩,s'⟩:=q
  simp -implicitDefEqProofs[and_assoc]
 rw[this]
theorem ev_ld {F:Heap}{v:Value}{l:List Evt}(x:Sl 8 EvR F v l){i:Nat}(hi:i<l.length){k:IntKind}:∃ b p,iaV (some (none,8)) v (.int k i)=some (.pointer (some ⟨b,p,none⟩))∧∀ h',Ext F h'→cels h' b p 8=some (evC l[i]):=by
 obtain⟨b,p,c,h1,h2,h3⟩:=x.at (k:=k) (i:=i) (by omega) (by omega)
 refine⟨b,p,h1,fun h' e=>?_⟩
 have hc:c=evC l[i]:=h3
 subst hc
 exact cels_ext e h2
theorem pres_ld {F:Heap}{v:Value}{l:List Pres}(x:Sl 3 PresR F v l){i:Nat}(hi:i<l.length){k:IntKind}:∃ b p,iaV (some (none,3)) v (.int k i)=some (.pointer (some ⟨b,p,none⟩))∧∀ h',Ext F h'→cels h' b p 3=some (presC l[i]):=by
 obtain⟨b,p,c,h1,h2,h3⟩:=x.at (k:=k) (i:=i) (by omega) (by omega)
 refine⟨b,p,h1,fun h' e=>?_⟩
 have hc:c=presC l[i]:=h3
 subst hc
 exact cels_ext e h2
variable {K:KTy}
set_option maxHeartbeats 1000000 in
theorem evSame_ok (xs ys : List Evt) {h : Heap} {v u : Value} (x : Sl 8 EvR h v xs) (y : Sl 8 EvR h u ys) (hl : xs.length < 1000000) (hk : K (.bool (decide (xs = ys))) h) : callM P qhAZ #[v, u] h K := by
  apply qsYZ
  unfold qiMZ
  have lx := x.len
  have ly := y.len
  by_cases hlen : xs.length = ys.length
  rotate_left
  · have hne : xs ≠ ys := fun e => hlen (by rw [e])
    have hi : ¬ (xs.length : Int) = ys.length := by omega
    simp -implicitDefEqProofs [lx, ly, hi]
    rw [decide_eq_false hne] at hk; exact hk
  · have hi : (xs.length : Int) = ys.length := by omega
    simp -implicitDefEqProofs [lx, ly, hi]
    unfold qmqZ
    rw [seqM_eq]
    unfold qmpZ
    refine loop_on [0, 1, 4] (fun s h' => h' = h ∧ ∃ i : Nat, i ≤ xs.length ∧ s 5 = .int .i64 i ∧ xs.take i = ys.take i) (fun s _ => (xs.length - num (s 5)).toNat) ⟨rfl, 0, by omega, rfl, by simp⟩ ?_
    rintro s h1 hf ⟨rfl, i, hi, s5, hT⟩
    have s0 : s 0 = v := by simpa using hf 0 (by simp)
    have s1 : s 1 = u := by simpa using hf 1 (by simp)
    have s4 : s 4 = .bool false := by simpa using hf 4 (by simp)
    unfold qmoZ
    simp -implicitDefEqProofs only [s5, s0, lx, bin_lss, ov_s, cd_b]
    refine ⟨fun hc => ?_, fun hc => ?_⟩
    · have hlt : i < xs.length := by have : ((i : Int) < xs.length) := by simpa using hc
                                     omega
      have hly : i < ys.length := by omega
      have hw : IntKind.i64.wrap ((i : Int) + 1) = (i + 1 : Nat) := by rw [wrap64_id (by omega) (by omega)]; omega
      obtain ⟨b, p, i1, i2⟩ := ev_ld x (k := .i64) hlt
      obtain ⟨b', p', j1, j2⟩ := ev_ld y (k := .i64) hly
      unfold qmnZ
      simp -implicitDefEqProofs only [s0, s1, s5, i1, j1, ov_s, ldV_n (i2 _ (Ext.refl _)), ldV_n (j2 _ (Ext.refl _)), evNe, cd_b]
      refine ⟨fun hd => ?_, fun hd => ?_⟩
      · have hne : xs[i] ≠ ys[i] := by simpa using hd
        have hne' : xs ≠ ys := fun e => hne (by subst e; rfl)
        unfold qmlZ
        simp -implicitDefEqProofs [s4]
        rw [decide_eq_false hne'] at hk; exact hk
      · have he : xs[i] = ys[i] := by simpa using hd
        unfold qmmZ
        simp -implicitDefEqProofs [s0, s1, s4, s5, hw, -Int.natCast_add]
        exact ⟨⟨i + 1, by omega, rfl, take_eq_succ hT hlt hly he⟩, by omega⟩
    · have : i = xs.length := by have : ¬ ((i : Int) < xs.length) := by simpa using hc
                                 omega
      subst this
      have he : xs = ys := by
        rw [List.take_of_length_le (Nat.le_refl _), List.take_of_length_le (by omega)] at hT; exact hT
      simp -implicitDefEqProofs
      rw [decide_eq_true he] at hk; exact hk
deriving instance DecidableEq for Reply
def rplC (r:Reply)(vv ev:Value):List Value:=[.int .i64 r.err,vv,ev,.bool r.lost]
structure RpX (h:Heap)(r:Reply)(vv ev:Value):Prop where
 v:Sl 3 PresR h vv r.vals
 e:Sl 8 EvR h ev r.evs
theorem RpX.no (h:Heap){r:Reply}(h1:r.vals=[])(h2:r.evs=[]):RpX h r (.slice none 0 0) (.slice none 0 0):=⟨.inl ⟨h1,_,_,rfl⟩,.inl ⟨h2,_,_,rfl⟩⟩
theorem rep_eq (a b:Reply):a=b↔a.err=b.err∧a.lost=b.lost∧a.vals=b.vals∧a.evs=b.evs:=by
 cases a; cases b; simp only[Reply.mk.injEq]; constructor<;>(rintro⟨h1,h2,h3,h4⟩; exact⟨h1,by assumption,by assumption,by assumption⟩)
set_option maxHeartbeats 4000000 in
theorem repSame_ok (a b:Reply){h:Heap}{va ea vb eb:Value}(x:RpX h a va ea)(y:RpX h b vb eb)(h1:a.vals.length<1000000)(h2:a.evs.length<1000000)(hk:∀ h',Ext h h'→K (.bool (decide (a=b))) h'):callM P qhyZ #[.agg (rplC a va ea).toArray,.agg (rplC b vb eb).toArray] h K:=by
 apply qsWZ
 unfold qiIZ
 refine nw_agg fun v1 g1 n1 e1 c1=>?_
 refine nw_agg fun v3 g3 n3 e3 c3=>?_
 have c1:=e3 _ _ c1
 have e0:=e1.trans e3
 have lx:=x.v.len
 have ly:=y.v.len
 have lex:=x.e.len
 have ley:=y.e.len
 have c1:g3 v1=some (.cells #[.int .i64 a.err,va,ea,.bool a.lost] qmZ (0,0)):=c1
 have c3:g3 v3=some (.cells #[.int .i64 b.err,vb,eb,.bool b.lost] qmZ (0,0)):=c3
 have ne:a≠b↔¬ (a.err=b.err∧a.lost=b.lost∧a.vals=b.vals∧a.evs=b.evs):=not_congr (rep_eq a b)
 by_cases q1:a.err=b.err
 rotate_left
 ·have:a≠b:=ne.2 fun hh=>q1 hh.1
  simp -implicitDefEqProofs[ld_at c1,cel_of c1,stm_at c1,ld_at c3,cel_of c3,stm_at c3,stm_upd,ld_same,cel_same,over,q1]
  exact kb (hk _ e0) (by simp[this])
 by_cases q2:a.lost=b.lost
 rotate_left
 ·have:a≠b:=ne.2 fun hh=>q2 hh.2.1
  have hbq:(a.lost == b.lost)=false:=by simpa using q2
  simp -implicitDefEqProofs[ld_at c1,cel_of c1,stm_at c1,ld_at c3,cel_of c3,stm_at c3,stm_upd,ld_same,cel_same,over,q1,hbq]
  exact kb (hk _ e0) (by simp[this])
 by_cases q3:a.vals.length=b.vals.length
 rotate_left
 ·have:a≠b:=ne.2 fun hh=>q3 (by rw[hh.2.2.1])
  have q3':¬ (a.vals.length:Int)=b.vals.length:=by omega
  simp -implicitDefEqProofs[ld_at c1,cel_of c1,stm_at c1,ld_at c3,cel_of c3,stm_at c3,stm_upd,ld_same,cel_same,over,q1,q2,lx,ly,q3']
  exact kb (hk _ e0) (by simp[this])
 simp -implicitDefEqProofs[ld_at c1,cel_of c1,stm_at c1,ld_at c3,cel_of c3,stm_at c3,stm_upd,ld_same,cel_same,over,q1,q2,lx,ly,q3]
 refine evSame_ok a.evs b.evs (x.e.ext (@EvR.ext) e0) (y.e.ext (@EvR.ext) e0) h2 ?_
 by_cases q4:a.evs=b.evs
 rotate_left
 ·have:a≠b:=ne.2 fun hh=>q4 hh.2.2.2
  simp -implicitDefEqProofs[q4]
  exact kb (hk _ e0) (by simp[this])
 simp -implicitDefEqProofs[q4]
 unfold qmgZ
 rw[seqM_eq]
 unfold qmfZ
 have hab:a=b↔a.vals=b.vals:=⟨fun e=>by rw[e],fun e=>(rep_eq a b).2 ⟨q1,q2,e,q4⟩⟩
 refine loop_on [2,3,4] (fun s h'=>h'=g3∧∃ i:Nat,i≤a.vals.length∧s 5 = .int .i64 i∧a.vals.take i=b.vals.take i) (fun s _=>(a.vals.length-num (s 5)).toNat) ⟨rfl,0,by omega,rfl,by simp⟩ ?_
 rintro s h3 hf ⟨rfl,i,hi,s5,hT⟩
 have s2:s 2=ptr v1:=by simpa using hf 2 (by simp)
 have s3:s 3=ptr v3:=by simpa using hf 3 (by simp)
 have s4:s 4 = .bool false:=by simpa using hf 4 (by simp)
 unfold qmeZ
 by_cases hlt:i<a.vals.length
 ·have hlt':(i:Int)<a.vals.length:=by omega
  have hly:i<b.vals.length:=by omega
  have hw:IntKind.i64.wrap ((i:Int)+1)=(i+1:Nat):=by rw[wrap64_id (by omega) (by omega)]; omega
  obtain⟨p1,p2,i1,i2⟩:=pres_ld x.v (k:=.i64) hlt
  obtain⟨p1',p2',j1,j2⟩:=pres_ld y.v (k:=.i64) hly
  simp -implicitDefEqProofs[s2,s5,ld_at c1,cel_of c1,stm_at c1,stm_upd,ld_same,cel_same,over,lx,hlt']
  unfold qmdZ
  simp -implicitDefEqProofs[s2,s3,s5,ld_at c1,cel_of c1,stm_at c1,ld_at c3,cel_of c3,stm_at c3,stm_upd,ld_same,cel_same,over,i1,j1,ldV_n (i2 _ e0),ldV_n (j2 _ e0)]
  simp -implicitDefEqProofs only[presC,presNe]
  by_cases he:a.vals[i]=b.vals[i]
  ·simp -implicitDefEqProofs[he]
   unfold qmcZ
   simp -implicitDefEqProofs[s2,s3,s4,s5,hw,-Int.natCast_add]
   exact⟨⟨i+1,by omega,rfl,take_eq_succ hT hlt hly he⟩,by omega⟩
  ·have:a≠b:=fun e=>he (by simp only[e])
   simp -implicitDefEqProofs[he]
   unfold qmbZ
   simp -implicitDefEqProofs[s4]
   exact kb (hk _ e0) (by simp[this])
 ·have:i=a.vals.length:=by omega
  subst this
  have he:a.vals=b.vals:=by
   rw[List.take_of_length_le (Nat.le_refl _),List.take_of_length_le (by omega)] at hT; exact hT
  simp -implicitDefEqProofs[s2,s5,ld_at c1,cel_of c1,stm_at c1,stm_upd,ld_same,cel_same,over,lx]
  exact kb (hk _ e0) (by simp[hab.2 he])
end Go.Proofs.YtmbningljbcpkaaGreat
namespace Go.Proofs.YtmbningljbcpkaaGreat
open Go Go.Den Go.MapKept
set_option linter.unusedSimpArgs false
set_option linter.unusedVariables false
set_option maxRecDepth 20000
def UsrR (h:Heap)(c:List Value)(x:ByteArray × Ent):Prop:=∃ v,c = .string x.1::v::presC x.2.told∧Sl 4 SessR h v x.2.ss
theorem UsrR.ext {h h':Heap}{c:List Value}{x:ByteArray × Ent}(e:Ext h h')(r:UsrR h c x):UsrR h' c x:=let ⟨v,h1,h2⟩:=r; ⟨v,h1,h2.ext (@SessR.ext) e⟩
theorem unSlUsr:P.underlying qlZ=some (.slice qkZ):=by kernel_rfl
theorem apUsr:apC P qkZ=some (5,64,5):=by kernel_rfl
theorem bsUsr:bsI P qlZ=some (qkZ,5,#[.string ⟨#[]⟩,.slice none 0 0,.int .i64 0,.int .i64 0,.int .i64 0]):=by kernel_rfl
theorem bdUsr (k:ByteArray)(b:Option Addr)(n c:Nat)(p q r:Int):bdV (binf P qkZ) [(0,.string k),(1,.slice b n c),(2,.agg #[.int .i64 p,.int .i64 q,.int .i64 r])]=some (.agg #[.string k,.slice b n c,.int .i64 p,.int .i64 q,.int .i64 r]):=by kernel_rfl
theorem Sl.slice' {α:Type}{sz:Nat}{R:Heap→List Value→α→Prop}{h:Heap}{v:Value}{xs:List α}(x:Sl sz R h v xs):∃ b n c,v = .slice b n c:=by
 rcases x with ⟨_,a,c,rfl⟩ | ⟨b,o,cap,rfl,_⟩
 ·exact⟨_,_,_,rfl⟩
 ·exact⟨_,_,_,rfl⟩
variable {K:KTy}
theorem sessSame_ok (xs ys : List Sess) {h : Heap} {v u : Value} (x : Sl 4 SessR h v xs) (y : Sl 4 SessR h u ys) (hl : xs.length < 1000000) (hk : K (.bool (decide (xs = ys))) h) : callM P qhBZ #[v, u] h K := by
  apply qsZZ
  unfold qiNZ
  have lx := x.len
  have ly := y.len
  by_cases hlen : xs.length = ys.length
  rotate_left
  · have hne : xs ≠ ys := fun e => hlen (by rw [e])
    have hi : ¬ (xs.length : Int) = ys.length := by omega
    simp -implicitDefEqProofs [lx, ly, hi]
    rw [decide_eq_false hne] at hk; exact hk
  · have hi : (xs.length : Int) = ys.length := by omega
    simp -implicitDefEqProofs [lx, ly, hi]
    unfold qmwZ
    rw [seqM_eq]
    unfold qmvZ
    refine loop_on [0, 1, 4] (fun s h' => h' = h ∧ ∃ i : Nat, i ≤ xs.length ∧ s 5 = .int .i64 i ∧ xs.take i = ys.take i) (fun s _ => (xs.length - num (s 5)).toNat) ⟨rfl, 0, by omega, rfl, by simp⟩ ?_
    rintro s h1 hf ⟨rfl, i, hi, s5, hT⟩
    have s0 : s 0 = v := by simpa using hf 0 (by simp)
    have s1 : s 1 = u := by simpa using hf 1 (by simp)
    have s4 : s 4 = .bool false := by simpa using hf 4 (by simp)
    unfold qmuZ
    simp -implicitDefEqProofs only [s5, s0, lx, bin_lss, ov_s, cd_b]
    refine ⟨fun hc => ?_, fun hc => ?_⟩
    · have hlt : i < xs.length := by have : ((i : Int) < xs.length) := by simpa using hc
                                     omega
      have hly : i < ys.length := by omega
      have hw : IntKind.i64.wrap ((i : Int) + 1) = (i + 1 : Nat) := by rw [wrap64_id (by omega) (by omega)]; omega
      obtain ⟨b, p, i1, i2⟩ := sess_ld x (k := .i64) hlt
      obtain ⟨b', p', j1, j2⟩ := sess_ld y (k := .i64) hly
      unfold qmtZ
      simp -implicitDefEqProofs only [s0, s1, s5, i1, j1, ov_s, ldV_n (i2 _ (Ext.refl _)), ldV_n (j2 _ (Ext.refl _)), sessNe, cd_b]
      refine ⟨fun hd => ?_, fun hd => ?_⟩
      · have hne : xs[i] ≠ ys[i] := by simpa using hd
        have hne' : xs ≠ ys := fun e => hne (by subst e; rfl)
        unfold qmrZ
        simp -implicitDefEqProofs [s4]
        rw [decide_eq_false hne'] at hk; exact hk
      · have he : xs[i] = ys[i] := by simpa using hd
        unfold qmsZ
        simp -implicitDefEqProofs [s0, s1, s4, s5, hw, -Int.natCast_add]
        exact ⟨⟨i + 1, by omega, rfl, take_eq_succ hT hlt hly he⟩, by omega⟩
    · have : i = xs.length := by have : ¬ ((i : Int) < xs.length) := by simpa using hc
                                 omega
      subst this
      have he : xs = ys := by
        rw [List.take_of_length_le (Nat.le_refl _), List.take_of_length_le (by omega)] at hT; exact hT
      simp -implicitDefEqProofs
      rw [decide_eq_true he] at hk; exact hk
theorem usr_ld {F:Heap}{v:Value}{l:Book}(x:Sl 5 UsrR F v l){i:Nat}(hi:i<l.length):∃ b p sv,iaV (some (none,5)) v (.int .i64 i)=some (.pointer (some ⟨b,p,none⟩))∧(∀ h',Ext F h'→cel h' b p=some (.string l[i].1)∧cel h' b (p+1)=some sv∧ldV (some (some 3)) (.pointer (some ⟨b,p+2,none⟩)) h'=some (.agg (presC l[i].2.told).toArray))∧Sl 4 SessR F sv l[i].2.ss:=by
 obtain⟨b,p,c,h1,h2,h3⟩:=x.at (k:=.i64) (i:=i) (by omega) (by omega)
 simp -implicitDefEqProofs only[Int.toNat_natCast] at h3
 obtain⟨sv,rfl,hs⟩:=h3
 refine⟨b,p,sv,h1,fun h' e=>?_,hs⟩
 have hc:=cels_ext e h2
 have g:=(cels_get hc).2
 refine⟨g 0 (by simp[presC]),g 1 (by simp[presC]),?_⟩
 have:=cels_sub hc (j:=2) (m:=3) (by omega)
 rw[ldV_n (l:=presC l[i].2.told) (by simpa [presC] using this)]
set_option maxHeartbeats 2000000 in
theorem usrSame_ok (xs ys : Book) {h : Heap} {v u : Value} (x : Sl 5 UsrR h v xs) (y : Sl 5 UsrR h u ys) (hl : xs.length < 1000000) (hs : ∀ z ∈ xs, z.2.ss.length < 1000000) (hk : K (.bool (decide (xs = ys))) h) : callM P qhxZ #[v, u] h K := by
  apply qsUZ
  unfold qiFZ
  have lx := x.len
  have ly := y.len
  by_cases hlen : xs.length = ys.length
  rotate_left
  · have hne : xs ≠ ys := fun e => hlen (by rw [e])
    have hi : ¬ (xs.length : Int) = ys.length := by omega
    simp -implicitDefEqProofs [lx, ly, hi]
    rw [decide_eq_false hne] at hk; exact hk
  · have hi : (xs.length : Int) = ys.length := by omega
    simp -implicitDefEqProofs [lx, ly, hi]
    unfold qmaZ
    rw [seqM_eq]
    unfold qlZZ
    refine loop_on [0, 1, 4] (fun s h' => h' = h ∧ ∃ i : Nat, i ≤ xs.length ∧ s 5 = .int .i64 i ∧ xs.take i = ys.take i) (fun s _ => (xs.length - num (s 5)).toNat) ⟨rfl, 0, by omega, rfl, by simp⟩ ?_
    rintro s h1 hf ⟨rfl, i, hi, s5, hT⟩
    have s0 : s 0 = v := by simpa using hf 0 (by simp)
    have s1 : s 1 = u := by simpa using hf 1 (by simp)
    have s4 : s 4 = .bool false := by simpa using hf 4 (by simp)
    unfold qlYZ
    simp -implicitDefEqProofs only [s5, s0, lx, bin_lss, ov_s, cd_b]
    refine ⟨fun hc => ?_, fun hc => ?_⟩
    · have hlt : i < xs.length := by have : ((i : Int) < xs.length) := by simpa using hc
                                     omega
      have hly : i < ys.length := by omega
      have hw : IntKind.i64.wrap ((i : Int) + 1) = (i + 1 : Nat) := by rw [wrap64_id (by omega) (by omega)]; omega
      obtain ⟨b, p, sv, i1, i2, i3⟩ := usr_ld x hlt
      obtain ⟨b', p', sv', j1, j2, j3⟩ := usr_ld y hly
      obtain ⟨p1, p2, p3⟩ := i2 _ (Ext.refl _)
      obtain ⟨q1, q2, q3⟩ := j2 _ (Ext.refl _)
      have hss := hs _ (List.getElem_mem hlt)
      have fin : xs[i] ≠ ys[i] → K (.bool false) h1 := fun hne => by
        have hne' : xs ≠ ys := fun e => hne (by subst e; rfl)
        rw [decide_eq_false hne'] at hk; exact hk
      have hd : xs[i] = ys[i] ↔ xs[i].1 = ys[i].1 ∧ xs[i].2.told = ys[i].2.told ∧ xs[i].2.ss = ys[i].2.ss := by
        constructor
        · intro e; rw [e]; exact ⟨rfl, rfl, rfl⟩
        · rintro ⟨a1, a2, a3⟩
          have : xs[i].2 = ys[i].2 := by cases h1 : xs[i].2; cases h2 : ys[i].2; rw [h1, h2] at a2 a3; simp at a2 a3; rw [a2, a3]
          exact Prod.ext a1 this
      unfold qlXZ
      have bn : binV .neq 3 false (.string xs[i].1) (.string ys[i].1) = some (.bool (!decide (xs[i].1 = ys[i].1))) := bin_neqS _ _ _ _
      by_cases d1 : xs[i].1 = ys[i].1
      rotate_left
      · simp -implicitDefEqProofs [s0, s1, s5, i1, j1, p1, q1, bn, d1]
        unfold qdEZ
        simp -implicitDefEqProofs [s4]
        exact fin fun e => d1 (hd.1 e).1
      by_cases d2 : xs[i].2.told = ys[i].2.told
      rotate_left
      · have p3' : ldV (some (some 3)) (.pointer (some ⟨b, p + 2, none⟩)) h1 = some (.agg #[.int .i64 xs[i].2.told.st, .int .i64 xs[i].2.told.pr, .int .i64 xs[i].2.told.lv]) := p3
        have q3' : ldV (some (some 3)) (.pointer (some ⟨b', p' + 2, none⟩)) h1 = some (.agg #[.int .i64 ys[i].2.told.st, .int .i64 ys[i].2.told.pr, .int .i64 ys[i].2.told.lv]) := q3
        simp -implicitDefEqProofs [s0, s1, s5, i1, j1, p1, q1, bn, d1, p3', q3', presNe, d2]
        unfold qdEZ
        simp -implicitDefEqProofs [s4]
        exact fin fun e => d2 (hd.1 e).2.1
      have p3' : ldV (some (some 3)) (.pointer (some ⟨b, p + 2, none⟩)) h1 = some (.agg #[.int .i64 xs[i].2.told.st, .int .i64 xs[i].2.told.pr, .int .i64 xs[i].2.told.lv]) := p3
      have q3' : ldV (some (some 3)) (.pointer (some ⟨b', p' + 2, none⟩)) h1 = some (.agg #[.int .i64 ys[i].2.told.st, .int .i64 ys[i].2.told.pr, .int .i64 ys[i].2.told.lv]) := q3
      simp -implicitDefEqProofs [s0, s1, s5, i1, j1, p1, q1, p2, q2, bn, d1, p3', q3', presNe, d2]
      refine sessSame_ok _ _ i3 j3 hss ?_
      by_cases d3 : xs[i].2.ss = ys[i].2.ss
      · simp -implicitDefEqProofs [d3]
        unfold qlWZ
        simp -implicitDefEqProofs [s0, s1, s4, s5, hw, -Int.natCast_add]
        exact ⟨⟨i + 1, by omega, rfl, take_eq_succ hT hlt hly (hd.2 ⟨d1, d2, d3⟩)⟩, by omega⟩
      · simp -implicitDefEqProofs [d3]
        unfold qdEZ
        simp -implicitDefEqProofs [s4]
        exact fin fun e => d3 (hd.1 e).2.2
    · have : i = xs.length := by have : ¬ ((i : Int) < xs.length) := by simpa using hc
                                 omega
      subst this
      have he : xs = ys := by
        rw [List.take_of_length_le (Nat.le_refl _), List.take_of_length_le (by omega)] at hT; exact hT
      simp -implicitDefEqProofs
      rw [decide_eq_true he] at hk; exact hk
end Go.Proofs.YtmbningljbcpkaaGreat
namespace Go.Den
open Go
set_option linter.unusedVariables false
set_option linter.unusedSimpArgs false
def insS:List Sess→Sess→List Sess
 | [],s=>[s]
 | x::r,s=>if s.id<x.id then s::x::r else x::insS r s
theorem ins_del {s:Sess}:∀ {l:List Sess},SrtI l→insS (delS l s.id) s=putS l s
 | [],_=>rfl
 | x::r,so=>by
  obtain⟨s1,s2⟩:=List.pairwise_cons.1 so
  have ih:=ins_del (s:=s) s2
  have hr:x.id ≥ s.id→delS r s.id=r:=fun h=>List.filter_eq_self.2 fun y hy=>by
   have:=s1 y hy
   have:¬ y.id=s.id:=by omega
   simp[this]
  simp only[putS]
  by_cases h1:x.id<s.id
  ·have e:delS (x::r) s.id=x::delS r s.id:=by
    have:¬ x.id=s.id:=by omega
    simp[delS,this]
   rw[if_pos h1,e,insS,if_neg (by omega),ih]
  rw[if_neg h1]
  by_cases h2:x.id=s.id
  ·have e:delS (x::r) s.id=r:=by
    have:=hr (by omega)
    unfold delS at this ⊢
    rw[List.filter_cons,if_neg (by simp[h2]),this]
   rw[if_pos h2,e]
   cases r with
   | nil=>rfl
   | cons y r' =>
    have:=s1 y (by simp)
    rw[insS,if_pos (by omega)]
  ·have e:delS (x::r) s.id=x::r:=by
    have:=hr (by omega)
    unfold delS at this ⊢
    rw[List.filter_cons,if_pos (by simp[h2]),this]
   rw[if_neg h2,e,insS,if_pos (by omega)]
theorem del_none {l:List Sess}{id:Int}(h:hasI l id=false):delS l id=l:=List.filter_eq_self.2 fun y hy=>by
 have:¬ y.id=id:=fun e=>by
  have:hasI l id=true:=hasI_iff.2 ⟨y,hy,e⟩
  rw[h] at this; cases this
 simp[this]
theorem clear_eq (l:List Sess)(id:Int):clearS l id=(delS l id,if hasI l id then 0 else 3):=by
 unfold clearS
 cases h:hasI l id with
 | true=>simp
 | false=>simp[del_none h]
def beat1 (id un:Int)(s:Sess):Sess:=if s.id=id∧s.un<un then { s with un:=un } else s
theorem beat_eq (l:List Sess)(id un:Int):beatS l id un=if hasI l id then (l.map (beat1 id un),0) else (l,3):=by
 unfold beatS
 split
 ·congr 1
  refine List.map_congr_left fun s _=>?_
  unfold beat1
  by_cases h:s.id=id
  ·by_cases h2:s.un<un
   ·simp only[h,h2,and_self,if_true]
    congr 1; omega
   ·rw[if_pos h,if_neg (by omega)]
    have:max s.un un=s.un:=by omega
    rw[this]
  ·simp[h]
 ·rfl
def beatsI (l:List Sess)(k i:Nat):Prop:=∃ (hk:k<l.length) (hi:i<l.length),l[i].pr<l[k].pr∨(l[k].pr=l[i].pr∧(l[k].id<l[i].id∨(l[k].id=l[i].id∧k<i)))
def accL (l:List Sess):Sess × Nat:=l.foldl (fun x s=>(if x.2=0 || better s x.1 then s else x.1,x.2+1)) (⟨0,0,0,0⟩,0)
theorem accL_purge (l:List Sess)(now:Int):ofAcc l now=accL (purgeS l now):=by
 unfold ofAcc accL
 generalize ((⟨0,0,0,0⟩,0):Sess × Nat)=z
 induction l generalizing z with
 | nil=>rfl
 | cons s l ih =>
  rw[List.foldl_cons,ih]
  unfold purgeS
  rw[List.filter_cons]
  unfold ofStep
  cases h:late now s.un with
  | true=>simp[h]
  | false=>simp[h]
theorem accL_snoc (l:List Sess)(s:Sess):accL (l++[s])=(if (accL l).2=0 || better s (accL l).1 then s else (accL l).1,(accL l).2+1):=by simp[accL]
theorem snoc_ind {α:Type}{P:List α→Prop}(h0:P [])(h1:∀ l a,P l→P (l++[a])):∀ l,P l:=fun l=>by
 have:∀ m:List α,P m.reverse:=fun m=>by
  induction m with
  | nil=>exact h0
  | cons a m ih=>rw[List.reverse_cons]; exact h1 _ _ ih
 have h:=this l.reverse
 rwa [List.reverse_reverse] at h
theorem accL_spec (l:List Sess):(accL l).2=l.length∧(l≠[]→∃ i,∃ hi:i<l.length,l[i]=(accL l).1∧∀ k,¬ beatsI l k i):=by
 refine snoc_ind (P:=fun l=>(accL l).2=l.length∧(l≠[]→∃ i,∃ hi:i<l.length,l[i]=(accL l).1∧∀ k,¬ beatsI l k i)) ⟨rfl,fun h=>absurd rfl h⟩ (fun l s ih=>?_) l
 obtain⟨h1,h2⟩:=ih
 rw[accL_snoc]
 refine⟨by simp[h1],fun _=>?_⟩
 have hget:∀ k (hk:k<l.length),(l++[s])[k]'(by simp; omega)=l[k]:=fun k hk=>List.getElem_append_left hk
 have hlast:∀ (h:l.length<(l++[s]).length),(l++[s])[l.length]=s:=fun h=>by simp
 by_cases hl:l=[]
 ·subst hl
  refine⟨0,by simp,by simp[accL],fun k hk=>?_⟩
  obtain⟨a,b,c⟩:=hk
  have:k=0:=by simp at a; omega
  subst this
  simp at c
 obtain⟨i,hi,e,hb⟩:=h2 hl
 have hlen:¬ (accL l).2=0:=by
  rw[h1]; intro h; exact hl (List.length_eq_zero_iff.1 h)
 by_cases hbt:better s (accL l).1=true
 ·simp only[hbt,Bool.or_true,if_true]
  refine⟨l.length,by simp,hlast _,fun k hk=>?_⟩
  obtain⟨a,b,c⟩:=hk
  rw[hlast b] at c
  have ha:k≤l.length:=by simp at a; omega
  by_cases hkl:k=l.length
  ·subst hkl
   rw[hlast a] at c
   omega
  have hk':k<l.length:=by omega
  rw[hget k hk'] at c
  have hnb:¬ beatsI l k i:=hb k
  apply hnb
  refine⟨hk',hi,?_⟩
  rw[e]
  simp only[better,Bool.or_eq_true,Bool.and_eq_true,decide_eq_true_eq] at hbt
  omega
 ·have hbt':better s (accL l).1=false:=by simpa using hbt
  have hz:(decide ((accL l).2=0) || better s (accL l).1)=false:=by simp[hlen,hbt']
  rw[hz]
  refine⟨i,by simp; omega,by rw[hget i hi]; simpa using e,fun k hk=>?_⟩
  obtain⟨a,b,c⟩:=hk
  rw[hget i hi] at c
  have ha:k≤l.length:=by simp at a; omega
  by_cases hkl:k=l.length
  ·subst hkl
   rw[hlast a] at c
   rw[e] at c
   simp only[better,Bool.or_eq_false_iff,Bool.and_eq_false_iff,decide_eq_false_iff_not] at hbt'
   omega
  have hk':k<l.length:=by omega
  rw[hget k hk'] at c
  exact hb k ⟨hk',hi,c⟩
theorem pres_first {l:List Sess}{now:Int}{i:Nat}(hi:i<(purgeS l now).length)(hf:∀ k,¬ beatsI (purgeS l now) k i):presOf l now=⟨(purgeS l now)[i].st,(purgeS l now)[i].pr,(purgeS l now).length⟩:=by
 have hne:purgeS l now≠[]:=fun h=>by rw[h] at hi; simp at hi
 obtain⟨h1,h2⟩:=accL_spec (purgeS l now)
 obtain⟨j,hj,e,hb⟩:=h2 hne
 have hij:i=j:=by
  by_cases hc:i=j
  ·exact hc
  exfalso
  have n1:=hf j
  have n2:=hb i
  have n1:¬ ((purgeS l now)[i].pr<(purgeS l now)[j].pr∨((purgeS l now)[j].pr=(purgeS l now)[i].pr∧((purgeS l now)[j].id<(purgeS l now)[i].id∨((purgeS l now)[j].id=(purgeS l now)[i].id∧j<i)))):=fun h=>n1 ⟨hj,hi,h⟩
  have n2:¬ ((purgeS l now)[j].pr<(purgeS l now)[i].pr∨((purgeS l now)[i].pr=(purgeS l now)[j].pr∧((purgeS l now)[i].id<(purgeS l now)[j].id∨((purgeS l now)[i].id=(purgeS l now)[j].id∧i<j)))):=fun h=>n2 ⟨hi,hj,h⟩
  omega
 subst hij
 unfold presOf
 rw[accL_purge,← e,h1]
theorem pres_none {l:List Sess}{now:Int}(h:purgeS l now=[]):presOf l now=⟨0,0,0⟩:=by
 unfold presOf
 rw[accL_purge,h]; rfl
theorem pres_some {l:List Sess}{now:Int}(h:purgeS l now≠[]):∃ i,i<(purgeS l now).length∧∀ k,¬ beatsI (purgeS l now) k i:=by
 obtain⟨i,hi,_,hb⟩:=(accL_spec (purgeS l now)).2 h
 exact⟨i,hi,hb⟩
def becR (u:ByteArray)(e:Ent):Book→Bool→Book
 | [],put=>if put then [] else [(u,e)]
 | x::r,put=>(if !put && !ltS x.1 u then [(u,e)] else [])++((if x.1=u then [] else [x])++becR u e r (put || !ltS x.1 u))
theorem becR_put (u:ByteArray)(e:Ent):∀ b:Book,becR u e b true=delB b u
 | []=>rfl
 | x::r=>by
  unfold becR
  rw[Bool.true_or,becR_put u e r]
  unfold delB
  by_cases h:x.1=u
  ·simp[h]
  ·simp[h]
theorem becR_new (u:ByteArray)(e:Ent):∀ {b:Book},SrtK (keysL b)→becR u e b false=putB b u e
 | [],_=>rfl
 | (k,y)::r,so=>by
  obtain⟨s1,s2⟩:=List.pairwise_cons.1 so
  unfold becR
  simp only[putB]
  cases hk:ltS k u with
  | true =>
   have hne:¬ k=u:=fun e=>by rw[e,ltS_irrefl] at hk; cases hk
   simp[hk,hne,becR_new u e s2]
  | false =>
   have hn:u ∉ keysL r:=fun h=>by
    have:=s1 u h
    have:=ltS_asymm this
    by_cases hku:k=u
    ·subst hku
     have h2:=s1 k h
     rw[ltS_irrefl] at h2; cases h2
    ·rcases (ltS_total hk (by simpa using this)) with rfl
     exact hku rfl
   by_cases hku:k=u
   ·simp[hk,hku,becR_put,delB_none hn]
   ·simp[hk,hku,becR_put,delB_none hn]
theorem settle_eq {b:Book}(so:SrtK (keysL b))(u:ByteArray)(ss:List Sess)(now:Int):(settleB b u ss now).1=becR u ⟨ss,presOf ss now⟩ b (decide (ss=[])):=by
 unfold settleB
 by_cases h:ss=[]
 ·simp[h,becR_put]
 ·simp[h,becR_new _ _ so]
end Go.Den
namespace Go.Proofs.YtmbningljbcpkaaGreat
open Go Go.Den Go.MapKept
set_option linter.unusedSimpArgs false
set_option linter.unusedVariables false
set_option maxRecDepth 20000
theorem unSlSs:P.underlying qbZ=some (.slice qcZ):=by kernel_rfl
theorem apSs:apC P qcZ=some (4,32,4):=by kernel_rfl
theorem bsSs:bsI P qbZ=some (qcZ,4,#[.int .i64 0,.int .i64 0,.int .i64 0,.int .u64 0]):=by kernel_rfl
theorem purgeS_snoc (l:List Sess)(s:Sess)(now:Int):purgeS (l++[s]) now=if now<s.un then purgeS l now++[s] else purgeS l now:=by
 unfold purgeS
 rw[List.filter_append]
 by_cases h:now<s.un
 ·rw[if_pos h,List.filter_cons_of_pos (by simp[late]; omega)]; rfl
 ·rw[if_neg h,List.filter_cons_of_neg (by simp[late]; omega)]; simp
variable {K:KTy}
theorem rpurge_ok (l:List Sess)(now:Int){h:Heap}{v:Value}(x:Sl 4 SessR h v l)(hl:l.length<1000000)
  (hk:∀ h' v',Rf 4 qcZ h h' v' (purgeS l now).length ((purgeS l now).flatMap sessC)→K v' h'):callM P qbzZ #[v,.int .u64 now] h K:=by
 apply qsuZ
 unfold qhTZ
 have lx:=x.len
 rw[seqM_eq]
 unfold qlwZ
 refine loop_on [0,1] (fun s h'=>∃ i:Nat,i≤l.length∧s 6 = .int .i64 i∧Rf 4 qcZ h h' (s 5) (purgeS (l.take i) now).length ((purgeS (l.take i) now).flatMap sessC)) (fun s _=>(l.length-num (s 6)).toNat) ⟨0,by omega,by simp,by simpa [purgeS] using Rf.nil (Ext.refl _)⟩ ?_
 rintro s h1 hf ⟨i,hi,s6,r⟩
 have s0:s 0=v:=by simpa using hf 0 (by simp)
 have s1:s 1 = .int .u64 now:=by simpa using hf 1 (by simp)
 unfold qlvZ
 simp -implicitDefEqProofs[s0,s6,lx]
 refine⟨fun hc=>?_,fun hc=>?_⟩
 rotate_left
 ·have hie:i=l.length:=by omega
  subst hie
  rw[List.take_of_length_le (Nat.le_refl _)] at r
  exact hk _ _ r
 ·have hlt:i<l.length:=by omega
  have hw:IntKind.i64.wrap ((i:Int)+1)=(i+1:Nat):=by rw[wrap64_id (by omega) (by omega)]; omega
  obtain⟨b,p,i1,i2⟩:=sess_ld x hlt (k:=.i64)
  have i2:=i2 h1 r.ex
  have un:cel h1 b (p+3)=some (.int .u64 l[i].un):=(cels_get i2).2 3 (by simp[sessC])
  have ps:=purgeS_snoc (l.take i) l[i] now
  rw[← List.take_succ_eq_append_getElem hlt] at ps
  have hlen:(purgeS (l.take i) now).length≤l.length:=by unfold purgeS; have:=List.length_filter_le (fun s=>!late now s.un) (l.take i); simp at this ⊢; omega
  unfold qluZ
  rw[seqM_eq]
  unfold qltZ
  simp -implicitDefEqProofs[s0,s1,s6,i1,un]
  refine⟨fun hc2=>?_,fun hc2=>?_⟩
  ·rw[if_pos hc2] at ps
   unfold qlsZ
   simp -implicitDefEqProofs[s0,s6,i1,ldV_n i2]
   refine bs_one bsSs (by simp[sessC]) (by simp[sessC]) fun b2 h2 n2 e2 c2=>?_
   refine Rf.app2 (m:=1) (news:=sessC l[i]) unSlSs apSs (by omega) (r.ext e2) (.inr ⟨b2,0,1,rfl,cels_one c2 (by simp[sessC])⟩) (by simp[sessC]) (by unfold maxLen; omega) (by omega) fun v' h3 r3 hkp hrow=>?_
   unfold qlrZ
   simp -implicitDefEqProofs[s0,s1,s6,hw,-Int.natCast_add]
   refine⟨⟨i+1,by omega,rfl,?_⟩,by omega⟩
   rw[ps]
   simpa using r3
  ·rw[if_neg (by omega)] at ps
   simp -implicitDefEqProofs[s0,s1,s6,hw,-Int.natCast_add]
   exact⟨⟨i+1,by omega,rfl,by rw[ps]; exact r⟩,by omega⟩
theorem bdPres0:bdV (binf P qhZ) []=some (.agg #[.int .i64 0,.int .i64 0,.int .i64 0]):=by kernel_rfl
theorem bdPres (a b c:Int):bdV (binf P qhZ) [(0,.int .i64 a),(1,.int .i64 b),(2,.int .i64 c)]=some (.agg #[.int .i64 a,.int .i64 b,.int .i64 c]):=by kernel_rfl
theorem beats_iff {l:List Sess}{k i:Nat}(hk:k<l.length)(hi:i<l.length):beatsI l k i↔(l[i].pr<l[k].pr∨(l[k].pr=l[i].pr∧(l[k].id<l[i].id∨(l[k].id=l[i].id∧k<i)))) :=
 ⟨fun ⟨_,_,h⟩=>h,fun h=>⟨hk,hi,h⟩⟩
def OfI (L:List Sess)(i k:Nat)(v:Value):Prop:=∃ f:Bool,v = .bool f∧(f=true→∀ j,j<k→¬ beatsI L j i)∧(f=false→∃ j,beatsI L j i)
set_option maxHeartbeats 4000000 in
theorem rof_ok (l:List Sess)(now:Int){h:Heap}{v:Value}(x:Sl 4 SessR h v l)(hl:l.length<1000000)
  (hk:∀ h',Ext h h'→K (.agg (presC (presOf l now)).toArray) h'):callM P qjrZ #[v,.int .u64 now] h K:=by
 apply qujZ
 unfold qkGZ
 rw[zcPres]
 refine nw_agg fun v1 h1 n1 e1 c1=>?_
 refine rpurge_ok l now (x.ext (@SessR.ext) e1) hl fun h4 v3 r4=>?_
 have c1:=r4.ex _ _ c1
 have e4:=e1.trans r4.ex
 obtain⟨L,hL⟩:∃ L,purgeS l now=L:=⟨_,rfl⟩
 rw[hL] at r4
 have y:=rf_sess r4
 have ly:=y.len
 have hle:L.length≤l.length:=by rw[← hL]; unfold purgeS; exact List.length_filter_le _ _
 unfold qoTZ
 rw[seqM_eq]
 unfold qoSZ
 refine loop_on [4,5] (fun s h'=>h'=h4∧∃ i:Nat,i≤L.length∧s 6 = .int .i64 i∧∀ j,j<i→∃ k,beatsI L k j) (fun s _=>(L.length-num (s 6)).toNat) ⟨rfl,0,by omega,by simp,fun j hj=>by omega⟩ ?_
 rintro s h5 hf ⟨rfl,i,hi,s6,hb⟩
 have s4:s 4=ptr v1:=by simpa using hf 4 (by simp)
 have s5:s 5=v3:=by simpa using hf 5 (by simp)
 unfold qoRZ
 simp -implicitDefEqProofs[s5,s6,ly]
 refine⟨fun hc=>?_,fun hc=>?_⟩
 rotate_left
 ·have hie:i=L.length:=by omega
  have hnil:purgeS l now=[]:=by
   by_cases hne:purgeS l now=[]
   ·exact hne
   ·obtain⟨j,h1,h2⟩:=pres_some hne
    rw[hL] at h1 h2
    obtain⟨k,hk⟩:=hb j (by omega)
    exact absurd hk (h2 k)
  rw[pres_none hnil] at hk
  have tg:tagg P qhZ=some (some 3):=by kernel_rfl
  simp -implicitDefEqProofs[s4,bdPres0,ld_at c1,cel_of c1,stm_at c1,stm_upd,ld_same,cel_same,over,tg]
  exact hk _ (ext_upd n1 e4)
 ·have hlt:i<L.length:=by omega
  have hw:IntKind.i64.wrap ((i:Int)+1)=(i+1:Nat):=by rw[wrap64_id (by omega) (by omega)]; omega
  obtain⟨bi,pi,i1,i2⟩:=sess_ld y hlt (k:=.i64)
  have i2:=(cels_get (i2 _ (Ext.refl _))).2
  have i20:cel h5 bi pi=some (.int .i64 L[i].id):=i2 0 (by simp[sessC])
  have i21:cel h5 bi (pi+1)=some (.int .i64 L[i].st):=i2 1 (by simp[sessC])
  have i22:cel h5 bi (pi+2)=some (.int .i64 L[i].pr):=i2 2 (by simp[sessC])
  unfold qoQZ
  rw[seqM_eq]
  unfold qoPZ
  rw[seqM_eq]
  unfold qoOZ
  refine loop_on [4,5,6] (fun r h'=>h'=h5∧∃ k:Nat,k≤L.length∧r 8 = .int .i64 k∧OfI L i k (r 7)) (fun r _=>(L.length-num (r 8)).toNat) ⟨rfl,0,by omega,by simp,true,by simp,fun _ j hj=>by omega,fun h=>by cases h⟩ ?_
  rintro r h6 hf6 ⟨rfl,k,hk',r8,f,r7,ft,ff⟩
  have r4':r 4=ptr v1:=by simpa [s4] using hf6 4 (by simp)
  have r5:r 5=v3:=by simpa [s5] using hf6 5 (by simp)
  have r6:r 6 = .int .i64 i:=by simpa [s6] using hf6 6 (by simp)
  unfold qoNZ
  simp -implicitDefEqProofs[r5,r8,ly]
  refine⟨fun hc2=>?_,fun hc2=>?_⟩
  ·have hlk:k<L.length:=by omega
   have hwk:IntKind.i64.wrap ((k:Int)+1)=(k+1:Nat):=by rw[wrap64_id (by omega) (by omega)]; omega
   obtain⟨bk,pk,k1,k2⟩:=sess_ld y hlk (k:=.i64)
   have k2:=(cels_get (k2 _ (Ext.refl _))).2
   have k20:cel h6 bk pk=some (.int .i64 L[k].id):=k2 0 (by simp[sessC])
   have k22:cel h6 bk (pk+2)=some (.int .i64 L[k].pr):=k2 2 (by simp[sessC])
   have bi':=beats_iff hlk hlt
   unfold qoMZ
   rw[seqM_eq]
   unfold qoLZ
   by_cases p1:L[i].pr<L[k].pr
   ·have bb:=bi'.2 (.inl p1)
    simp -implicitDefEqProofs[r5,r6,r8,i1,k1,i20,i22,k20,k22,p1]
    unfold qeqZ
    simp -implicitDefEqProofs[r4',r5,r6,r8,r7,hwk,s4,s5,s6,-Int.natCast_add]
    exact⟨⟨k+1,by omega,rfl,⟨false,rfl,(fun h=>by cases h),fun _=>⟨k,bb⟩⟩⟩,by omega⟩
   have keep:¬ beatsI L k i→∀ j,j<k+1→f=true→¬ beatsI L j i:=fun nb j hj hft=>by
    by_cases hjk:j<k
    ·exact ft hft j hjk
    ·have:j=k:=by omega
     subst this; exact nb
   by_cases p2:L[k].pr=L[i].pr
   rotate_left
   ·have nb:¬ beatsI L k i:=fun h=>by rcases bi'.1 h with h | h; exact p1 h; exact p2 h.1
    simp -implicitDefEqProofs[r5,r6,r8,i1,k1,i20,i22,k20,k22,p1,p2]
    unfold qerZ
    simp -implicitDefEqProofs[r4',r5,r6,r8,r7,hwk,s4,s5,s6,-Int.natCast_add]
    exact⟨⟨k+1,by omega,rfl,⟨f,rfl,fun hft j hj=>keep nb j hj hft,ff⟩⟩,by omega⟩
   by_cases p3:L[k].id<L[i].id
   ·have bb:=bi'.2 (.inr ⟨p2,.inl p3⟩)
    simp -implicitDefEqProofs[r5,r6,r8,i1,k1,i20,i22,k20,k22,p1,p2,p3]
    unfold qeqZ
    simp -implicitDefEqProofs[r4',r5,r6,r8,r7,hwk,s4,s5,s6,-Int.natCast_add]
    exact⟨⟨k+1,by omega,rfl,⟨false,rfl,(fun h=>by cases h),fun _=>⟨k,bb⟩⟩⟩,by omega⟩
   by_cases p4:L[k].id=L[i].id
   rotate_left
   ·have nb:¬ beatsI L k i:=fun h=>by rcases bi'.1 h with h | ⟨_,h | h⟩; exact p1 h; exact p3 h; exact p4 h.1
    simp -implicitDefEqProofs[r5,r6,r8,i1,k1,i20,i22,k20,k22,p1,p2,p3,p4]
    unfold qerZ
    simp -implicitDefEqProofs[r4',r5,r6,r8,r7,hwk,s4,s5,s6,-Int.natCast_add]
    exact⟨⟨k+1,by omega,rfl,⟨f,rfl,fun hft j hj=>keep nb j hj hft,ff⟩⟩,by omega⟩
   by_cases p5:k<i
   ·have bb:=bi'.2 (.inr ⟨p2,.inr ⟨p4,p5⟩⟩)
    have p5':(k:Int)<i:=by omega
    simp -implicitDefEqProofs[r5,r6,r8,i1,k1,i20,i22,k20,k22,p1,p2,p3,p4,p5]
    unfold qeqZ
    simp -implicitDefEqProofs[r4',r5,r6,r8,r7,hwk,s4,s5,s6,-Int.natCast_add]
    exact⟨⟨k+1,by omega,rfl,⟨false,rfl,(fun h=>by cases h),fun _=>⟨k,bb⟩⟩⟩,by omega⟩
   ·have nb:¬ beatsI L k i:=fun h=>by rcases bi'.1 h with h | ⟨_,h | ⟨_,h⟩⟩; exact p1 h; exact p3 h; exact p5 h
    simp -implicitDefEqProofs[r5,r6,r8,i1,k1,i20,i22,k20,k22,p1,p2,p3,p4,p5]
    unfold qerZ
    simp -implicitDefEqProofs[r4',r5,r6,r8,r7,hwk,s4,s5,s6,-Int.natCast_add]
    exact⟨⟨k+1,by omega,rfl,⟨f,rfl,fun hft j hj=>keep nb j hj hft,ff⟩⟩,by omega⟩
  ·have hke:k=L.length:=by omega
   unfold qnZZ
   cases f with
   | false =>
    simp -implicitDefEqProofs[r7,r4',r5,r6,r8,hw,s4,s5,s6,-Int.natCast_add]
    refine⟨⟨i+1,by omega,rfl,fun j hj=>?_⟩,by omega⟩
    by_cases hji:j<i
    ·exact hb j hji
    ·have:j=i:=by omega
     subst this; exact ff rfl
   | true =>
    have hfi:∀ j,¬ beatsI L j i:=fun j hj=>by
     have h1:=hj
     obtain⟨h1,_⟩:=h1
     exact ft rfl j (by omega) hj
    have hp:=pres_first (l:=l) (now:=now) (i:=i) (by rw[hL]; exact hlt) (by rw[hL]; exact hfi)
    simp -implicitDefEqProofs only[hL] at hp
    have tg:tagg P qhZ=some (some 3):=by kernel_rfl
    simp -implicitDefEqProofs[r7]
    unfold qnYZ
    simp -implicitDefEqProofs[r4',r5,r6,i1,i21,i22,ly,bdPres,ld_at c1,cel_of c1,stm_at c1,stm_upd,ld_same,cel_same,over,tg]
    rw[hp] at hk
    exact hk _ (ext_upd n1 e4)
theorem entOf_at:∀ {b:Book} {u:ByteArray} {i:Nat} (hi:i<b.length),b[i].1=u→(∀ j (h:j<i),b[j].1≠u)→entOf b u=b[i].2
 | [],_,_,hi,_,_=>absurd hi (by simp)
 | (k,e)::r,u,0,_,h,_=>by show (if k=u then e else entOf r u)=e; exact if_pos h
 | (k,e)::r,u,i+1,hi,h,hn=>by
  show (if k=u then e else entOf r u)=_
  have h0:¬ k=u:=hn 0 (by omega)
  rw[if_neg h0]
  exact entOf_at (by simpa using hi) h fun j hj=>hn (j+1) (by omega)
theorem entOf_no:∀ {b:Book} {u:ByteArray},(∀ j (h:j<b.length),b[j].1≠u)→entOf b u=ent0
 | [],_,_=>rfl
 | (k,e)::r,u,hn=>by
  show (if k=u then e else entOf r u)=_
  have h0:¬ k=u:=hn 0 (by simp)
  rw[if_neg h0]
  exact entOf_no fun j hj=>hn (j+1) (by simpa using hj)
theorem zcUsr:zc P qkZ=some #[.string ⟨#[]⟩,.slice none 0 0,.int .i64 0,.int .i64 0,.int .i64 0]:=by kernel_rfl
theorem bdUsrN (k:ByteArray):bdV (binf P qkZ) [(0,.string k)]=some (.agg #[.string k,.slice none 0 0,.int .i64 0,.int .i64 0,.int .i64 0]):=by kernel_rfl
theorem bin_eqlS (t:Nat)(c:Bool)(a b:ByteArray):binV .eql t c (.string a) (.string b)=some (.bool (decide (a=b))):=by
 simp -implicitDefEqProofs only[binV,strV]
 by_cases h:a=b
 ·subst h; simp
 ·have:¬ a.toList=b.toList:=fun e=>h (str_inj e)
  simp -implicitDefEqProofs[h,this]
theorem rfind_ok (b:Book)(u:ByteArray){h:Heap}{v:Value}(x:Sl 5 UsrR h v b)(hl:b.length<1000000)
  (hk:∀ h' sv,Ext h h'→Sl 4 SessR h sv (entOf b u).ss→K (.agg (.string u::sv::presC (entOf b u).told).toArray) h'):callM P qeiZ #[v,.string u] h K:=by
 apply qtgZ
 unfold qiVZ
 have lx:=x.len
 have tg:tagg P qkZ=some (some 5):=by kernel_rfl
 rw[zcUsr]
 refine nw_agg fun v1 h1 n1 e1 c1=>?_
 rw[seqM_eq]
 unfold qmHZ
 refine loop_on [0,1,4] (fun s h'=>h'=h1∧∃ i:Nat,i≤b.length∧s 5 = .int .i64 i∧∀ j (hj:j<b.length),j<i→b[j].1≠u) (fun s _=>(b.length-num (s 5)).toNat) ⟨rfl,0,by omega,by simp,fun j _ hj=>by omega⟩ ?_
 rintro s h2 hf ⟨rfl,i,hi,s5,hn⟩
 have s0:s 0=v:=by simpa using hf 0 (by simp)
 have s1:s 1 = .string u:=by simpa using hf 1 (by simp)
 have s4:s 4=ptr v1:=by simpa using hf 4 (by simp)
 unfold qmGZ
 simp -implicitDefEqProofs[s0,s5,lx]
 refine⟨fun hc=>?_,fun hc=>?_⟩
 ·have hlt:i<b.length:=by omega
  have hw:IntKind.i64.wrap ((i:Int)+1)=(i+1:Nat):=by rw[wrap64_id (by omega) (by omega)]; omega
  obtain⟨ub,up,uc,a1,a2,a3⟩:=x.at (k:=.i64) (i:=i) (by omega) (by omega)
  simp -implicitDefEqProofs only[Int.toNat_natCast] at a3
  obtain⟨sv,rfl,hs⟩:=a3
  have hcs:=cels_ext e1 a2
  have q0:cel h2 ub up=some (.string b[i].1):=(cels_get hcs).2 0 (by simp[presC])
  unfold qmFZ
  have bn:binV .eql 3 false (.string b[i].1) (.string u)=some (.bool (decide (b[i].1=u))):=bin_eqlS _ _ _ _
  by_cases hb:b[i].1=u
  ·have he:=entOf_at hlt hb fun j hj=>hn j (by omega) hj
   have bn:binV .eql 3 false (.string b[i].1) (.string u)=some (.bool true):=by rw[bn,decide_eq_true hb]
   simp -implicitDefEqProofs[s0,s1,s5,a1,q0,bn]
   unfold qmDZ
   have ho:=hs.one
   simp -implicitDefEqProofs[s0,s4,s5,a1,ldV_n hcs]
   rw[stm_at (n:=5) c1 (by simp[presC]) (by simp) (by simp[presC,ho.1])]
   rw[he] at hk
   have:=hk _ sv (ext_upd (o:=.cells (over #[.string ⟨#[]⟩,.slice none 0 0,.int .i64 0,.int .i64 0,.int .i64 0] 0 (Value.agg (Value.string b[i].1::sv::presC b[i].2.told).toArray).cells.toList) qkZ (0,0)) n1 e1) hs
   simp -implicitDefEqProofs[s4,tg,stm_upd,ld_same,cel_same,over,presC]
   simp -implicitDefEqProofs only[← hb,presC] at this
   simpa [over] using this
  ·have bn:binV .eql 3 false (.string b[i].1) (.string u)=some (.bool false):=by rw[bn,decide_eq_false hb]
   simp -implicitDefEqProofs[s0,s1,s5,a1,q0,bn]
   unfold qmEZ
   simp -implicitDefEqProofs[s0,s1,s4,s5,hw,-Int.natCast_add]
   refine⟨⟨i+1,by omega,rfl,fun j hj hji=>?_⟩,by omega⟩
   by_cases hjj:j<i
   ·exact hn j hj hjj
   ·have:j=i:=by omega
    subst this; exact hb
 ·have he:=entOf_no (b:=b) (u:=u) fun j hj=>hn j hj (by omega)
  unfold qmIZ
  simp -implicitDefEqProofs[s1,s4,bdUsrN,ld_at c1,cel_of c1,stm_at c1,stm_upd,ld_same,cel_same,over,tg]
  rw[he] at hk
  have:=hk (upd h2 v1 (.cells #[.string u,.slice none 0 0,.int .i64 0,.int .i64 0,.int .i64 0] qkZ (0,0))) (.slice none 0 0) (ext_upd n1 e1) (.inl ⟨rfl,_,_,rfl⟩)
  exact this
end Go.Proofs.YtmbningljbcpkaaGreat
namespace Go.Proofs.YtmbningljbcpkaaGreat
open Go Go.Den Go.MapKept
set_option linter.unusedSimpArgs false
set_option linter.unusedVariables false
set_option maxRecDepth 20000
theorem rf_sessT {T:Tags}{h0 h:Heap}{v:Value}{l:List Sess}(r:Rf 4 qcZ h0 h v l.length (l.flatMap sessC))(w:Wf T h0):Sl 4 SessR (fz T h) v l:=by
 rw[← map_flat] at r
 exact r.sl w rfl (El.enc (enc:=sessC) (fun _=>rfl) (fun y=>by simp[sessC]) fun h y=>rfl)
variable {K:KTy}
theorem rhas_ok (l:List Sess)(id:Int){h:Heap}{v:Value}(x:Sl 4 SessR h v l)(hl:l.length<1000000)(hk:K (.bool (hasI l id)) h):callM P qcxZ #[v,.int .i64 id] h K:=by
 apply qtRZ
 unfold qjMZ
 have lx:=x.len
 rw[seqM_eq]
 unfold qnXZ
 refine loop_on [0,1,4] (fun s h'=>h'=h∧∃ i:Nat,i≤l.length∧s 5 = .int .i64 i∧∀ j (hj:j<l.length),j<i→l[j].id≠id) (fun s _=>(l.length-num (s 5)).toNat) ⟨rfl,0,by omega,by simp,fun j _ hj=>by omega⟩ ?_
 rintro s h1 hf ⟨rfl,i,hi,s5,hn⟩
 have s0:s 0=v:=by simpa using hf 0 (by simp)
 have s1:s 1 = .int .i64 id:=by simpa using hf 1 (by simp)
 have s4:s 4 = .bool false:=by simpa using hf 4 (by simp)
 unfold qnWZ
 simp -implicitDefEqProofs[s0,s5,lx]
 refine⟨fun hc=>?_,fun hc=>?_⟩
 rotate_left
 ·have e:hasI l id=false:=by
   rw[Bool.eq_false_iff]
   intro h
   obtain⟨y,hy,h2⟩:=hasI_iff.1 h
   obtain⟨j,hj,rfl⟩:=List.getElem_of_mem hy
   exact hn j hj (by omega) h2
  rw[e] at hk
  exact hk
 ·have hlt:i<l.length:=by omega
  have hw:IntKind.i64.wrap ((i:Int)+1)=(i+1:Nat):=by rw[wrap64_id (by omega) (by omega)]; omega
  obtain⟨b,p,i1,i2⟩:=sess_ld x hlt (k:=.i64)
  have q0:cel h1 b p=some (.int .i64 l[i].id):=(cels_get (i2 _ (Ext.refl _))).2 0 (by simp[sessC])
  unfold qnVZ
  simp -implicitDefEqProofs[s0,s1,s5,i1,q0]
  refine⟨fun he=>?_,fun he=>?_⟩
  ·have e:hasI l id=true:=hasI_iff.2 ⟨l[i],List.getElem_mem hlt,he⟩
   rw[e] at hk
   unfold qnTZ
   simp -implicitDefEqProofs
   exact hk
  ·unfold qnUZ
   simp -implicitDefEqProofs[s0,s1,s4,s5,hw,-Int.natCast_add]
   refine⟨⟨i+1,by omega,rfl,fun j hj hji=>?_⟩,by omega⟩
   by_cases hjj:j<i
   ·exact hn j hj hjj
   ·have:j=i:=by omega
    subst this; exact he
theorem delS_snoc (l:List Sess)(s:Sess)(id:Int):delS (l++[s]) id=if s.id=id then delS l id else delS l id++[s]:=by
 unfold delS
 rw[List.filter_append]
 by_cases h:s.id=id
 ·rw[if_pos h,List.filter_cons_of_neg (by simp[h])]; simp
 ·rw[if_neg h,List.filter_cons_of_pos (by simp[h])]; rfl
theorem rclear_ok (l:List Sess)(id:Int){h:Heap}{v:Value}(x:Sl 4 SessR h v l)(hl:l.length<1000000)
  (hk:∀ h' v',Rf 4 qcZ h h' v' (delS l id).length ((delS l id).flatMap sessC)→K v' h'):callM P qdDZ #[v,.int .i64 id] h K:=by
 apply qsvZ
 unfold qhVZ
 have lx:=x.len
 rw[seqM_eq]
 unfold qlCZ
 refine loop_on [0,1] (fun s h'=>∃ i:Nat,i≤l.length∧s 6 = .int .i64 i∧Rf 4 qcZ h h' (s 5) (delS (l.take i) id).length ((delS (l.take i) id).flatMap sessC)) (fun s _=>(l.length-num (s 6)).toNat) ⟨0,by omega,by simp,by simpa [delS] using Rf.nil (Ext.refl _)⟩ ?_
 rintro s h1 hf ⟨i,hi,s6,r⟩
 have s0:s 0=v:=by simpa using hf 0 (by simp)
 have s1:s 1 = .int .i64 id:=by simpa using hf 1 (by simp)
 unfold qlBZ
 simp -implicitDefEqProofs[s0,s6,lx]
 refine⟨fun hc=>?_,fun hc=>?_⟩
 rotate_left
 ·have hie:i=l.length:=by omega
  subst hie
  rw[List.take_of_length_le (Nat.le_refl _)] at r
  exact hk _ _ r
 ·have hlt:i<l.length:=by omega
  have hw:IntKind.i64.wrap ((i:Int)+1)=(i+1:Nat):=by rw[wrap64_id (by omega) (by omega)]; omega
  obtain⟨b,p,i1,i2⟩:=sess_ld x hlt (k:=.i64)
  have i2:=i2 h1 r.ex
  have q0:cel h1 b p=some (.int .i64 l[i].id):=(cels_get i2).2 0 (by simp[sessC])
  have ps:=delS_snoc (l.take i) l[i] id
  rw[← List.take_succ_eq_append_getElem hlt] at ps
  have hlen:(delS (l.take i) id).length≤l.length:=by unfold delS; have:=List.length_filter_le (fun s=>!decide (s.id=id)) (l.take i); simp at this ⊢; omega
  unfold qlAZ
  rw[seqM_eq]
  unfold qlzZ
  simp -implicitDefEqProofs[s0,s1,s6,i1,q0]
  refine⟨fun hc2=>?_,fun hc2=>?_⟩
  ·rw[if_neg hc2] at ps
   unfold qlyZ
   simp -implicitDefEqProofs[s0,s6,i1,ldV_n i2]
   refine bs_one bsSs (by simp[sessC]) (by simp[sessC]) fun b2 h2 n2 e2 c2=>?_
   refine Rf.app2 (m:=1) (news:=sessC l[i]) unSlSs apSs (by omega) (r.ext e2) (.inr ⟨b2,0,1,rfl,cels_one c2 (by simp[sessC])⟩) (by simp[sessC]) (by unfold maxLen; omega) (by omega) fun v' h3 r3 hkp hrow=>?_
   unfold qlxZ
   simp -implicitDefEqProofs[s0,s1,s6,hw,-Int.natCast_add]
   refine⟨⟨i+1,by omega,rfl,?_⟩,by omega⟩
   rw[ps]
   simpa using r3
  ·rw[if_pos hc2] at ps
   simp -implicitDefEqProofs[s0,s1,s6,hw,-Int.natCast_add]
   exact⟨⟨i+1,by omega,rfl,by rw[ps]; exact r⟩,by omega⟩
theorem zcSs:zc P qcZ=some #[.int .i64 0,.int .i64 0,.int .i64 0,.int .u64 0]:=by kernel_rfl
set_option maxHeartbeats 1000000 in
theorem rbeat_ok (l:List Sess)(id un:Int){T:Tags}{h:Heap}{v:Value}(w:Wf T h)(x:Sl 4 SessR (fz T h) v l)(hl:l.length<1000000)
  (hk:∀ h' v',Ext h h'→Sl 4 SessR (fz T h') v' (beatS l id un).1→K (.tuple #[v',.int .i64 (beatS l id un).2]) h'):callM P qhFZ #[v,.int .i64 id,.int .u64 un] h K:=by
 apply qthZ
 unfold qiWZ
 have lx:=x.len
 rw[beat_eq] at hk
 refine rhas_ok l id (x.ext (@SessR.ext) (fz_ext _ _)) hl ?_
 unfold qmUZ
 cases hh:hasI l id with
 | false =>
  rw[hh] at hk
  simp -implicitDefEqProofs only[Bool.false_eq_true,if_false] at hk
  simp -implicitDefEqProofs
  exact hk h v (Ext.refl _) x
 | true =>
 rw[hh] at hk
 simp -implicitDefEqProofs only[if_true] at hk
 simp -implicitDefEqProofs
 unfold qmTZ
 rw[seqM_eq]
 unfold qmSZ
 refine loop_on [0,1,2,7] (fun s h'=>∃ i:Nat,i≤l.length∧s 9 = .int .i64 i∧Rf 4 qcZ h h' (s 8) i (((l.take i).map (beat1 id un)).flatMap sessC)) (fun s _=>(l.length-num (s 9)).toNat) ⟨0,by omega,by simp,by simpa using Rf.nil (Ext.refl _)⟩ ?_
 rintro s h1 hf ⟨i,hi,s9,r⟩
 have s0:s 0=v:=by simpa using hf 0 (by simp)
 have s1:s 1 = .int .i64 id:=by simpa using hf 1 (by simp)
 have s2:s 2 = .int .u64 un:=by simpa using hf 2 (by simp)
 have s7:s 7 = .int .i64 0:=by simpa using hf 7 (by simp)
 unfold qmRZ
 simp -implicitDefEqProofs[s0,s9,lx]
 refine⟨fun hc=>?_,fun hc=>?_⟩
 rotate_left
 ·have hie:i=l.length:=by omega
  subst hie
  rw[List.take_of_length_le (Nat.le_refl _)] at r
  have r':Rf 4 qcZ h h1 (s 8) (l.map (beat1 id un)).length ((l.map (beat1 id un)).flatMap sessC):=by simpa using r
  exact hk h1 (s 8) r.ex (rf_sessT r' w)
 ·have hlt:i<l.length:=by omega
  have hw:IntKind.i64.wrap ((i:Int)+1)=(i+1:Nat):=by rw[wrap64_id (by omega) (by omega)]; omega
  obtain⟨b,p,i1,i2⟩:=sess_ld x hlt (k:=.i64)
  have i2:=i2 h1 ((fz_ext _ _).trans r.ex)
  have hfl:((l.take (i+1)).map (beat1 id un)).flatMap sessC=((l.take i).map (beat1 id un)).flatMap sessC++sessC (beat1 id un l[i]):=by
   rw[List.take_succ_eq_append_getElem hlt,List.map_append,List.flatMap_append]; simp
  unfold qmQZ
  rw[seqM_eq]
  unfold qmPZ
  rw[zcSs]
  simp -implicitDefEqProofs only[s0,s9,i1,ldV_n i2,ov_s]
  refine nw_st rfl (by simp[sessC]) (by simp[sessC]) fun bx h2 n2 e2 c2=>?_
  simp -implicitDefEqProofs only[cells_agg,sessC] at c2
  have q0:cel h2 bx 0=some (.int .i64 l[i].id):=by simp[cel_of c2]
  have q3:cel h2 bx 3=some (.int .u64 l[i].un):=by simp[cel_of c2]
  rw[seqM_eq]
  -- behind the change
  have fin:∀ (h3:Heap) (s':Env),(∀ b o,h1 b=some o→h3 b=some o)→h3 bx=some (.cells (sessC (beat1 id un l[i])).toArray qcZ (0,0))→s' 0=v→s' 1 = .int .i64 id→s' 2 = .int .u64 un→s' 7 = .int .i64 0→s' 8=s 8→s' 9 = .int .i64 i→s' 10=ptr bx→∀ {Q:Post},(∀ h' s'' (v':Value),Rf 4 qcZ h h' (s'' 8) (i+1) (((l.take (i+1)).map (beat1 id un)).flatMap sessC)→s'' 0=v→s'' 1 = .int .i64 id→s'' 2 = .int .u64 un→s'' 7 = .int .i64 0→s'' 9 = .int .i64 i→Q .normal [] s'' h')→qfyZ s' h3 Q []:=by
   intro h3 s' e3 c3 t0 t1 t2 t7 t8 t9 t10 Q hQ
   unfold qfyZ
   have ol:ldV (some (some 4)) (ptr bx) h3=some (.agg (sessC (beat1 id un l[i])).toArray):=by simp[ld_at c3,sessC]
   simp -implicitDefEqProofs[t10,t8,ol]
   refine bs_one bsSs (by simp[sessC]) (by omega) fun b2 h4 n4 e4 c4=>?_
   refine Rf.app2 (m:=1) (news:=sessC (beat1 id un l[i])) unSlSs apSs (by omega) ((r.ext e3).ext e4) (.inr ⟨b2,0,1,rfl,cels_one c4 (by simp[sessC])⟩) (by simp[sessC]) (by unfold maxLen; omega) (by omega) fun v' h5 r5 hkp hrow=>?_
   rw[← hfl] at r5
   refine hQ _ _ v' ?_ (by simpa using t0) (by simpa using t1) (by simpa using t2) (by simpa using t7) (by simpa using t9)
   simpa using r5
  unfold qmOZ
  have hb1:beat1 id un l[i]=if l[i].id=id∧l[i].un<un then { l[i] with un:=un } else l[i]:=rfl
  by_cases ci:l[i].id=id
  ·by_cases cu:l[i].un<un
   ·simp -implicitDefEqProofs[s1,s2,q0,q3,ci,cu]
    unfold qmNZ
    simp -implicitDefEqProofs only[s2]
    rw[if_pos ⟨ci,cu⟩] at hb1
    simp -implicitDefEqProofs[ld_at c2,cel_of c2,stm_at c2,stm_upd,ld_same,cel_same,over]
    refine fin _ _ ?_ ?_ (by simpa using s0) (by simpa using s1) (by simpa using s2) (by simpa using s7) (by simp) (by simpa using s9) (by simp) fun h' s'' v' r' t0 t1 t2 t7 t9=>?_
    ·intro j o ho
     have hne:j≠bx:=fun e=>by subst e; rw[n2] at ho; cases ho
     rw[upd_ne hne]; exact e2 _ _ ho
    ·rw[upd_same',hb1]; simp[sessC]
    ·simp -implicitDefEqProofs[t0,t1,t2,t7,t9,s0,s1,s2,s7,s9,hw,-Int.natCast_add]
     exact⟨⟨i+1,by omega,rfl,by rw[← List.map_take]; exact r'⟩,by omega⟩
   ·simp -implicitDefEqProofs[s1,s2,q0,q3,ci,cu]
    unfold qgeZ
    simp -implicitDefEqProofs
    rw[if_neg (by omega)] at hb1
    refine fin _ _ (fun j o ho=>e2 _ _ ho) (by rw[hb1]; exact c2) (by simpa using s0) (by simpa using s1) (by simpa using s2) (by simpa using s7) (by simp) (by simpa using s9) (by simp) fun h' s'' v' r' t0 t1 t2 t7 t9=>?_
    simp -implicitDefEqProofs[t0,t1,t2,t7,t9,s0,s1,s2,s7,s9,hw,-Int.natCast_add]
    exact⟨⟨i+1,by omega,rfl,by rw[← List.map_take]; exact r'⟩,by omega⟩
  ·simp -implicitDefEqProofs[s1,s2,q0,q3,ci]
   unfold qgeZ
   simp -implicitDefEqProofs
   rw[if_neg (fun h=>ci h.1)] at hb1
   refine fin _ _ (fun j o ho=>e2 _ _ ho) (by rw[hb1]; exact c2) (by simpa using s0) (by simpa using s1) (by simpa using s2) (by simpa using s7) (by simp) (by simpa using s9) (by simp) fun h' s'' v' r' t0 t1 t2 t7 t9=>?_
   simp -implicitDefEqProofs[t0,t1,t2,t7,t9,s0,s1,s2,s7,s9,hw,-Int.natCast_add]
   exact⟨⟨i+1,by omega,rfl,by rw[← List.map_take]; exact r'⟩,by omega⟩
theorem insS_pre {s:Sess}:∀ {l:List Sess} {i:Nat},(∀ j (h:j<l.length),j<i→¬ s.id<l[j].id)→insS l s=l.take i++insS (l.drop i) s
 | _,0,_=>by simp
 | [],i+1,_=>by simp
 | x::r,i+1,h=>by
  have h0:¬ s.id<x.id:=h 0 (by simp) (by omega)
  show (if s.id<x.id then s::x::r else x::insS r s)=_
  rw[if_neg h0,insS_pre (l:=r) (i:=i) fun j hj hji=>h (j+1) (by simpa using hj) (by omega)]
  simp -implicitDefEqProofs
def InsI (s:Sess)(l:List Sess)(i:Nat)(f:Bool)(out:List Sess):Prop:=(f=false→out=l.take i∧∀ j (h:j<l.length),j<i→¬ s.id<l[j].id)∧(f=true→out++l.drop i=insS l s∧out.length=i+1)
theorem InsI.step0 {s:Sess}{l:List Sess}{i:Nat}{out:List Sess}(x:InsI s l i false out)(hi:i<l.length)(h:¬ s.id<l[i].id):InsI s l (i+1) false (out++[l[i]]):=by
 obtain⟨h1,h2⟩:=x.1 rfl
 refine⟨fun _=>⟨by rw[h1,List.take_succ_eq_append_getElem hi],fun j hj hji=>?_⟩,fun h=>by cases h⟩
 by_cases hjj:j<i
 ·exact h2 j hj hjj
 ·have:j=i:=by omega
  subst this; exact h
theorem InsI.step1 {s:Sess}{l:List Sess}{i:Nat}{out:List Sess}(x:InsI s l i false out)(hi:i<l.length)(h:s.id<l[i].id):InsI s l (i+1) true ((out++[s])++[l[i]]):=by
 obtain⟨h1,h2⟩:=x.1 rfl
 refine⟨fun h=>(by cases h),fun _=>⟨?_,?_⟩⟩
 ·rw[insS_pre h2,List.drop_eq_getElem_cons hi]
  show _=l.take i++(if s.id<l[i].id then s::l[i]::l.drop (i+1) else _)
  rw[if_pos h,h1]; simp
 ·rw[h1]; simp; omega
theorem InsI.step2 {s:Sess}{l:List Sess}{i:Nat}{out:List Sess}(x:InsI s l i true out)(hi:i<l.length):InsI s l (i+1) true (out++[l[i]]):=by
 obtain⟨h1,h2⟩:=x.2 rfl
 refine⟨fun h=>(by cases h),fun _=>⟨?_,by simp[h2]⟩⟩
 rw[← h1,List.drop_eq_getElem_cons hi]; simp
theorem InsI.fin0 {s:Sess}{l:List Sess}{out:List Sess}(x:InsI s l l.length false out):out++[s]=insS l s:=by
 obtain⟨h1,h2⟩:=x.1 rfl
 rw[insS_pre h2,h1]; simp[insS]
theorem InsI.fin1 {s:Sess}{l:List Sess}{out:List Sess}(x:InsI s l l.length true out):out=insS l s:=by
 have:=(x.2 rfl).1
 simpa using this
theorem InsI.len {s:Sess}{l:List Sess}{i:Nat}{f:Bool}{out:List Sess}(x:InsI s l i f out)(hi:i≤l.length):out.length≤i+1:=by
 cases f with
 | false=>have:=(x.1 rfl).1; rw[this]; simp; omega
 | true=>have:=(x.2 rfl).2; omega
end Go.Proofs.YtmbningljbcpkaaGreat
namespace Go.Proofs.YtmbningljbcpkaaGreat
open Go Go.Den Go.MapKept
set_option linter.unusedSimpArgs false
set_option linter.unusedVariables false
set_option maxRecDepth 20000
structure SetE (l:List Sess)(s:Sess)(h0:Heap)(v1:Nat)(v25:Value)(i:Nat)(e:Env)(h':Heap):Prop where
 e4:e 4=ptr v1
 e10:e 10=v25
 e11:e 11 = .int .i64 i
 r:∃ (f:Bool) (out:List Sess),e 9 = .bool f∧InsI s l i f out∧Rf 4 qcZ h0 h' (e 8) out.length (out.flatMap sessC)
variable {K:KTy}
set_option maxHeartbeats 4000000 in
theorem rset_ok (l:List Sess)(so:SrtI l)(s:Sess)(most:Int){T:Tags}{h:Heap}{v:Value}(w:Wf T h)(x:Sl 4 SessR (fz T h) v l)(hl:l.length<100000)
  (hk:∀ h' v',Ext h h'→Sl 4 SessR (fz T h') v' (setS l s most).1→K (.tuple #[v',.int .i64 (setS l s most).2]) h'):callM P qiEZ #[v,.agg (sessC s).toArray,.int .i64 most] h K:=by
 apply qtQZ
 unfold qjLZ
 have lx:=x.len
 refine nw_agg fun v1 h1 n1 e1 c1=>?_
 have c1':=c1
 simp -implicitDefEqProofs only[sessC] at c1'
 have q0:cel h1 v1 0=some (.int .i64 s.id):=by simp[cel_of c1']
 simp -implicitDefEqProofs[q0]
 have xh:∀ h',Ext h h'→Sl 4 SessR h' v l:=fun h' e=>x.ext (@SessR.ext) ((fz_ext _ _).trans e)
 refine rhas_ok l s.id (xh _ e1) (by omega) ?_
 unfold qnSZ
 have full:hasI l s.id=false→most≤l.length→K (.tuple #[v,.int .i64 2]) h1:=fun h2 h3=>by
  have e:setS l s most=(l,2):=by unfold setS; rw[if_pos ⟨h2,h3⟩]
  rw[e] at hk
  exact hk h1 v e1 (x.ext (@SessR.ext) (fz_of_ext e1))
 have go:setS l s most=(putS l s,0)→∀ (a b c d e f g i j:Value),qhUZ (ptr v1) h1 v (.agg (sessC s).toArray) (.int .i64 most) a b c d e f g i j K:=by
  intro hset a b c d e f g i j
  rw[hset] at hk
  unfold qhUZ
  simp -implicitDefEqProofs[q0]
  refine rclear_ok l s.id (xh _ e1) (by omega) fun h2 v25 r2=>?_
  have e2:Ext h h2:=e1.trans r2.ex
  obtain⟨L,hL⟩:∃ L,delS l s.id=L:=⟨_,rfl⟩
  have hput:insS L s=putS l s:=by rw[← hL]; exact ins_del so
  have hLl:L.length≤l.length:=by rw[← hL]; unfold delS; exact List.length_filter_le _ _
  rw[hL] at r2
  have y2:=rf_sess r2
  have ly:=y2.len
  have c2:=r2.ex _ _ c1
  unfold qnRZ
  rw[seqM_eq]
  unfold qnQZ
  refine loop_on [4,7,10] (fun e h'=>∃ i:Nat,i≤L.length∧SetE L s h2 v1 v25 i e h') (fun e _=>(L.length-num (e 11)).toNat) ⟨0,by omega,⟨by simp,by simp,by simp,false,[],by simp,⟨fun _=>⟨by simp,fun j _ hj=>by omega⟩,fun h=>by cases h⟩,by simpa using Rf.nil (Ext.refl _)⟩⟩ ?_
  rintro e h3 hf ⟨i,hi,⟨t4,t10,t11,fl,out,t9,I,r3⟩⟩
  have t7:e 7 = .int .i64 0:=by simpa using hf 7 (by simp)
  have ho:=I.len hi
  have e3:Ext h h3:=e2.trans r3.ex
  have c3:=r3.ex _ _ c2
  have c3':=c3
  simp -implicitDefEqProofs only[sessC] at c3'
  have p0:cel h3 v1 0=some (.int .i64 s.id):=by simp[cel_of c3']
  have pl:ldV (some (some 4)) (ptr v1) h3=some (.agg (sessC s).toArray):=by simp[ld_at c3',sessC]
  unfold qnPZ
  simp -implicitDefEqProofs[t10,t11,ly]
  refine⟨fun hc=>?_,fun hc=>?_⟩
  ·have hlt:i<L.length:=by omega
   have hw:IntKind.i64.wrap ((i:Int)+1)=(i+1:Nat):=by rw[wrap64_id (by omega) (by omega)]; omega
   obtain⟨b',p',i1,i2⟩:=sess_ld y2 hlt (k:=.i64)
   have i20:cel h3 b' p'=some (.int .i64 L[i].id):=(cels_get (i2 h3 r3.ex)).2 0 (by simp[sessC])
   unfold qnOZ
   rw[seqM_eq]
   unfold qnNZ
   rw[seqM_eq]
   -- the session itself is put behind
   have fin:∀ (h4:Heap) (e':Env) (fl':Bool) (out':List Sess),e' 4=ptr v1→e' 7 = .int .i64 0→e' 9 = .bool fl'→e' 10=v25→e' 11 = .int .i64 i→Rf 4 qcZ h2 h4 (e' 8) out'.length (out'.flatMap sessC)→out'.length≤i+2→InsI s L (i+1) fl' (out'++[L[i]])→∀ {Q:Post},(∀ h5 e5,e5 4=ptr v1→e5 7 = .int .i64 0→e5 9 = .bool fl'→e5 10=v25→e5 11 = .int .i64 i→Rf 4 qcZ h2 h5 (e5 8) (out'++[L[i]]).length ((out'++[L[i]]).flatMap sessC)→Q .normal [] e5 h5)→qgdZ e' h4 Q []:=by
    intro h4 e' fl' out' u4 u7 u9 u10 u11 r4 hlo I' Q hQ
    have i2':=i2 h4 r4.ex
    unfold qgdZ
    simp -implicitDefEqProofs[u10,u11,i1,ldV_n i2']
    refine bs_one bsSs (by simp[sessC]) (by omega) fun b2 h5 n5 e5 c5=>?_
    refine Rf.app2 (m:=1) (news:=sessC L[i]) unSlSs apSs (by omega) (r4.ext e5) (.inr ⟨b2,0,1,rfl,cels_one c5 (by simp[sessC])⟩) (by simp[sessC]) (by unfold maxLen; omega) (by omega) fun v' h6 r6 hkp hrow=>?_
    refine hQ _ _ (by simpa using u4) (by simpa using u7) (by simpa using u9) (by simpa using u10) (by simpa using u11) ?_
    simpa using r6
   have e4:e 4=ptr v1:=t4
   unfold qnMZ
   cases fl with
   | true =>
    simp -implicitDefEqProofs[t9]
    unfold qgcZ
    simp -implicitDefEqProofs
    refine fin _ _ true out (by simpa using t4) (by simpa using t7) (by simpa using t9) (by simpa using t10) (by simpa using t11) (by simpa using r3) (by omega) (I.step2 hlt) fun h5 e5 w4 w7 w9 w10 w11 r5=>?_
    simp -implicitDefEqProofs[w4,w7,w9,w10,w11,t4,t7,t10,t11,hw,-Int.natCast_add]
    exact⟨⟨i+1,by omega,⟨by simp[w4],by simp[w10],by simp,true,out++[L[i]],by simp[w9],I.step2 hlt,by simpa using r5⟩⟩,by omega⟩
   | false =>
    simp -implicitDefEqProofs[t9,t4,t10,t11,i1,i20,p0]
    refine⟨fun hlt2=>?_,fun hlt2=>?_⟩
    ·unfold qnLZ
     simp -implicitDefEqProofs[t4,pl]
     refine bs_one bsSs (by simp[sessC]) (by omega) fun b2 h5 n5 e5 c5=>?_
     refine Rf.app2 (m:=1) (news:=sessC s) unSlSs apSs (by omega) (r3.ext e5) (.inr ⟨b2,0,1,rfl,cels_one c5 (by simp[sessC])⟩) (by simp[sessC]) (by unfold maxLen; omega) (by omega) fun v' h6 r6 hkp hrow=>?_
     unfold qmJZ
     simp -implicitDefEqProofs
     refine fin _ _ true (out++[s]) (by simpa using t4) (by simpa using t7) (by simp) (by simpa using t10) (by simpa using t11) (by simpa using r6) (by simp; omega) (I.step1 hlt hlt2) fun h5 e5 w4 w7 w9 w10 w11 r5=>?_
     simp -implicitDefEqProofs[w4,w7,w9,w10,w11,t4,t7,t10,t11,hw,-Int.natCast_add]
     exact⟨⟨i+1,by omega,⟨by simp[w4],by simp[w10],by simp,true,(out++[s])++[L[i]],by simp[w9],I.step1 hlt hlt2,by simpa using r5⟩⟩,by omega⟩
    ·unfold qgcZ
     simp -implicitDefEqProofs
     refine fin _ _ false out (by simpa using t4) (by simpa using t7) (by simpa using t9) (by simpa using t10) (by simpa using t11) (by simpa using r3) (by omega) (I.step0 hlt (by omega)) fun h5 e5 w4 w7 w9 w10 w11 r5=>?_
     simp -implicitDefEqProofs[w4,w7,w9,w10,w11,t4,t7,t10,t11,hw,-Int.natCast_add]
     exact⟨⟨i+1,by omega,⟨by simp[w4],by simp[w10],by simp,false,out++[L[i]],by simp[w9],I.step0 hlt (by omega),by simpa using r5⟩⟩,by omega⟩
  ·have hie:i=L.length:=by omega
   subst hie
   unfold qmMZ
   rw[seqM_eq]
   unfold qmLZ
   cases fl with
   | true =>
    have ho':=I.fin1.trans hput
    subst ho'
    simp -implicitDefEqProofs[t9]
    exact hk _ _ e3 (rf_sessT (r3.back e2) w)
   | false =>
    have ho':=I.fin0.trans hput
    simp -implicitDefEqProofs[t9]
    unfold qmKZ
    simp -implicitDefEqProofs[t4,pl]
    refine bs_one bsSs (by simp[sessC]) (by omega) fun b2 h5 n5 e5 c5=>?_
    refine Rf.app2 (m:=1) (news:=sessC s) unSlSs apSs (by omega) (r3.ext e5) (.inr ⟨b2,0,1,rfl,cels_one c5 (by simp[sessC])⟩) (by simp[sessC]) (by unfold maxLen; omega) (by omega) fun v' h6 r6 hkp hrow=>?_
    have r6':Rf 4 qcZ h2 h6 v' (out++[s]).length ((out++[s]).flatMap sessC):=by simpa using r6
    rw[ho'] at r6'
    exact hk _ _ (e2.trans r6.ex) (rf_sessT (r6'.back e2) w)
 cases hh:hasI l s.id with
 | true =>
  simp -implicitDefEqProofs
  exact go (by unfold setS; rw[if_neg (by rw[hh]; simp)]) _ _ _ _ _ _ _ _ _
 | false =>
  simp -implicitDefEqProofs[lx]
  refine⟨fun hc=>full hh hc,fun hc=>?_⟩
  exact go (by unfold setS; rw[if_neg (by omega)]) _ _ _ _ _ _ _ _ _
end Go.Proofs.YtmbningljbcpkaaGreat
namespace Go.Proofs.YtmbningljbcpkaaGreat
open Go Go.Den Go.MapKept
set_option linter.unusedSimpArgs false
set_option linter.unusedVariables false
set_option maxRecDepth 20000
theorem bin_geqS (t:Nat)(c:Bool)(a b:ByteArray):binV .geq t c (.string a) (.string b)=some (.bool (!ltS a b)):=rfl
theorem becR_step (u:ByteArray)(e:Ent)(b:Book){i:Nat}(hi:i<b.length)(put:Bool):becR u e (b.drop i) put=(if !put && !ltS b[i].1 u then [(u,e)] else [])++((if b[i].1=u then [] else [b[i]])++becR u e (b.drop (i+1)) (put || !ltS b[i].1 u)):=by
 rw[List.drop_eq_getElem_cons hi]; rfl
theorem becR_len (u:ByteArray)(e:Ent):∀ (b:Book) (put:Bool),(becR u e b put).length≤b.length+1
 | [],true=>by simp[becR]
 | [],false=>by simp[becR]
 | x::r,true=>by
  rw[becR_put]; unfold delB; have:=List.length_filter_le (fun p:ByteArray × Ent=>!decide (p.1=u)) (x::r); simp at this ⊢; omega
 | x::r,false=>by
  unfold becR
  have h1:=becR_len u e r true
  have h2:=becR_len u e r false
  cases hl:ltS x.1 u with
  | true=>simp; split<;>simp<;>omega
  | false =>
   simp -implicitDefEqProofs
   rw[becR_put]
   have:(delB r u).length≤r.length:=by unfold delB; exact List.length_filter_le _ _
   split<;>simp<;>omega
theorem bsChg8:bsI P qUZ=some (qTZ,7,#[.string ⟨#[]⟩,.int .i64 0,.int .i64 0,.int .i64 0,.int .i64 0,.int .i64 0,.int .i64 0]):=by kernel_rfl
theorem bdChg8 (k:ByteArray)(a b c d e f:Int):bdV (binf P qTZ) [(0,.string k),(1,.agg #[.int .i64 a,.int .i64 b,.int .i64 c]),(2,.agg #[.int .i64 d,.int .i64 e,.int .i64 f])]=some (.agg #[.string k,.int .i64 a,.int .i64 b,.int .i64 c,.int .i64 d,.int .i64 e,.int .i64 f]):=by kernel_rfl
structure BecE (b:Book)(u:ByteArray)(ne:Ent)(R:Book)(T:Tags)(h0:Heap)(i:Nat)(s:Env)(h':Heap):Prop where
 i_:s 14 = .int .i64 i
 r:∃ (put:Bool) (out:Book) (L:List (List Value)),s 13 = .bool put∧out++becR u ne (b.drop i) put=R∧Rf 5 qkZ h0 h' (s 12) out.length L.flatten∧El 5 UsrR (fz T h0) L out
variable {K:KTy}
set_option maxHeartbeats 8000000 in
theorem rbecome_ok (b:Book)(so:SrtK (keysL b))(u:ByteArray)(ss:List Sess)(now:Int){T:Tags}{h:Heap}{v sv:Value}(w:Wf T h)(x:Sl 5 UsrR (fz T h) v b)(xs:Sl 4 SessR (fz T h) sv ss)(hl:b.length<100000)(hb:∀ y∈b,y.2.ss.length<1000000)(hss:ss.length<1000000)
  (hk:∀ h' v' cv,Ext h h'→Sl 5 UsrR (fz T h') v' (settleB b u ss now).1→Sl 7 ChgR (fz T h') cv (settleB b u ss now).2→K (.tuple #[v',cv]) h'):callM P qcXZ #[v,.string u,sv,.int .u64 now] h K:=by
 apply qsbZ
 unfold qgfZ
 have lx:=x.len
 have ls:=xs.len
 refine rfind_ok b u (x.ext (@UsrR.ext) (fz_ext _ _)) (by omega) fun h1 ov_ e1 hov=>?_
 have oo:=hov.one
 unfold qkqZ
 rw[zcUsr]
 refine nw_st rfl (by simp[presC]) (by simp[presC,oo.1]) fun bu h2 n2 e2 c2=>?_
 simp -implicitDefEqProofs only[cells_agg,presC] at c2
 have e02:=e1.trans e2
 refine rof_ok ss now (xs.ext (@SessR.ext) ((fz_ext _ _).trans e02)) hss fun h3 e3=>?_
 unfold qkpZ
 rw[zcPres]
 refine nw_st rfl (by simp[presC]) (by simp[presC]) fun bp h4 n4 e4 c4=>?_
 simp -implicitDefEqProofs only[cells_agg,presC] at c4
 have e24:=e3.trans e4
 have e04:=e02.trans e24
 have cu4:=e24 _ _ c2
 have h0:(decide ((ss.length:Int)=0))=decide (ss=[]):=decide_eq_decide.2 ⟨fun hh=>List.length_eq_zero_iff.1 (by omega),fun hh=>by rw[hh]; rfl⟩
 obtain⟨ne,hne⟩:∃ ne:Ent,ne=⟨ss,presOf ss now⟩:=⟨_,rfl⟩
 obtain⟨R,hR⟩:∃ R,becR u ne b (decide (ss=[]))=R:=⟨_,rfl⟩
 have hset:(settleB b u ss now).1=R:=by rw[settle_eq so,← hne]; exact hR
 have w4:Wf T h4:=w.ext e04
 have xF:Sl 5 UsrR (fz T h4) v b:=x.ext (@UsrR.ext) (fz_of_ext e04)
 have sF:Sl 4 SessR (fz T h4) sv ss:=xs.ext (@SessR.ext) (fz_of_ext e04)
 obtain⟨svb,svn,svc,rfl⟩:=Sl.slice' xs
 have hlR:R.length≤b.length+1:=by rw[← hR]; exact becR_len _ _ _ _
 simp -implicitDefEqProofs[ls]
 rw[seqM_eq]
 unfold qkoZ
 refine loop_on [0,1,2,9,10,11] (fun s h'=>∃ i:Nat,i≤b.length∧BecE b u ne R T h4 i s h') (fun s _=>(b.length-num (s 14)).toNat) ⟨0,by omega,⟨by simp,decide (ss=[]),[],[],by simp,by simpa using hR,by simpa using Rf.nil (Ext.refl _),El.nil⟩⟩ ?_
 rintro s h5 hf ⟨i,hi,⟨s14,put,out,L,s13,hout,r5,el5⟩⟩
 have s0:s 0=v:=by simpa using hf 0 (by simp)
 have s1:s 1 = .string u:=by simpa using hf 1 (by simp)
 have s2:s 2 = .slice svb svn svc:=by simpa using hf 2 (by simp)
 have s9:s 9 = .slice none 0 0:=by simpa using hf 9 (by simp)
 have s10:s 10=ptr bu:=by simpa using hf 10 (by simp)
 have s11:s 11=ptr bp:=by simpa using hf 11 (by simp)
 have hol:out.length≤R.length:=by rw[← hout]; simp
 have c5:=r5.ex _ _ c4
 have op:∀ h',h' bp=some (.cells #[.int .i64 (presOf ss now).st,.int .i64 (presOf ss now).pr,.int .i64 (presOf ss now).lv] qhZ (0,0))→ldV (some (some 3)) (ptr bp) h'=some (.agg #[.int .i64 (presOf ss now).st,.int .i64 (presOf ss now).pr,.int .i64 (presOf ss now).lv]):=fun h' hc=>by simp[ld_at hc]
 unfold qknZ
 simp -implicitDefEqProofs[s0,s14,lx]
 refine⟨fun hc=>?_,fun hc=>?_⟩
 ·have hlt:i<b.length:=by omega
  have hw:IntKind.i64.wrap ((i:Int)+1)=(i+1:Nat):=by rw[wrap64_id (by omega) (by omega)]; omega
  unfold qkmZ
  rw[seqM_eq]
  unfold qklZ
  rw[seqM_eq]
  have hstep:=becR_step u ne b hlt put
  obtain⟨ub,up,uc,a1,a2,a3⟩:=xF.at (k:=.i64) (i:=i) (by omega) (by omega)
  simp -implicitDefEqProofs only[Int.toNat_natCast] at a3
  obtain⟨bv,rfl,hbv⟩:=a3
  have bvo:=hbv.one
  have q0:∀ h',Ext h4 h'→cel h' ub up=some (.string b[i].1):=fun h' e=>(cels_get (cels_ext ((fz_ext _ _).trans e) a2)).2 0 (by simp[presC])
  have fin:∀ (h6:Heap) (e':Env) (put':Bool) (out':Book) (L':List (List Value)),e' 0=v→e' 1 = .string u→e' 2 = .slice svb svn svc→e' 9 = .slice none 0 0→e' 10=ptr bu→e' 11=ptr bp→e' 13 = .bool put'→e' 14 = .int .i64 i→Rf 5 qkZ h4 h6 (e' 12) out'.length L'.flatten→El 5 UsrR (fz T h4) L' out'→out'.length≤200000→(out'++(if b[i].1=u then [] else [b[i]]))++becR u ne (b.drop (i+1)) put'=R →
    ∀ {Q:Post},(∀ h7 e'',e'' 0=v→e'' 1 = .string u→e'' 2 = .slice svb svn svc→e'' 9 = .slice none 0 0→e'' 10=ptr bu→e'' 11=ptr bp→e'' 14 = .int .i64 i→(∃ (put:Bool) (out:Book) (L:List (List Value)),e'' 13 = .bool put∧out++becR u ne (b.drop (i+1)) put=R∧Rf 5 qkZ h4 h7 (e'' 12) out.length L.flatten∧El 5 UsrR (fz T h4) L out)→Q .normal [] e'' h7)→qeEZ e' h6 Q []:=by
   intro h6 e' put' out' L' u0 u1 u2 u9 u10 u11 u13 u14 r6 el6 hlo hR' Q hQ
   have q0':=q0 h6 r6.ex
   have bn:binV .neq 3 false (.string b[i].1) (.string u)=some (.bool (!decide (b[i].1=u))):=bin_neqS _ _ _ _
   unfold qeEZ
   by_cases hu:b[i].1=u
   ·rw[if_pos hu] at hR'
    simp -implicitDefEqProofs[u0,u1,u14,a1,q0',bn,hu]
    refine hQ _ _ (by simpa using u0) (by simpa using u1) (by simpa using u2) (by simpa using u9) (by simpa using u10) (by simpa using u11) (by simpa using u14) ⟨put',out',L',by simpa using u13,by simpa using hR',by simpa using r6,el6⟩
   ·rw[if_neg hu] at hR'
    simp -implicitDefEqProofs[u0,u1,u14,a1,q0',bn,hu]
    unfold qjOZ
    simp -implicitDefEqProofs[u0,u14,a1,ldV_n (cels_ext ((fz_ext _ _).trans r6.ex) a2)]
    refine bs_one bsUsr (by simp[presC]) (by omega) fun b2 h7 n7 e7 c7=>?_
    refine Rf.app2 (m:=1) (news:=.string b[i].1::bv::presC b[i].2.told) unSlUsr apUsr (by omega) (r6.ext e7) (.inr ⟨b2,0,1,rfl,cels_one c7 (by simp[presC])⟩) (by simp[presC,bvo.1]) (by unfold maxLen; omega) (by omega) fun v' h8 r8 hkp hrow=>?_
    unfold qjNZ
    refine hQ _ _ (by simpa using u0) (by simpa using u1) (by simpa using u2) (by simpa using u9) (by simpa using u10) (by simpa using u11) (by simpa using u14) ⟨put',out'++[b[i]],L'++[.string b[i].1::bv::presC b[i].2.told],by simpa using u13,hR',?_,el6.app (El.sing (by simp[presC]) (by simp[presC,bvo.1]) ⟨bv,rfl,hbv⟩)⟩
    rw[List.flatten_append]; simpa using r8
  have noput:(put=true∨ltS b[i].1 u=true)→(out++(if b[i].1=u then [] else [b[i]]))++becR u ne (b.drop (i+1)) put=R:=fun hh=>by
   rw[← hout,hstep]
   rcases hh with hh | hh
   ·subst hh; simp
   ·rw[hh]; simp
  have q0':=q0 h5 r5.ex
  unfold qkkZ
  cases put with
  | true =>
   simp -implicitDefEqProofs[s13]
   unfold qeDZ
   simp -implicitDefEqProofs
   refine fin _ _ true out L (by simpa using s0) (by simpa using s1) (by simpa using s2) (by simpa using s9) (by simpa using s10) (by simpa using s11) (by simpa using s13) (by simpa using s14) (by simpa using r5) el5 (by omega) (noput (.inl rfl)) fun h7 e'' w0 w1 w2 w9 w10 w11 w14 w=>?_
   simp -implicitDefEqProofs[w0,w1,w2,w9,w10,w11,w14,s0,s1,s2,s9,s10,s11,s14,hw,-Int.natCast_add]
   exact⟨⟨i+1,by omega,⟨by simp,by simpa using w⟩⟩,by omega⟩
  | false =>
   simp -implicitDefEqProofs[s13,s0,s1,s14,a1,q0',bin_geqS]
   cases hlt2:ltS b[i].1 u with
   | true =>
    simp -implicitDefEqProofs
    unfold qeDZ
    simp -implicitDefEqProofs
    refine fin _ _ false out L (by simpa using s0) (by simpa using s1) (by simpa using s2) (by simpa using s9) (by simpa using s10) (by simpa using s11) (by simpa using s13) (by simpa using s14) (by simpa using r5) el5 (by omega) (noput (.inr hlt2)) fun h7 e'' w0 w1 w2 w9 w10 w11 w14 w=>?_
    simp -implicitDefEqProofs[w0,w1,w2,w9,w10,w11,w14,s0,s1,s2,s9,s10,s11,s14,hw,-Int.natCast_add]
    exact⟨⟨i+1,by omega,⟨by simp,by simpa using w⟩⟩,by omega⟩
   | false =>
    simp -implicitDefEqProofs
    unfold qkjZ
    simp -implicitDefEqProofs only[s11,s1,s2,op _ c5,ov_s]
    simp -implicitDefEqProofs[bdUsr]
    refine bs_one bsUsr (by simp) (by omega) fun b2 h6 n6 e6 c6=>?_
    refine Rf.app2 (m:=1) (news:=.string u::.slice svb svn svc::presC ne.told) unSlUsr apUsr (by omega) (r5.ext e6) (.inr ⟨b2,0,1,rfl,by rw[hne]; exact cels_one c6 (by simp)⟩) (by simp[presC]) (by unfold maxLen; omega) (by omega) fun v' h7 r7 hkp hrow=>?_
    unfold qkiZ
    simp -implicitDefEqProofs
    have hR':((out++[(u,ne)])++(if b[i].1=u then [] else [b[i]]))++becR u ne (b.drop (i+1)) true=R:=by
     rw[← hout,hstep,hlt2]; simp
    refine fin _ _ true (out++[(u,ne)]) (L++[.string u::.slice svb svn svc::presC ne.told]) (by simpa using s0) (by simpa using s1) (by simpa using s2) (by simpa using s9) (by simpa using s10) (by simpa using s11) (by simp) (by simpa using s14) (by rw[List.flatten_append]; simpa using r7) (el5.app (El.sing (by simp[presC]) (by simp[presC]) ⟨_,rfl,by rw[hne]; exact sF⟩)) (by simp; omega) hR' fun h8 e'' w0 w1 w2 w9 w10 w11 w14 w=>?_
    simp -implicitDefEqProofs[w0,w1,w2,w9,w10,w11,w14,s0,s1,s2,s9,s10,s11,s14,hw,-Int.natCast_add]
    exact⟨⟨i+1,by omega,⟨by simp,by simpa using w⟩⟩,by omega⟩
 ·have hie:i=b.length:=by omega
  subst hie
  -- what is told
  have fin:∀ (h6:Heap) (e':Env),Ext h4 h6→e' 1 = .string u→e' 10=ptr bu→e' 11=ptr bp→Sl 5 UsrR (fz T h6) (e' 12) R→qeFZ e' h6 K []:=by
   intro h6 e' e46 u1 u10 u11 xR
   have cp6:=e46 _ _ c4
   have cu6:=e46 _ _ cu4
   have oq:ldV (some (some 3)) (.pointer (some ⟨bu,2,none⟩)) h6=some (.agg #[.int .i64 (entOf b u).told.st,.int .i64 (entOf b u).told.pr,.int .i64 (entOf b u).told.lv]):=by simp[ld_at cu6]
   unfold qeFZ
   simp -implicitDefEqProofs[u10,u11,op _ cp6,oq,presNe]
   refine⟨fun hne'=>?_,fun heq'=>?_⟩
   ·have hne2:¬ presOf ss now=(entOf b u).told:=by simpa using hne'
    have hs2:(settleB b u ss now).2=[⟨u,(entOf b u).told,presOf ss now⟩]:=by unfold settleB; simp[hne2]
    unfold qjRZ
    simp -implicitDefEqProofs[u1,u10,u11,op _ cp6,oq,bdChg8]
    refine bs_one bsChg8 (by simp) (by omega) fun b2 h7 n7 e7 c7=>?_
    refine hk h7 _ _ ((e04.trans e46).trans e7) (by rw[hset]; exact xR.ext (@UsrR.ext) (fz_of_ext e7)) ?_
    rw[hs2]
    have cc:=fz_new (T:=T) (w.ext (e04.trans e46)) n7 c7
    refine .inr ⟨b2,0,1,rfl,by simp,by unfold maxLen; omega,fun i hi=>?_⟩
    have hi0:i=0:=by simp at hi; omega
    subst hi0
    exact⟨_,by simpa using cels_one cc (by simp),by simp[ChgR,chgC,presC]⟩
   ·have heq2:presOf ss now=(entOf b u).told:=by simpa using heq'
    have hs2:(settleB b u ss now).2=[]:=by unfold settleB; simp[heq2]
    refine hk h6 _ _ (e04.trans e46) (by rw[hset]; exact xR) ?_
    rw[hs2]
    exact .inl ⟨rfl,_,_,rfl⟩
  rw[List.drop_of_length_le (Nat.le_refl _)] at hout
  unfold qjSZ
  rw[seqM_eq]
  unfold qjQZ
  cases put with
  | true =>
   have hR':out=R:=by simpa [becR] using hout
   subst hR'
   simp -implicitDefEqProofs[s13]
   exact fin _ _ r5.ex (by simpa using s1) (by simpa using s10) (by simpa using s11) (by simpa using r5.sl w4 rfl (el5.ext (@UsrR.ext) (fz_of_ext r5.ex)))
  | false =>
   have hR':out++[(u,ne)]=R:=by simpa [becR] using hout
   simp -implicitDefEqProofs[s13]
   unfold qjPZ
   simp -implicitDefEqProofs[s11,s1,s2,op _ c5,bdUsr]
   refine bs_one bsUsr (by simp) (by omega) fun b2 h6 n6 e6 c6=>?_
   refine Rf.app2 (m:=1) (news:=.string u::.slice svb svn svc::presC ne.told) unSlUsr apUsr (by omega) (r5.ext e6) (.inr ⟨b2,0,1,rfl,by rw[hne]; exact cels_one c6 (by simp)⟩) (by simp[presC]) (by unfold maxLen; omega) (by omega) fun v' h7 r7 hkp hrow=>?_
   have el7:=el5.app (El.sing (c:=.string u::.slice svb svn svc::presC ne.told) (y:=(u,ne)) (R:=UsrR) (h:=fz T h4) (sz:=5) (by simp[presC]) (by simp[presC]) ⟨_,rfl,by rw[hne]; exact sF⟩)
   have r7':Rf 5 qkZ h4 h7 v' (out++[(u,ne)]).length (L++[.string u::.slice svb svn svc::presC ne.told]).flatten:=by rw[List.flatten_append]; simpa using r7
   rw[hR'] at r7' el7
   exact fin _ _ r7'.ex (by simpa using s1) (by simpa using s10) (by simpa using s11) (by simpa using r7'.sl w4 rfl (el7.ext (@UsrR.ext) (fz_of_ext r7'.ex)))
end Go.Proofs.YtmbningljbcpkaaGreat
namespace Go.Proofs.YtmbningljbcpkaaGreat
open Go Go.Den Go.MapKept
set_option linter.unusedSimpArgs false
set_option linter.unusedVariables false
set_option maxRecDepth 20000
variable {K:KTy}
set_option maxHeartbeats 8000000 in
theorem rwrite_ok {m:Nat}(b:Book)(g:BkM m b)(hm:m<90000)(o:OpD)(ow:OpW o)(now:Int)(hn:U64 now)(most:Int){T:Tags}{h:Heap}{v uv:Value}(ou:One uv)(w:Wf T h)(x:Sl 5 UsrR (fz T h) v b)
  (hk:∀ h' v' cv,Ext h h'→Sl 5 UsrR (fz T h') v' (writeB b o now most).1→Sl 7 ChgR (fz T h') cv (writeB b o now most).2.1→K (.tuple #[v',cv,.int .i64 (writeB b o now most).2.2]) h'):callM P qfMZ #[v,.agg (opC o uv).toArray,.int .u64 now,.int .i64 most] h K:=by
 apply qsoZ
 unfold qhPZ
 refine nw_agg fun v1 h1 n1 e1 c1=>?_
 simp -implicitDefEqProofs only[opC] at c1
 have cs:∀ h',Ext h1 h'→cel h' v1 0=some (.int .i64 o.kind)∧cel h' v1 1=some (.string o.user)∧cel h' v1 2=some (.int .i64 o.id)∧cel h' v1 3=some (.int .i64 o.status)∧cel h' v1 4=some (.int .i64 o.prio)∧cel h' v1 5=some (.int .u64 o.ttl):=fun h' e=>by
  have:=e _ _ c1
  simp -implicitDefEqProofs[cel_of this]
 obtain⟨k0,k1,k2,k3,k4,k5⟩:=cs h1 (Ext.refl _)
 simp -implicitDefEqProofs[k1]
 refine rfind_ok b o.user (x.ext (@UsrR.ext) ((fz_ext _ _).trans e1)) (by have:=g.bl; omega) fun h2 sv e2 hsv=>?_
 have e02:=e1.trans e2
 unfold qliZ
 simp -implicitDefEqProofs[fdV]
 have w2:Wf T h2:=w.ext e02
 obtain⟨S,hS⟩:∃ S,purgeS (entOf b o.user).ss now=S:=⟨_,rfl⟩
 have he:(entOf b o.user).ss.length≤m∧SrtI (entOf b o.user).ss:=by
  rcases entOf_cases b o.user with e | ⟨y,h1,h2,h3⟩
  ·rw[e]; exact⟨by simp[ent0],List.Pairwise.nil⟩
  ·rw[h3]; exact⟨g.bn y h1,(g.bw.us y h1).1⟩
 have hSl:S.length≤m:=by rw[← hS]; unfold purgeS; exact Nat.le_trans (List.length_filter_le _ _) he.1
 have hSs:SrtI S:=by rw[← hS]; exact he.2.purge now
 refine rpurge_ok (entOf b o.user).ss now (hsv.ext (@SessR.ext) e2) (by omega) fun h3 sv3 r3=>?_
 rw[hS] at r3
 have xs3:Sl 4 SessR (fz T h3) sv3 S:=rf_sessT r3 w2
 have e03:=e02.trans r3.ex
 have e13:=e2.trans r3.ex
 have w3:Wf T h3:=w.ext e03
 obtain⟨k0,k1,k2,k3,k4,k5⟩:=cs h3 e13
 unfold qlhZ
 simp -implicitDefEqProofs[k5]
 refine refAdd_ok hn ow.u1 ?_
 obtain⟨un,hun⟩:∃ un,addU now o.ttl=un:=⟨_,rfl⟩
 rw[hun]
 unfold qlgZ
 rw[seqM_eq]
 have fin:∀ (h4:Heap) (s:Env) (W:List Sess × Int),Ext h3 h4→s 0=v→s 2 = .int .u64 now→s 5=ptr v1→s 13 = .int .i64 W.2→Sl 4 SessR (fz T h4) (s 11) W.1→workS S o now most=W→W.1.length<1000000→qcuZ s h4 K []:=by
  intro h4 s W e34 u0 u2 u5 u13 xW hW hl
  have e04:=e03.trans e34
  obtain⟨_,q1,_⟩:=cs h4 (e13.trans e34)
  have w4:Wf T h4:=w.ext e04
  unfold qcuZ
  simp -implicitDefEqProofs[u0,u2,u5,q1]
  have hwr:writeB b o now most=((settleB b o.user W.1 now).1,(settleB b o.user W.1 now).2,W.2):=by unfold writeB; simp only[hS,hW]
  rw[hwr] at hk
  refine rbecome_ok b (by have:=g.bw.so; exact this) o.user W.1 now w4 (x.ext (@UsrR.ext) (fz_of_ext e04)) xW (by have:=g.bl; omega) (fun y hy=>by have:=g.bn y hy; omega) hl fun h5 v' cv e5 xv xc=>?_
  unfold qkhZ
  simp -implicitDefEqProofs[u13]
  exact hk h5 v' cv (e04.trans e5) xv xc
 unfold qlfZ
 simp -implicitDefEqProofs[k0]
 have hWl:(workS S o now most).1.length<1000000:=by have:=work_len (ss:=S) o now most; omega
 have xs3h:∀ h',Ext h3 h'→Sl 4 SessR (fz T h') sv3 S:=fun h' e=>xs3.ext (@SessR.ext) (fz_of_ext e)
 refine⟨fun c1'=>?_,fun c1'=>?_⟩
 ·have hW:workS S o now most=setS S ⟨o.id,o.status,o.prio,un⟩ most:=by unfold workS; rw[if_pos c1',hun]
  rw[hW] at hWl
  unfold qlbZ
  simp -implicitDefEqProofs[k2,k3,k4,bdSess]
  refine rset_ok S hSs ⟨o.id,o.status,o.prio,un⟩ most w3 xs3 (by omega) fun h4 sv4 e4 xs4=>?_
  unfold qlaZ
  simp -implicitDefEqProofs
  exact fin h4 _ _ e4 (by simp) (by simp) (by simp) (by simp) (by simpa using xs4) hW hWl
 unfold qleZ
 simp -implicitDefEqProofs
 refine⟨fun c2'=>?_,fun c2'=>?_⟩
 ·have hW:workS S o now most=beatS S o.id un:=by unfold workS; rw[if_neg c1',if_pos c2',hun]
  rw[hW] at hWl
  unfold qldZ
  simp -implicitDefEqProofs[k2]
  refine rbeat_ok S o.id un w3 xs3 (by omega) fun h4 sv4 e4 xs4=>?_
  unfold qlcZ
  simp -implicitDefEqProofs
  exact fin h4 _ _ e4 (by simp) (by simp) (by simp) (by simp) (by simpa using xs4) hW hWl
 unfold qkgZ
 simp -implicitDefEqProofs
 refine⟨fun c3'=>?_,fun c3'=>?_⟩
 ·have hW:workS S o now most=(delS S o.id,if hasI S o.id then 0 else 3):=by unfold workS; rw[if_neg c1',if_neg c2',if_pos c3',clear_eq]
  rw[hW] at hWl
  unfold qkeZ
  rw[seqM_eq]
  unfold qkdZ
  simp -implicitDefEqProofs[k2]
  refine rhas_ok S o.id (xs3.ext (@SessR.ext) (fz_ext _ _)) (by omega) ?_
  have clr:∀ (s:Env),s 0=v→s 2 = .int .u64 now→s 5=ptr v1→s 11=sv3→s 13 = .int .i64 (if hasI S o.id then 0 else 3)→qfbZ s h3 (thenM (fun m s15 h16=>qcuZ s15 h16 K m) (retM P [ResultVar.tmp 8,ResultVar.tmp 9,ResultVar.tmp 10] K)) []:=by
   intro s u0 u2 u5 u11 u13
   unfold qfbZ
   simp -implicitDefEqProofs[u5,u11,k2]
   refine rclear_ok S o.id (xs3.ext (@SessR.ext) (fz_ext _ _)) (by omega) fun h4 sv4 r4=>?_
   exact fin h4 _ _ r4.ex (by simpa using u0) (by simpa using u2) (by simpa using u5) (by simpa using u13) (by simpa using rf_sessT r4 w3) hW hWl
  unfold qkcZ
  cases hh:hasI S o.id with
  | true =>
   rw[hh] at clr
   simp -implicitDefEqProofs
   unfold qkbZ
   simp -implicitDefEqProofs
   exact clr _ (by simp) (by simp) (by simp) (by simp) (by simp)
  | false =>
   rw[hh] at clr
   simp -implicitDefEqProofs
   unfold qkaZ
   simp -implicitDefEqProofs
   exact clr _ (by simp) (by simp) (by simp) (by simp) (by simp)
 ·have hW:workS S o now most=(S,0):=by unfold workS; rw[if_neg c1',if_neg c2',if_neg c3']
  rw[hW] at hWl
  unfold qkfZ
  simp -implicitDefEqProofs
  exact fin h3 _ _ (Ext.refl _) (by simp) (by simp) (by simp) (by simp) (by simpa using xs3) hW hWl
end Go.Proofs.YtmbningljbcpkaaGreat
namespace Go.Proofs.YtmbningljbcpkaaGreat
open Go Go.Den Go.MapKept
set_option linter.unusedSimpArgs false
set_option linter.unusedVariables false
set_option maxRecDepth 20000
def rt (T:Tags)(v:Value):Tags:=fun k=>if rowOf v=some k then lc else T k
theorem rt_nil {T:Tags}{v:Value}{k:Nat}(h:rt T v k=[]):rowOf v≠some k∧T k=[]:=by
 unfold rt at h
 by_cases hv:rowOf v=some k
 ·rw[if_pos hv] at h; cases h
 ·rw[if_neg hv] at h; exact⟨hv,h⟩
theorem rt_of {T:Tags}{v:Value}{k:Nat}(h1:rowOf v≠some k)(h2:T k=[]):rt T v k=[]:=by unfold rt; rw[if_neg h1]; exact h2
theorem rt_fz {T:Tags}{v:Value}{h:Heap}:Ext (fz (rt T v) h) (fz T h):=fun b o e=>by
 obtain⟨h1,h2⟩:=fz_get e
 exact fz_at h1 (rt_nil h2).2
theorem rt_wf {T:Tags}{v:Value}{sz n:Nat}{e:TypeId}{xs:List Value}{h0 h:Heap}(w:Wf T h0)(r:Rf sz e h0 h v n xs):Wf (rt T v) h:=fun b hb=>by
 refine rt_of (fun hh=>?_) ?_
 ·obtain⟨o,ho⟩:=r.row.lt b hh
  rw[ho] at hb; cases hb
 ·exact w.ext r.ex b hb
theorem rt_old {T:Tags}{v:Value}{sz n:Nat}{e:TypeId}{xs:List Value}{h0 h:Heap}(r:Rf sz e h0 h v n xs):Ext (fz T h0) (fz (rt T v) h):=fun b o hb=>by
 obtain⟨h1,h2⟩:=fz_get hb
 exact fz_at (r.ex _ _ h1) (rt_of (fun hh=>by rw[r.new b hh] at h1; cases h1) h2)
theorem rt_app {T:Tags}{v v':Value}{h h':Heap}(kp:∀ b o,h b=some o→rowOf v≠some b→h' b=some o)(ha:rowOf v'=rowOf v∨∃ b,rowOf v'=some b∧h b=none):Ext (fz (rt T v) h) (fz (rt T v') h'):=fun b o hb=>by
 obtain⟨h1,h2⟩:=fz_get hb
 obtain⟨h3,h4⟩:=rt_nil h2
 refine fz_at (kp b o h1 h3) (rt_of (fun hh=>?_) h4)
 rcases ha with ha | ⟨k,ha,hk⟩
 ·exact h3 (by rw[← ha]; exact hh)
 ·rw[ha] at hh; cases hh; rw[hk] at h1; cases h1
theorem unSlChg8:P.underlying qUZ=some (.slice qTZ):=by kernel_rfl
theorem apChg8:apC P qTZ=some (7,64,7):=by kernel_rfl
structure RsE (b:Book)(now:Int)(T:Tags)(h0:Heap)(i:Nat)(s:Env)(h':Heap):Prop where
 i_:s 8 = .int .i64 i
 r:Rf 7 qTZ h0 h' (s 6) (sweepTo b now i).2.length ((sweepTo b now i).2.flatMap chgC)
 o:Sl 5 UsrR (fz (rt T (s 6)) h') (s 7) (sweepTo b now i).1
variable {K:KTy}
set_option maxHeartbeats 8000000 in
theorem rsweep_ok {m:Nat}(b:Book)(g:BkM m b)(hm:m<90000)(now:Int){T:Tags}{h:Heap}{v:Value}(w:Wf T h)(x:Sl 5 UsrR (fz T h) v b)
  (hk:∀ h' v' cv,Ext h h'→Sl 5 UsrR (fz T h') v' (sweepB b now).1→Sl 7 ChgR (fz T h') cv (sweepB b now).2→K (.tuple #[v',cv]) h'):callM P qfNZ #[v,.int .u64 now] h K:=by
 apply qspZ
 unfold qhQZ
 have lx:=x.len
 rw[seqM_eq]
 unfold qlnZ
 refine loop_on [0,1] (fun s h'=>∃ i:Nat,i≤b.length∧RsE b now T h i s h') (fun s _=>(b.length-num (s 8)).toNat) ⟨0,by omega,⟨by simp,by simpa [sweepTo] using Rf.nil (Ext.refl _),?_⟩⟩ ?_
 ·simp -implicitDefEqProofs only[sweepTo]
  have:Sl 5 UsrR (fz (rt T (.slice none 0 0)) h) v b:=x.ext (@UsrR.ext) (rt_old (sz:=7) (e:=qTZ) (Rf.nil (Ext.refl h)))
  simpa using this
 rintro s h1 hf ⟨i,hi,⟨s8,r,o⟩⟩
 have s0:s 0=v:=by simpa using hf 0 (by simp)
 have s1:s 1 = .int .u64 now:=by simpa using hf 1 (by simp)
 unfold qlmZ
 simp -implicitDefEqProofs[s0,s8,lx]
 refine⟨fun hc=>?_,fun hc=>?_⟩
 rotate_left
 ·have hie:i=b.length:=by omega
  subst hie
  have hxc:Sl 7 ChgR (fz T h1) (s 6) (sweepB b now).2:=by
   have r':=r
   rw[List.flatMap_def] at r'
   exact r'.sl w rfl (El.enc (enc:=chgC) (fun _=>rfl) (fun y=>chgC_one y) fun h y=>rfl)
  exact hk h1 _ _ r.ex (o.ext (@UsrR.ext) rt_fz) hxc
 ·have hlt:i<b.length:=by omega
  have bl:=g.bl
  have hw:IntKind.i64.wrap ((i:Int)+1)=(i+1:Nat):=by rw[wrap64_id (by omega) (by omega)]; omega
  have gi:=g.sweepTo now i hi
  have hst:sweepTo b now (i+1)=((settleB (sweepTo b now i).1 b[i].1 (purgeS b[i].2.ss now) now).1,(sweepTo b now i).2++(settleB (sweepTo b now i).1 b[i].1 (purgeS b[i].2.ss now) now).2):=by
   simp -implicitDefEqProofs only[sweepTo]; rw[List.getD_eq_getElem?_getD,List.getElem?_eq_getElem hlt]; rfl
  have hlen:∀ j,j≤b.length→(sweepTo b now j).2.length≤j:=by
   intro j
   induction j with
   | zero=>intro _; simp[sweepTo]
   | succ j ih =>
    intro hj
    have h1:=ih (by omega)
    simp -implicitDefEqProofs only[sweepTo,List.length_append]
    have:∀ (B:Book) u S,(settleB B u S now).2.length≤1:=fun B u S=>by unfold settleB; split<;>split<;>simp
    have h2:=this (sweepTo b now j).1 (b.getD j (⟨#[]⟩,ent0)).1 (purgeS (b.getD j (⟨#[]⟩,ent0)).2.ss now)
    omega
  have hl1:=hlen i hi
  have hl2:=hlen (i+1) (by omega)
  obtain⟨ub,up,sv,i1,i2,i3⟩:=usr_ld x hlt
  have eh1:Ext (fz T h) h1:=(fz_ext _ _).trans r.ex
  obtain⟨q0,q1,_⟩:=i2 h1 eh1
  have hbi:=g.bn _ (List.getElem_mem hlt)
  unfold qllZ
  simp -implicitDefEqProofs[s0,s1,s8,i1,q0,q1]
  refine rpurge_ok b[i].2.ss now (i3.ext (@SessR.ext) eh1) (by omega) fun h2 sv2 r2=>?_
  have w1:Wf (rt T (s 6)) h1:=rt_wf w r
  have xs2:Sl 4 SessR (fz (rt T (s 6)) h2) sv2 (purgeS b[i].2.ss now):=rf_sessT r2 w1
  have w2:Wf (rt T (s 6)) h2:=w1.ext r2.ex
  obtain⟨p0,_,_⟩:=i2 h2 (eh1.trans r2.ex)
  have hpl:(purgeS b[i].2.ss now).length≤b[i].2.ss.length:=by unfold purgeS; exact List.length_filter_le _ _
  unfold qlkZ
  simp -implicitDefEqProofs[p0,s1]
  refine rbecome_ok (sweepTo b now i).1 (by have:=gi.bw.so; exact this) b[i].1 (purgeS b[i].2.ss now) now w2 (o.ext (@UsrR.ext) (fz_of_ext r2.ex)) xs2 (by have:=gi.bl; omega) (fun y hy=>by have:=gi.bn y hy; omega) (by omega) fun h3 v' cv e3 xv xc=>?_
  have r3:=(r.ext r2.ex).ext e3
  have hsum:(sweepTo b now i).2.length+(settleB (sweepTo b now i).1 b[i].1 (purgeS b[i].2.ss now) now).2.length≤i+1:=by rw[hst] at hl2; simpa using hl2
  simp -implicitDefEqProofs
  refine Rf.app2 unSlChg8 apChg8 (by omega) r3 (chg_els (xc.ext (@ChgR.ext) (fz_ext _ _))) (flatC_one _) (by unfold maxLen; omega) (by omega) fun a' h4 r4 kp4 ha4=>?_
  have xv4:=xv.ext (@UsrR.ext) (rt_app kp4 ha4)
  unfold qljZ
  simp -implicitDefEqProofs[s0,s1,s8,hw,-Int.natCast_add]
  refine⟨⟨i+1,by omega,⟨by simp,?_,?_⟩⟩,by omega⟩
  ·rw[hst]; simpa using r4
  ·rw[hst]; simpa using xv4
end Go.Proofs.YtmbningljbcpkaaGreat
namespace Go.Proofs.YtmbningljbcpkaaGreat
open Go Go.Den Go.MapKept
set_option linter.unusedSimpArgs false
set_option linter.unusedVariables false
set_option maxRecDepth 20000
def rfdC (room:Int)(pv:Value)(qv:Nat→Value)(lost:Nat→Bool):List Value :=
 [.int .i64 room,pv,qv 0,qv 1,qv 2,qv 3,qv 4,qv 5,qv 6,qv 7,.bool (lost 0),.bool (lost 1),.bool (lost 2),.bool (lost 3),.bool (lost 4),.bool (lost 5),.bool (lost 6),.bool (lost 7)]
def PairR (_:Heap)(c:List Value)(p:PairD):Prop:=c=[.int .i64 p.who,.string p.user]
theorem PairR.ext {h h':Heap}{c:List Value}{x:PairD}(_:Ext h h')(r:PairR h c x):PairR h' c x:=r
theorem pair_ld {F:Heap}{v:Value}{l:List PairD}(x:Sl 2 PairR F v l){i:Nat}(hi:i<l.length):∃ b p,iaV (some (none,2)) v (.int .i64 i)=some (.pointer (some ⟨b,p,none⟩))∧∀ h',Ext F h'→cels h' b p 2=some [.int .i64 l[i].who,.string l[i].user]:=by
 obtain⟨b,p,c,h1,h2,h3⟩:=x.at (k:=.i64) (i:=i) (by omega) (by omega)
 refine⟨b,p,h1,fun h' e=>?_⟩
 have hc:c=[.int .i64 l[i].who,.string l[i].user]:=h3
 subst hc
 exact cels_ext e h2
section
variable {h:Heap}{q:Nat}{room:Int}{pv:Value}{qv:Nat→Value}{lost:Nat→Bool}{ps:List PairD}{K:KTy}
theorem rfwatching_ok (cp:h q=some (.cells (rfdC room pv qv lost).toArray qyZ (0,0)))(x:Sl 2 PairR h pv ps)(hl:ps.length<1000000)(who:Int)(u:ByteArray)(hk:K (.bool (ps.any (pairIs who u))) h):callM P qcnZ #[ptr q,.int .i64 who,.string u] h K:=by
 apply qphZ
 unfold qcHZ
 have lx:=x.len
 simp -implicitDefEqProofs only[rfdC] at cp
 have c1:cel h q 1=some pv:=by simp[cel_of cp]
 rw[seqM_eq]
 unfold qflZ
 refine loop_on [0,1,2,6] (fun s h'=>h'=h∧∃ i:Nat,i≤ps.length∧s 7 = .int .i64 i∧∀ j (hj:j<ps.length),j<i→pairIs who u ps[j]=false) (fun s _=>(ps.length-num (s 7)).toNat) ⟨rfl,0,by omega,by simp,fun j _ hj=>by omega⟩ ?_
 rintro s h1 hf ⟨rfl,i,hi,s7,hn⟩
 have s0:s 0=ptr q:=by simpa using hf 0 (by simp)
 have s1:s 1 = .int .i64 who:=by simpa using hf 1 (by simp)
 have s2:s 2 = .string u:=by simpa using hf 2 (by simp)
 have s6:s 6 = .bool false:=by simpa using hf 6 (by simp)
 unfold qfkZ
 simp -implicitDefEqProofs[s0,s7,c1,lx]
 refine⟨fun hc=>?_,fun hc=>?_⟩
 rotate_left
 ·have e:ps.any (pairIs who u)=false:=by
   rw[Bool.eq_false_iff]
   intro h
   obtain⟨y,hy,h2⟩:=List.any_eq_true.1 h
   obtain⟨j,hj,rfl⟩:=List.getElem_of_mem hy
   rw[hn j hj (by omega)] at h2; cases h2
  rw[e] at hk
  exact hk
 ·have hlt:i<ps.length:=by omega
  have hw:IntKind.i64.wrap ((i:Int)+1)=(i+1:Nat):=by rw[wrap64_id (by omega) (by omega)]; omega
  obtain⟨b,p,i1,i2⟩:=pair_ld x hlt
  have q0:cel h1 b p=some (.int .i64 ps[i].who):=(cels_get (i2 _ (Ext.refl _))).2 0 (by simp)
  have q1:cel h1 b (p+1)=some (.string ps[i].user):=(cels_get (i2 _ (Ext.refl _))).2 1 (by simp)
  have go:pairIs who u ps[i]=false→∀ j (hj:j<ps.length),j<i+1→pairIs who u ps[j]=false:=fun hp j hj hji=>by
   by_cases hjj:j<i
   ·exact hn j hj hjj
   ·have:j=i:=by omega
    subst this; exact hp
  unfold qfjZ
  by_cases w1:ps[i].who=who
  ·have be:=bin_eqlS 3 false ps[i].user u
   by_cases w2:ps[i].user=u
   ·have e:ps.any (pairIs who u)=true:=List.any_eq_true.2 ⟨ps[i],List.getElem_mem hlt,by simp[pairIs,w1,w2]⟩
    rw[e] at hk
    rw[decide_eq_true w2] at be
    simp -implicitDefEqProofs[s0,s1,s2,s7,c1,i1,q0,q1,w1,be]
    unfold qfiZ
    simp -implicitDefEqProofs
    exact hk
   ·rw[decide_eq_false w2] at be
    simp -implicitDefEqProofs[s0,s1,s2,s7,c1,i1,q0,q1,w1,be]
    unfold qbQZ
    simp -implicitDefEqProofs[s0,s1,s2,s6,s7,hw,-Int.natCast_add]
    exact⟨⟨i+1,by omega,rfl,go (by simp[pairIs,w1,w2])⟩,by omega⟩
  ·simp -implicitDefEqProofs[s0,s1,s2,s7,c1,i1,q0,q1,w1]
   unfold qbQZ
   simp -implicitDefEqProofs[s0,s1,s2,s6,s7,hw,-Int.natCast_add]
   exact⟨⟨i+1,by omega,rfl,go (by simp[pairIs,w1])⟩,by omega⟩
end
end Go.Proofs.YtmbningljbcpkaaGreat
namespace Go.Proofs.YtmbningljbcpkaaGreat
open Go Go.Den Go.MapKept
set_option linter.unusedSimpArgs false
set_option linter.unusedVariables false
set_option maxRecDepth 20000
structure RfB (T:Tags)(h:Heap)(g:Tag)(q:Nat)(room:Int)(pv:Value)(qv:Nat→Value)(ps:List PairD)(f:Feed):Prop where
 hp:h q=some (.cells (rfdC room pv qv fun j=>(f.qs j).lost).toArray qyZ (0,0))
 tq:T q=g
 pr:Sl 2 PairR (fz T h) pv ps
 qs:∀ j,j<8→Sl 8 EvR (fz T h) (qv j) (f.qs j).l
theorem RfB.kp {U:Tag→Prop}{T T':Tags}{h h':Heap}{g:Tag}{q:Nat}{room:Int}{pv:Value}{qv:Nat→Value}{ps:List PairD}{f:Feed}(x:RfB T h g q room pv qv ps f)(k:Kp U T h T' h')(n:¬ U g)(n0:¬ U []):RfB T' h' g q room pv qv ps f :=
 ⟨(k.at x.hp x.tq n).1,(k.at x.hp x.tq n).2,x.pr.ext (@PairR.ext) (k.ext n0),fun j hj=>(x.qs j hj).ext (@EvR.ext) (k.ext n0)⟩
end Go.Proofs.YtmbningljbcpkaaGreat
namespace Go.Proofs.YtmbningljbcpkaaGreat
open Go Go.Den Go.MapKept
set_option linter.unusedSimpArgs false
set_option linter.unusedVariables false
set_option maxRecDepth 20000
variable {K:KTy}
theorem rtake13_ok (o who:Int){h:Heap}(hk:K (.tuple #[.int .i64 (if o<0∧0≤who then who else o),.int .i64 (if o<0∧0≤who then 1 else 0)]) h):callM P qhCZ #[.int .i64 o,.int .i64 who] h K:=by
 apply qtbZ
 unfold qiPZ
 by_cases h1:o<0
 ·by_cases h2:0≤who
  ·rw[if_pos ⟨h1,h2⟩,if_pos ⟨h1,h2⟩] at hk
   simp -implicitDefEqProofs[h1,h2]; exact hk
  ·rw[if_neg (fun h=>h2 h.2),if_neg (fun h=>h2 h.2)] at hk
   simp -implicitDefEqProofs[h1,h2]; exact hk
 ·rw[if_neg (fun h=>h1 h.1),if_neg (fun h=>h1 h.1)] at hk
  simp -implicitDefEqProofs[h1]; exact hk
theorem rgive13_ok (o who:Int){h:Heap}(hk:K (.tuple #[.int .i64 (if 0≤o∧o=who then -1 else o),.int .i64 (if 0≤o∧o=who then 1 else 0)]) h):callM P qhDZ #[.int .i64 o,.int .i64 who] h K:=by
 apply qtcZ
 unfold qiQZ
 by_cases h1:0≤o
 ·by_cases h2:o=who
  ·rw[if_pos ⟨h1,h2⟩,if_pos ⟨h1,h2⟩] at hk
   subst h2
   simp -implicitDefEqProofs[h1]; exact hk
  ·rw[if_neg (fun h=>h2 h.2),if_neg (fun h=>h2 h.2)] at hk
   simp -implicitDefEqProofs[h1,h2]; exact hk
 ·rw[if_neg (fun h=>h1 h.1),if_neg (fun h=>h1 h.1)] at hk
  simp -implicitDefEqProofs[h1]; exact hk
theorem rend05_ok (v:Int)(hv:0≤v∧v<18446744073709551615){h:Heap}(hk:K (.int .u64 (endV v)) h):callM P qiDZ #[.int .u64 v] h K:=by
 apply qtEZ
 unfold qjGZ
 have ht:v.tmod 2=v % 2:=Int.tmod_eq_emod_of_nonneg hv.1
 unfold endV wrt at hk
 by_cases h1:v % 2=1
 ·have hw:IntKind.u64.wrap (v+1)=v+1:=by rw[wrapU_id (by omega) (by omega)]
  simp -implicitDefEqProofs[h1] at hk
  simp -implicitDefEqProofs[ht,h1,hw]; exact hk
 ·simp -implicitDefEqProofs[h1] at hk
  simp -implicitDefEqProofs[ht,h1]; exact hk
theorem rbegin05_ok (v b:Int)(hv:U64 v)(hb:U64 b){h:Heap}(hk:K (.int .u64 (bgn v (evn b))) h):callM P qfLZ #[.int .u64 v,.int .u64 b] h K:=by
 apply qsnZ
 unfold qhOZ
 unfold U64 at hv hb
 have ht:v.tmod 2=v % 2:=Int.tmod_eq_emod_of_nonneg hv.1
 have hbt:b.tmod 2=b % 2:=Int.tmod_eq_emod_of_nonneg hb.1
 have hwb:IntKind.u64.wrap (b-b % 2)=b-b % 2:=by rw[wrapU_id (by omega) (by omega)]
 unfold bgn wrt evn at hk
 by_cases h1:v % 2=0
 ·by_cases h2:v<b-b % 2
  ·have hw:IntKind.u64.wrap (v+1)=v+1:=by rw[wrapU_id (by omega) (by omega)]
   simp -implicitDefEqProofs[h1,h2] at hk
   simp -implicitDefEqProofs[ht,h1]
   apply qnCZ
   unfold qeoZ
   simp -implicitDefEqProofs[hbt,hwb,h2,hw]; exact hk
  ·simp -implicitDefEqProofs[h1,h2] at hk
   simp -implicitDefEqProofs[ht,h1]
   apply qnCZ
   unfold qeoZ
   simp -implicitDefEqProofs[hbt,hwb,h2]; exact hk
 ·have h1':v % 2=1:=by omega
  simp -implicitDefEqProofs[h1'] at hk
  simp -implicitDefEqProofs[ht,h1']; exact hk
end Go.Proofs.YtmbningljbcpkaaGreat
namespace Go.Den
open Go
set_option linter.unusedVariables false
set_option linter.unusedSimpArgs false
theorem psOf_cons (p:PairD)(ps:List PairD)(j:Nat):(psOf (p::ps) j).length=(psOf ps j).length+if p.who=(j:Int) then 1 else 0:=by
 unfold psOf
 rw[List.filter_cons]
 by_cases h:p.who=(j:Int)
 ·simp[h]
 ·simp[h]
theorem ps_sum:∀ (ps:List PairD),(∀ p∈ps,0≤p.who∧p.who<8)→ps.length≤(psOf ps 0).length+(psOf ps 1).length+(psOf ps 2).length+(psOf ps 3).length+(psOf ps 4).length+(psOf ps 5).length+(psOf ps 6).length+(psOf ps 7).length
 | [],_=>by simp
 | p::ps,h=>by
  have ih:=ps_sum ps fun q hq=>h q (by simp[hq])
  have h0:=h p (by simp)
  simp only[psOf_cons,List.length_cons]
  rcases (by omega:p.who=0∨p.who=1∨p.who=2∨p.who=3∨p.who=4∨p.who=5∨p.who=6∨p.who=7) with e | e | e | e | e | e | e | e
  all_goals simp[e]
  all_goals omega
theorem wsOf_le (ws:List (ByteArray × Int))(j:Nat):(wsOf ws j).length≤ws.length:=by
 unfold wsOf
 rw[List.length_map]
 exact List.length_filter_le _ _
theorem FdP.len {f:Feed}{ps:List PairD}(x:FdP f ps):ps.length≤8*f.ws.length:=by
 have h:=ps_sum ps x.rg
 have hj:∀ j,j<8→(psOf ps j).length≤f.ws.length:=fun j hj=>by
  rw[(x.pm j hj).length_eq]; exact wsOf_le _ _
 have:=hj 0 (by omega); have:=hj 1 (by omega); have:=hj 2 (by omega); have:=hj 3 (by omega)
 have:=hj 4 (by omega); have:=hj 5 (by omega); have:=hj 6 (by omega); have:=hj 7 (by omega)
 omega
theorem tell_wsF (f:Feed)(seq:Int):∀ l:List Chg,(f.tell l seq).ws=f.ws:=fun l=>by
 unfold Feed.tell
 induction l generalizing f with
 | nil=>rfl
 | cons c l ih=>rw[List.foldl_cons,ih,tell1_ws]
theorem FdP.tell {f:Feed}{ps:List PairD}(x:FdP f ps)(l:List Chg)(seq:Int):FdP (f.tell l seq) ps:=x.of_ws (tell_wsF f seq l)
theorem FdP.tell1 {f:Feed}{ps:List PairD}(x:FdP f ps)(c:Chg)(seq:Int)(n:Nat):FdP (f.tell1 c seq n) ps:=x.of_ws (tell1_ws f c seq n)
def RmE (f:Feed)(room:Int):Prop:=∀ j,j<8→(f.qs j).room=room
theorem put_room (r:Ring)(x:Evt):(r.put x).room=r.room:=by unfold Ring.put; split<;>rfl
theorem RmE.tell1 {f:Feed}{room:Int}(x:RmE f room)(c:Chg)(seq:Int):∀ n,RmE (f.tell1 c seq n) room
 | 0=>x
 | n+1=>by
  have ih:=RmE.tell1 x c seq n
  simp only[Feed.tell1]
  split
  ·intro j hj
   simp only[qset]
   split
   ·rename_i h; subst h; rw[put_room]; exact ih j hj
   ·exact ih j hj
  ·exact ih
theorem RmE.tell {f:Feed}{room:Int}(x:RmE f room)(seq:Int):∀ l:List Chg,RmE (f.tell l seq) room:=fun l=>by
 unfold Feed.tell
 induction l generalizing f with
 | nil=>exact x
 | cons c l ih=>exact ih (x.tell1 c seq 8)
end Go.Den
namespace Go.Proofs.YtmbningljbcpkaaGreat
open Go Go.Den Go.MapKept
set_option linter.unusedSimpArgs false
set_option linter.unusedVariables false
set_option maxRecDepth 20000
structure RSx where
 bp:Nat
 sn:Value
 bk:Value
 fp:Nat
 pv:Value
 qv:Nat→Value
 ps:List PairD
def rstC (x:Strp)(y:RSx):List Value:=[.int .i64 (x.who-1),.int .u64 x.v,y.sn,y.bk,ptr y.fp]
structure RstR (T:Tags)(h:Heap)(g:Tag)(s:Nat)(c:Cfg)(x:Strp)(y:RSx):Prop where
 hp:h y.bp=some (.cells (rstC x y).toArray qBZ (0,0))
 tp:T y.bp=g++[1,s]
 sn:Sl 5 UsrR (fz T h) y.sn x.snap
 bk:Sl 5 UsrR (fz T h) y.bk x.book
 fd:RfB T h (g++[2,s]) y.fp c.queue y.pv y.qv y.ps x.feed
 pp:FdP x.feed y.ps
 rm:∀ j,j<8→(x.feed.qs j).room=c.queue
 bd:x.bound=evn c.epochs
def rhC (H:Hall)(sv av:Value):List Value:=[.int .i64 H.c.stripes,.int .i64 H.c.sessions,.int .i64 H.c.queue,.int .i64 H.c.watches,.int .i64 H.c.retries,.int .u64 H.c.epochs,.int .u64 H.c.start,.int .u64 H.t.now,.int .u64 H.t.seq,.bool H.t.closed,sv,av]
structure RhX (T:Tags)(h:Heap)(g:Tag)(p:Nat)(H:Hall)(sv av:Value)(Y:Nat→RSx):Prop where
 hp:h p=some (.cells (rhC H sv av).toArray qqZ (0,0))
 tp:T p=g++[0]
 st:Rw T h (g++[4]) 1 qbvZ sv H.n (seqF H.n fun i=>[ptr (Y i).bp])
 ac:Rw T h (g++[3]) 3 qbuZ av H.acts.length (H.acts.flatMap actC)
 sr:∀ s,s<H.n→RstR T h g s H.c (H.ss s) (Y s)
def RhR (T:Tags)(h:Heap)(g:Tag)(p:Nat)(H:Hall):Prop:=∃ sv av Y,RhX T h g p H sv av Y
theorem RstR.kp {U:Tag→Prop}{T T':Tags}{h h':Heap}{g:Tag}{s:Nat}{c:Cfg}{x:Strp}{y:RSx}(r:RstR T h g s c x y)(k:Kp U T h T' h')(o1:¬ U (g++[1,s]))(o2:¬ U (g++[2,s]))(n:¬ U []):RstR T' h' g s c x y :=
 ⟨(k.at r.hp r.tp o1).1,(k.at r.hp r.tp o1).2,r.sn.ext (@UsrR.ext) (k.ext n),r.bk.ext (@UsrR.ext) (k.ext n),r.fd.kp k o2 n,r.pp,r.rm,r.bd⟩
theorem RhX.kp {U:Tag→Prop}{T T':Tags}{h h':Heap}{g:Tag}{p:Nat}{H:Hall}{sv av:Value}{Y:Nat→RSx}(x:RhX T h g p H sv av Y)(k:Kp U T h T' h')(o:Off U g)(n:¬ U []):RhX T' h' g p H sv av Y :=
 ⟨(k.at x.hp x.tp (o.at _)).1,(k.at x.hp x.tp (o.at _)).2,x.st.kp k (o.at _),x.ac.kp k (o.at _),fun s hs=>(x.sr s hs).kp k (o.at _) (o.at _) n⟩
theorem RhR.kp {U:Tag→Prop}{T T':Tags}{h h':Heap}{g:Tag}{p:Nat}{H:Hall}(x:RhR T h g p H)(k:Kp U T h T' h')(o:Off U g)(n:¬ U []):RhR T' h' g p H :=
 let ⟨sv,av,Y,x⟩:=x; ⟨sv,av,Y,x.kp k o n⟩
theorem RhX.own {T T':Tags}{h h':Heap}{g:Tag}{p:Nat}{H:Hall}{sv av:Value}{Y:Nat→RSx}(x:RhX T h g p H sv av Y)(k:Kp non T h T' h'):RhX T' h' g p H sv av Y:=x.kp k (Off.non _) (not_non _)
def V03 (g t:Tag):Prop:=t=g++[0]∨t=g++[3]
def V12 (g:Tag)(s:Nat)(t:Tag):Prop:=t=g++[1,s]∨t=g++[2,s]
theorem V03.pre {g t:Tag}(h:V03 g t):Den.pre g t:=by rcases h with rfl | rfl<;>exact pre_app _ _
theorem V12.pre {g t:Tag}{s:Nat}(h:V12 g s t):Den.pre g t:=by rcases h with rfl | rfl<;>exact pre_app _ _
theorem V03.nil (g:Tag):¬ V03 g []:=by rintro (h | h)<;>simp at h
theorem V12.nil (g:Tag)(s:Nat):¬ V12 g s []:=by rintro (h | h)<;>simp at h
theorem V03.n {g x:Tag}(h0:x≠[0])(h3:x≠[3]):¬ V03 g (g++x):=by exact fun h=>h.elim (ne_tag h0) (ne_tag h3)
theorem V12.n {g x:Tag}{s:Nat}(h1:x≠[1,s])(h2:x≠[2,s]):¬ V12 g s (g++x):=by exact fun h=>h.elim (ne_tag h1) (ne_tag h2)
variable {K:KTy}
theorem rz_did (who kind place:Int){T:Tags}{h:Heap}{g:Tag}{p:Nat}{H:Hall}(w:Wf T h){sv av:Value}{Y:Nat→RSx}(x:RhX T h g p H sv av Y)(hl:H.acts.length<1000000)
  (hk:∀ T' h' av',Only (V03 g) T h T' h'→RhX T' h' g p (H.did who kind place) sv av' Y→K (.tuple #[]) h'):callM P qrZ #[ptr p,.int .i64 who,.int .i64 kind,.int .i64 place] h K:=by
 apply qqJZ
 unfold qeZZ
 have hp:=x.hp
 simp -implicitDefEqProofs only[rhC] at hp
 simp -implicitDefEqProofs[cel_of hp,bdAct]
 refine Rw.app bsAct unSlAct apAct (by omega) (by simp) (by simp) w x.ac (by unfold maxLen; omega) (by omega) (by omega) (app_ne _ _) fun a av' T1 h1 o1 r1=>?_
 have hp1:=o1.k.at x.hp x.tp (ne_tag (by simp))
 have ho:=r1.one
 rw[stm_at hp1.1 (by simp[ho.2]) (by simp[rhC]) (by simp[ho.1,ho.2])]
 have o2:Only (V03 g) T h T1 (upd h1 p (.cells (over (rhC H sv av).toArray 11 av'.cells.toList) qqZ (0,0))) :=
  (o1.mono fun t e=>.inr e).trans (Only.upd o1.wf hp1.1 (.inl hp1.2))
 refine hk T1 _ av' o2 ⟨?_,hp1.2,x.st.kp o2.k (V03.n (by simp) (by simp)),?_,fun i hi=>(x.sr i hi).kp o2.k (V03.n (by simp) (by simp)) (V03.n (by simp) (by simp)) (V03.nil g)⟩
 ·rw[upd_same']; simp[ho.2,rhC,over,Hall.did]
 ·have o3:Only (fun t=>t=g++[0]) T1 h1 T1 (upd h1 p (.cells (over (rhC H sv av).toArray 11 av'.cells.toList) qqZ (0,0))):=Only.upd o1.wf hp1.1 hp1.2
  have:=r1.kp o3.k (ne_tag (by simp))
  simpa [Hall.did,actC] using this
theorem RhX.at_ {T:Tags}{h:Heap}{g:Tag}{p:Nat}{H:Hall}{sv av:Value}{Y:Nat→RSx}(x:RhX T h g p H sv av Y){s:Nat}(hs:s<H.n){k:IntKind}:∃ b,iaV (some (none,1)) sv (.int k s)=some (.pointer (some ⟨b,s,none⟩))∧cel h b s=some (ptr (Y s).bp):=by
 obtain⟨b,h1,h2⟩:=x.st.1.ia (k:=k) hs
 rw[Nat.mul_one] at h2
 refine⟨b,h2,?_⟩
 have:=x.st.1.cels h1 (o:=s*1) (m:=1) (by omega)
 rw[Nat.mul_one] at this
 have e:=seqF_at (F:=fun i=>[ptr (Y i).bp]) (sz:=1) (fun i _=>rfl) hs
 rw[Nat.mul_one] at e
 rw[e] at this
 simpa using (cels_get this).2 0 (by simp)
theorem RhX.sett {T T':Tags}{h h':Heap}{g:Tag}{p:Nat}{H:Hall}{sv av:Value}{Y:Nat→RSx}(x:RhX T h g p H sv av Y){s:Nat}(o:Only (V12 g s) T h T' h'){X':Strp}{y':RSx}(r:RstR T' h' g s H.c X' y')(hb:y'.bp=(Y s).bp) :
  RhX T' h' g p (H.put s X') sv av (fun k=>if k=s then y' else Y k):=by
 have b:=o.k.at x.hp x.tp (V12.n (by simp) (by simp))
 refine⟨b.1,b.2,?_,x.ac.kp o.k (V12.n (by simp) (by simp)),fun i hi=>?_⟩
 ·have e:(seqF (H.put s X').n fun i=>[ptr (if i=s then y' else Y i).bp])=seqF H.n fun i=>[ptr (Y i).bp]:=seqF_congr fun i hi=>by
   by_cases his:i=s
   ·subst his; simp[hb]
   ·simp -implicitDefEqProofs[his]
  rw[e]
  exact x.st.kp o.k (V12.n (by simp) (by simp))
 ·simp -implicitDefEqProofs only[Hall.put,sput]
  by_cases his:i=s
  ·subst his; simp only[if_true]; exact r
  ·simp -implicitDefEqProofs only[if_neg his]; exact (x.sr i hi).kp o.k (V12.n (by simp[his]) (by simp[his])) (V12.n (by simp[his]) (by simp[his])) (V12.nil _ _)
theorem RhX.cnt {T:Tags}{h:Heap}{g:Tag}{p:Nat}{H:Hall}{sv av:Value}{Y:Nat→RSx}(x:RhX T h g p H sv av Y){m:Nat}(hs:HS m H){s:Nat}(hlt:s<H.n):(Y s).ps.length≤8*m:=by
 have h1:=(hs.st s hlt).fd.len
 have h2:=(x.sr s hlt).pp.len
 omega
end Go.Proofs.YtmbningljbcpkaaGreat
namespace Go.Proofs.YtmbningljbcpkaaGreat
open Go Go.Den Go.MapKept
set_option linter.unusedSimpArgs false
set_option linter.unusedVariables false
set_option maxRecDepth 20000
theorem fnv_two (x:Int):IntKind.u64.wrap (IntKind.u64.wrap (x*1099511627776)+IntKind.u64.wrap (x*435))=IntKind.u64.wrap (x*1099511628211):=by
 simp -implicitDefEqProofs only[IntKind.wrap,IntKind.bits,IntKind.signed]
 simp -implicitDefEqProofs
 omega
theorem shl40 (t:Nat)(c:Bool)(x:Int):binV .shl t c (.int .u64 x) (.int .u64 40)=some (.int .u64 (IntKind.u64.wrap (x*1099511627776))):=rfl
variable {K:KTy}
theorem rhash_ok (s : ByteArray) (hs : s.size ≤ maxLen) {h : Heap} (hk : K (.int .u64 (fnv s)) h) : callM P qjpZ #[.string s] h K := by
  apply qufZ
  unfold qkCZ
  rw [seqM_eq]
  unfold qoKZ
  refine loop_on [0] (fun t h' => h' = h ∧ ∃ i : Nat, i ≤ s.size ∧ t 4 = .int .i64 i ∧ t 3 = .int .u64 (fnvTo s i)) (fun t _ => (s.size - num (t 4)).toNat) ⟨rfl, 0, by omega, rfl, rfl⟩ ?_
  rintro t h1 hf ⟨rfl, i, hi, t4, t3⟩
  have t0 : t 0 = .string s := by simpa using hf 0 (by simp)
  unfold maxLen at hs
  unfold qoJZ
  simp -implicitDefEqProofs only [t0, t4, lnV_t, bin_lss, ov_s, cd_b]
  refine ⟨fun hc => ?_, fun hc => ?_⟩
  · have hlt : i < s.size := by have : ((i : Int) < s.size) := by simpa using hc
                                omega
    have hb := byte_rng s i
    unfold qoIZ
    have hw : IntKind.i64.wrap ((i : Int) + 1) = i + 1 := wrap64_id (by omega) (by omega)
    simp -implicitDefEqProofs [t0, t4, t3, st_byte hlt, wrapU_id (n := byteAt s i) (by omega) (by omega), bin_fnvX, hw, shl40, fnv_two]
    exact ⟨⟨i + 1, by omega, by simp, by simp [fnvTo, fnvStep]⟩, by omega⟩
  · have : i = s.size := by have : ¬ ((i : Int) < s.size) := by simpa using hc
                            omega
    subst this
    simp -implicitDefEqProofs [t3]
    exact hk
theorem rstripe_ok (s:ByteArray)(n:Int)(hn:n≤1000)(hs:s.size≤maxLen){h:Heap}(hk:K (.int .i64 (stripeOf s n)) h):callM P qfuZ #[.string s,.int .i64 n] h K:=by
 apply qrtZ
 unfold qgaZ
 simp -implicitDefEqProofs only[bin_lss,ov_s,cd_b]
 refine⟨fun hc=>?_,fun hc=>?_⟩
 ·have:n<1:=by simpa using hc
  simpa [stripeOf,this] using hk
 ·have hn1:¬ n<1:=by simpa using hc
  unfold qjZZ
  refine rhash_ok s hs ?_
  have hf:=fnv_rng s
  have hm:(fnv s).tmod n=fnv s % n:=Int.tmod_eq_emod_of_nonneg hf.1
  have hl:=Int.emod_nonneg (fnv s) (show n≠0 by omega)
  have hu:=Int.emod_lt_of_pos (fnv s) (show 0<n by omega)
  simp -implicitDefEqProofs[wrapU_id (n:=n) (by omega) (by omega),show n≠0 by omega,hm,wrap64_id (n:=fnv s % n) (by omega) (by omega)]
  simpa [stripeOf,hn1] using hk
theorem rfd_q {room:Int}{pv:Value}{qv:Nat→Value}{lost:Nat→Bool}{n:Nat}(hn:n<8):(rfdC room pv qv lost).toArray[2+n]?=some (qv n):=by
 rcases (by omega:n=0∨n=1∨n=2∨n=3∨n=4∨n=5∨n=6∨n=7) with rfl | rfl | rfl | rfl | rfl | rfl | rfl | rfl<;>rfl
theorem rfd_over {room:Int}{pv x:Value}{qv:Nat→Value}{lost:Nat→Bool}{n:Nat}(hn:n<8):over (rfdC room pv qv lost).toArray (2+n) [x]=(rfdC room pv (fun j=>if j=n then x else qv j) lost).toArray:=by
 rcases (by omega:n=0∨n=1∨n=2∨n=3∨n=4∨n=5∨n=6∨n=7) with rfl | rfl | rfl | rfl | rfl | rfl | rfl | rfl<;>rfl
theorem rfd_lost {room:Int}{pv:Value}{b:Bool}{qv:Nat→Value}{lost:Nat→Bool}{n:Nat}(hn:n<8):over (rfdC room pv qv lost).toArray (10+n) [.bool b]=(rfdC room pv qv (fun j=>if j=n then b else lost j)).toArray:=by
 rcases (by omega:n=0∨n=1∨n=2∨n=3∨n=4∨n=5∨n=6∨n=7) with rfl | rfl | rfl | rfl | rfl | rfl | rfl | rfl<;>rfl
theorem rfd_size (room:Int)(pv:Value)(qv:Nat→Value)(lost:Nat→Bool):(rfdC room pv qv lost).toArray.size=18:=rfl
theorem rf_evT {T:Tags}{h0 h:Heap}{v:Value}{l:List Evt}(r:Rf 8 qtZ h0 h v l.length (l.flatMap evC))(w:Wf T h0):Sl 8 EvR (fz T h) v l:=by
 rw[List.flatMap_def] at r
 exact r.sl w rfl (El.enc (enc:=evC) (fun _=>rfl) (fun y=>by simp[evC,presC]) fun h y=>rfl)
theorem ev_els {h:Heap}{v:Value}{l:List Evt}(x:Sl 8 EvR h v l):SlC 8 h v l.length (l.flatMap evC):=by
 obtain⟨L,h1,h2⟩:=x.els fun c y r=>by
  have:c=evC y:=r
  rw[this]; exact evC_one y
 have:L=l.map evC:=by
  apply List.ext_getElem (by simp[h2.len])
  intro i a b
  have:=h2.el i a (by simpa using b)
  simp -implicitDefEqProofs only[List.getElem_map]
  exact this
 rw[this,← List.flatMap_def] at h1
 exact h1
def RtO (T:Tags)(h:Heap)(g:Tag)(q:Nat)(room:Int)(pv:Value)(ps:List PairD)(f:Feed)(l:List Chg)(seq:Int)(v:Value)(h':Heap):Prop :=
 ∃ (qv:Nat→Value) (i:Nat),Only (fun t=>t=g) T h T h'∧RfB T h' g q room pv qv ps (f.tell (l.take i) seq)∧i≤l.length∧v = .int .i64 i
def RtIn (T:Tags)(h:Heap)(g:Tag)(q:Nat)(room:Int)(pv:Value)(ps:List PairD)(f:Feed)(c:Chg)(seq:Int)(v:Value)(h':Heap):Prop :=
 ∃ (qv:Nat→Value) (n:Nat),Only (fun t=>t=g) T h T h'∧RfB T h' g q room pv qv ps (f.tell1 c seq n)∧n≤8∧v = .int .i64 n
theorem RfB.qput {T:Tags}{h h':Heap}{g:Tag}{q:Nat}{room:Int}{pv v:Value}{qv:Nat→Value}{ps:List PairD}{f f':Feed}(x:RfB T h g q room pv qv ps f)(w:Wf T h)(gn:g≠[]){n:Nat}(hn:n<8){e:Evt}
  (hf:f'={ f with qs:=qset f.qs n { f.qs n with l:=(f.qs n).l++[e] } }) (r:Rf 8 qtZ h h' v ((f.qs n).l++[e]).length (((f.qs n).l++[e]).flatMap evC)) :
  ∃ o',h' q=some (.cells (rfdC room pv qv fun j=>(f.qs j).lost).toArray qyZ (0,0))∧o'=over (rfdC room pv qv fun j=>(f.qs j).lost).toArray (2+n) [v]∧Only (fun t=>t=g) T h T (upd h' q (.cells o' qyZ (0,0)))∧RfB T (upd h' q (.cells o' qyZ (0,0))) g q room pv (fun j=>if j=n then v else qv j) ps f':=by
 have cq:=r.ex _ _ x.hp
 have o1:Only (fun t=>t=g) T h T h':=Only.of_ext w r.ex
 have u:=fun o'=>Only.upd (U:=fun t=>t=g) (o':=o') o1.wf cq x.tq
 refine⟨_,cq,rfl,o1.trans (u _),?_⟩
 rw[rfd_over hn]
 have e2:=(u (.cells (rfdC room pv (fun j=>if j=n then v else qv j) fun j=>(f.qs j).lost).toArray qyZ (0,0))).ext (fun hh=>gn hh.symm)
 have e1:=fz_of_ext (T:=T) r.ex
 subst hf
 refine⟨?_,x.tq,x.pr.ext (@PairR.ext) (e1.trans e2),fun j hj=>?_⟩
 ·rw[upd_same']
  congr 3
  congr 1
  funext j
  by_cases hj:j=n
  ·subst hj; simp[qset]
  ·simp -implicitDefEqProofs[qset,hj]
 ·show Sl 8 EvR _ (if j=n then v else qv j) (qset f.qs n _ j).l
  by_cases hj':j=n
  ·subst hj'
   simp -implicitDefEqProofs only[if_true,qset]
   exact (rf_evT r w).ext (@EvR.ext) e2
  ·simp -implicitDefEqProofs only[if_neg hj',qset]
   exact (x.qs j hj).ext (@EvR.ext) (e1.trans e2)
theorem RfB.qlost {T:Tags}{h:Heap}{g:Tag}{q:Nat}{room:Int}{pv:Value}{qv:Nat→Value}{ps:List PairD}{f f':Feed}(x:RfB T h g q room pv qv ps f)(w:Wf T h)(gn:g≠[]){n:Nat}(hn:n<8)
  (hf:f'={ f with qs:=qset f.qs n { f.qs n with lost:=true } }) :
  ∃ o',o'=over (rfdC room pv qv fun j=>(f.qs j).lost).toArray (10+n) [.bool true]∧Only (fun t=>t=g) T h T (upd h q (.cells o' qyZ (0,0)))∧RfB T (upd h q (.cells o' qyZ (0,0))) g q room pv qv ps f':=by
 have u:=fun o'=>Only.upd (U:=fun t=>t=g) (o':=o') w x.hp x.tq
 refine⟨_,rfl,u _,?_⟩
 rw[rfd_lost hn]
 have e2:=(u (.cells (rfdC room pv qv fun j=>if j=n then true else (f.qs j).lost).toArray qyZ (0,0))).ext (fun hh=>gn hh.symm)
 subst hf
 refine⟨?_,x.tq,x.pr.ext (@PairR.ext) e2,fun j hj=>?_⟩
 ·rw[upd_same']
  congr 3
  congr 1
  funext j
  by_cases hj:j=n
  ·subst hj; simp[qset]
  ·simp -implicitDefEqProofs[qset,hj]
 ·show Sl 8 EvR _ (qv j) (qset f.qs n _ j).l
  by_cases hj':j=n
  ·subst hj'
   simp -implicitDefEqProofs only[if_true,qset]
   exact (x.qs j hj).ext (@EvR.ext) e2
  ·simp -implicitDefEqProofs only[if_neg hj',qset]
   exact (x.qs j hj).ext (@EvR.ext) e2
set_option maxHeartbeats 8000000 in
theorem rftell_ok (l : List Chg) (seq : Int) {T : Tags} {h : Heap} {g : Tag} {q : Nat} {room : Int} {pv : Value} {qv : Nat → Value} {ps : List PairD} {f : Feed} (w : Wf T h) (gn : g ≠ []) (x : RfB T h g q room pv qv ps f) (pp : FdP f ps) (fg : FdG f) (rm : RmE f room) (hp : ps.length < 1000000) {cv : Value}
    (cx : Sl 7 ChgR (fz T h) cv l) (hl : l.length < 1000000) {K : KTy} (hk : ∀ h' qv', Only (fun t => t = g) T h T h' → RfB T h' g q room pv qv' ps (f.tell l seq) → K (.tuple #[]) h') : callM P qazZ #[ptr q, cv, .int .u64 seq] h K := by
  apply qqwZ
  unfold qeCZ
  have hlen := cx.len
  have gn' : ¬ (fun t : Tag => t = g) [] := fun h => gn h.symm
  refine loop_on [0, 1, 2] (fun s h' => RtO T h g q room pv ps f l seq (s 6) h') (fun s _ => (l.length - num (s 6)).toNat) ⟨qv, 0, Only.refl w, by simpa [Feed.tell] using x, by omega, rfl⟩ ?_
  rintro s h1 hf ⟨qv1, i, o1, x1, hi, s6⟩
  have s0 : s 0 = ptr q := by simpa using hf 0 (by simp)
  have s1 : s 1 = cv := by simpa using hf 1 (by simp)
  have s2 : s 2 = .int .u64 seq := by simpa using hf 2 (by simp)
  unfold qitZ
  simp -implicitDefEqProofs only [s6, s1, hlen, bin_lss, ov_s, cd_b]
  refine ⟨fun hc => ?_, fun hc => ?_⟩
  rotate_left
  · have : i = l.length := by have : ¬ ((i : Int) < l.length) := by simpa using hc
                              omega
    subst this
    rw [List.take_length] at x1
    simp -implicitDefEqProofs
    exact hk h1 _ o1 x1
  have hlt : i < l.length := by have : ((i : Int) < l.length) := by simpa using hc
                                omega
  have hw : IntKind.i64.wrap ((i : Int) + 1) = (i + 1 : Nat) := by rw [wrap64_id (by omega) (by omega)]; omega
  unfold qisZ
  rw [seqM_eq]
  unfold qirZ
  obtain ⟨b, p, i1, i2⟩ := chg_ld cx (k := .i64) hlt
  obtain ⟨c, hcc⟩ : ∃ c, l[i] = c := ⟨_, rfl⟩
  have hs1 := tell_succ f l seq hlt
  obtain ⟨f1, hf1⟩ : ∃ f1, f.tell (l.take i) seq = f1 := ⟨_, rfl⟩
  have fg1 : FdG f1 := hf1 ▸ fg.tell seq _
  have pp1 : FdP f1 ps := hf1 ▸ pp.tell _ seq
  have rm1 : RmE f1 room := hf1 ▸ rm.tell seq _
  rw [hf1] at x1 hs1
  rw [hcc] at hs1 i2
  refine loop_on [0, 1, 2, 6] (fun s' h' => RtIn T h g q room pv ps f1 c seq (s' 7) h') (fun s' _ => (8 - num (s' 7)).toNat) ⟨qv1, 0, o1, x1, by omega, rfl⟩ ?_
  rintro s' h3 hf' ⟨qv3, n, o3, X3, hn, s7⟩
  have t0 : s' 0 = ptr q := by simpa [s0] using hf' 0 (by simp)
  have t1 : s' 1 = cv := by simpa [s1] using hf' 1 (by simp)
  have t2 : s' 2 = .int .u64 seq := by simpa [s2] using hf' 2 (by simp)
  have t6 : s' 6 = .int .i64 i := by simpa [s6] using hf' 6 (by simp)
  unfold qiqZ
  simp -implicitDefEqProofs only [s7, bin_lss, ov_s, cd_b]
  refine ⟨fun hc8 => ?_, fun hc8 => ?_⟩
  rotate_left
  · have : n = 8 := by have : ¬ ((n : Int) < 8) := by simpa using hc8
                       omega
    subst this
    simp -implicitDefEqProofs [t6, hw, t0, t1, t2, s0, s1, s2, s6, -Int.natCast_add]
    exact ⟨⟨qv3, i + 1, o3, by rw [hs1]; exact X3, by omega, rfl⟩, by omega⟩
  have hn8 : n < 8 := by have : ((n : Int) < 8) := by simpa using hc8
                         omega
  have hw8 : IntKind.i64.wrap ((n : Int) + 1) = (n + 1 : Nat) := by rw [wrap64_id (by omega) (by omega)]; omega
  have fg3 : FdG (f1.tell1 c seq n) := fg1.tell1 c seq n
  have pp3 : FdP (f1.tell1 c seq n) ps := pp1.tell1 c seq n
  have rm3 : RmE (f1.tell1 c seq n) room := rm1.tell1 c seq n
  obtain ⟨f3, hf3⟩ : ∃ f3, f1.tell1 c seq n = f3 := ⟨_, rfl⟩
  have hsucc : f1.tell1 c seq (n + 1) = if f1.watching n c.user then { f3 with qs := qset f3.qs n ((f3.qs n).put ⟨c.user, c.old, c.new, seq⟩) } else f3 := by rw [← hf3]; rfl
  have hwt : f3.watching n c.user = f1.watching n c.user := by rw [← hf3]; unfold Feed.watching; rw [tell1_ws]
  rw [hf3] at X3 fg3 pp3 rm3
  have e3 : Ext (fz T h) h3 := (o3.ext gn').trans (fz_ext _ _)
  have ic := i2 _ e3
  have q0 : cel h3 b p = some (.string c.user) := (cels_get ic).2 0 (by simp [chgC])
  have ld1 : ldV (some (some 3)) (.pointer (some ⟨b, p + 1, none⟩)) h3 = some (.agg (presC c.old).toArray) := by
    have := cels_sub ic (j := 1) (m := 3) (by omega)
    simpa [chgC, presC] using ldV_n this
  have ld4 : ldV (some (some 3)) (.pointer (some ⟨b, p + 4, none⟩)) h3 = some (.agg (presC c.new).toArray) := by
    have := cels_sub ic (j := 4) (m := 3) (by omega)
    simpa [chgC, presC] using ldV_n this
  have cq := X3.hp
  have cqn : cel h3 q (2 + n) = some (qv3 n) := by rw [cel_of cq]; exact rfd_q hn8
  have cq0 : cel h3 q 0 = some (.int .i64 room) := by rw [cel_of cq]; rfl
  have xqn := (X3.qs n hn8).ext (@EvR.ext) (fz_ext T h3)
  have lqn := xqn.len
  have gqn := fg3.qs n hn8
  unfold qipZ
  rw [seqM_eq]
  unfold qioZ
  simp -implicitDefEqProofs [t0, t1, t6, s7, i1, q0]
  refine rfwatching_ok cq (X3.pr.ext (@PairR.ext) (fz_ext T h3)) hp n c.user ?_
  rw [pp3.watching fg3, hwt]
  unfold qinZ
  cases hwa : f1.watching n c.user with
  | false =>
    rw [hwa] at hsucc
    simp -implicitDefEqProofs
    unfold qilZ
    simp -implicitDefEqProofs [hw8, t0, t1, t2, t6, s7, s0, s1, s2, s6, -Int.natCast_add]
    exact ⟨⟨qv3, n + 1, o3, by rw [hsucc]; exact X3, by omega, rfl⟩, by omega⟩
  | true =>
    rw [hwa, if_pos rfl] at hsucc
    simp -implicitDefEqProofs
    unfold qimZ
    simp -implicitDefEqProofs [t0, s7, ia_arr hn8, cqn, lqn, cq0]
    refine ⟨fun hfull => ?_, fun hroom => ?_⟩
    · obtain ⟨o', ho', oo, X'⟩ := X3.qlost (f' := f1.tell1 c seq (n + 1)) o3.wf gn hn8 (by rw [hsucc]; unfold Ring.put; rw [if_pos (by rw [rm3 n hn8]; omega)])
      unfold qhfZ
      simp -implicitDefEqProofs [t0, s7, ia_arr hn8]
      rw [stm_at cq (by simp) (by rw [rfd_size]; omega) (by simp)]
      simp -implicitDefEqProofs [hw8, t0, t1, t2, t6, s7, s0, s1, s2, s6, -Int.natCast_add]
      rw [← ho']
      exact ⟨⟨qv3, n + 1, o3.trans oo, X', by omega, rfl⟩, by omega⟩
    · obtain ⟨ev, hev⟩ : ∃ ev : Evt, ev = ⟨c.user, c.old, c.new, seq⟩ := ⟨_, rfl⟩
      have hput : f1.tell1 c seq (n + 1) = { f3 with qs := qset f3.qs n { f3.qs n with l := (f3.qs n).l ++ [ev] } } := by
        rw [hsucc]; unfold Ring.put; rw [if_neg (by rw [rm3 n hn8]; omega), hev]
      have reads : ∀ {h'}, Ext h3 h' → cel h' q (2 + n) = some (qv3 n) ∧ cel h' b p = some (.string c.user) ∧ ldV (some (some 3)) (.pointer (some ⟨b, p + 1, none⟩)) h' = some (.agg (presC c.old).toArray) ∧ ldV (some (some 3)) (.pointer (some ⟨b, p + 4, none⟩)) h' = some (.agg (presC c.new).toArray) := fun {h'} e => by
        have ic' := i2 _ (e3.trans e)
        refine ⟨by rw [cel_of (e _ _ cq)]; exact rfd_q hn8, (cels_get ic').2 0 (by simp [chgC]), ?_, ?_⟩
        · have := cels_sub ic' (j := 1) (m := 3) (by omega)
          simpa [chgC, presC] using ldV_n this
        · have := cels_sub ic' (j := 4) (m := 3) (by omega)
          simpa [chgC, presC] using ldV_n this
      have evA : Value.agg #[.string c.user, .int .i64 c.old.st, .int .i64 c.old.pr, .int .i64 c.old.lv, .int .i64 c.new.st, .int .i64 c.new.pr, .int .i64 c.new.lv, .int .u64 seq] = .agg (evC ev).toArray := by rw [hev]; rfl
      have evs : (Value.agg (evC ev).toArray).cells.size = 8 := by simp [evC, presC]
      have onel : ∀ (l : List Evt) (u : Value), u ∈ l.flatMap evC → u.oneCell' = true := fun l u hu => by
        obtain ⟨y, _, hy⟩ := List.mem_flatMap.1 hu
        exact evC_one y u hy
      have hfl : ((f3.qs n).l ++ [ev]).flatMap evC = (f3.qs n).l.flatMap evC ++ evC ev := by simp
      have g16 := gqn.2.2
      have app : ∀ {h1 : Heap} {v1 : Value} {K' : KTy}, Rf 8 qtZ h3 h1 v1 0 [] → (∀ v2 h2, Rf 8 qtZ h3 h2 v2 (f3.qs n).l.length ((f3.qs n).l.flatMap evC) → (∀ b o, h1 b = some o → rowOf v1 ≠ some b → h2 b = some o) → K' v2 h2) → vvM P (Builtin.append_ #[qfZ, qfZ] qfZ #[v1, qv3 n]) h1 K' := fun {h1 v1 K'} r1 hK => by
        refine Rf.app2 unSlEv apEv (by omega) r1 (ev_els (xqn.ext (@EvR.ext) r1.ex)) (onel _) (by unfold maxLen; omega) (by omega) fun v2 h2 r2 kp2 _ => ?_
        refine hK v2 h2 ?_ kp2
        simpa using r2
      have app1 : ∀ {h1 : Heap} {v1 : Value} {be : Nat} {K' : KTy}, Rf 8 qtZ h3 h1 v1 (f3.qs n).l.length ((f3.qs n).l.flatMap evC) → h1 be = some (.cells (evC ev).toArray qtZ (0, 0)) → (∀ v2 h2, Rf 8 qtZ h3 h2 v2 ((f3.qs n).l ++ [ev]).length (((f3.qs n).l ++ [ev]).flatMap evC) → K' v2 h2) →
          vvM P (Builtin.append_ #[qfZ, qfZ] qfZ #[v1, .slice (some ⟨be, 0, none⟩) 1 1]) h1 K' := fun {h1 v1 be K'} r1 cb hK => by
        refine Rf.app2 (m := 1) (news := evC ev) unSlEv apEv (by omega) r1 (.inr ⟨be, 0, 1, rfl, cels_one (x := .agg (evC ev).toArray) cb (by simp [evC, presC])⟩) (evC_one ev) (by unfold maxLen; omega) (by omega) fun v2 h2 r2 _ _ => ?_
        refine hK v2 h2 ?_
        rw [hfl]; simpa using r2
      have fin : ∀ {h' : Heap} {v' : Value}, Rf 8 qtZ h3 h' v' ((f3.qs n).l ++ [ev]).length (((f3.qs n).l ++ [ev]).flatMap evC) → ∀ {Q : Post} (ss : Env) (m : List Nat), (∀ h'', RtIn T h g q room pv ps f1 c seq (.int .i64 (n + 1 : Nat)) h'' → Q .normal m ss h'') → stM (some 1) (.pointer (some ⟨q, 2 + n, none⟩)) v' h' fun h'' => Q .normal m ss h'' := by
        intro h' v' r Q ss m hQ
        obtain ⟨o', hq', ho', oo, X'⟩ := X3.qput o3.wf gn hn8 hput r
        have ro := r.row.one
        rw [stm_at hq' (by simp [ro.2]) (by rw [rfd_size]; omega) (by simp [ro.1, ro.2])]
        simp -implicitDefEqProofs only [ro.2]
        rw [← ho']
        exact hQ _ ⟨_, n + 1, o3.trans oo, X', by omega, rfl⟩
      unfold qhmZ
      obtain ⟨z1, z2, z3, z4⟩ := reads (Ext.refl h3)
      simp -implicitDefEqProofs only [presC] at z3 z4
      simp -implicitDefEqProofs [t0, t1, t2, t6, s7, ia_arr hn8, i1, z1, z2, z3, z4, bdEv]
      rw [evA]
      refine ⟨?_, ?_⟩
      · unfold qhjZ
        refine bs_none bsEv fun v1 h4 e4 row4 hr4 new4 => ?_
        have r4 : Rf 8 qtZ h3 h4 v1 0 [] := ⟨e4, row4, new4, by simp⟩
        obtain ⟨z1, z2, z3, z4⟩ := reads e4
        refine ⟨z1, z2, z3, z4, ?_, ?_⟩
        · refine app r4 fun v5 h5 r5 _ => ?_
          obtain ⟨z1, z2, z3, z4⟩ := reads r5.ex
          unfold qhhZ
          refine ⟨z2, z3, z4, ?_⟩
          refine bs_one bsEv evs (by omega) fun be h6 n6 e6 c6 => ?_
          refine app1 (r5.ext e6) c6 fun v7 h7 r7 => ?_
          unfold qhgZ
          simp -implicitDefEqProofs only [s7, ia_arr hn8, ov_s]
          refine fin r7 _ _ fun h'' J => ?_
          simp -implicitDefEqProofs [hw8, t0, t1, t2, t6, s7, s0, s1, s2, s6, -Int.natCast_add]
          exact ⟨J, by omega⟩
        · refine bs_one bsEv evs (by omega) fun be h5 n5 e5 c5 => ?_
          obtain ⟨z1, z2, z3, z4⟩ := reads (e4.trans e5)
          refine ⟨z1, ?_⟩
          refine app (r4.ext e5) fun v6 h6 r6 kp6 => ?_
          have c6 := kp6 be _ c5 fun hh => by
            obtain ⟨o, ho⟩ := row4.lt be hh
            rw [n5] at ho; cases ho
          refine app1 r6 c6 fun v7 h7 r7 => ?_
          unfold qhiZ
          simp -implicitDefEqProofs only [s7, ia_arr hn8, ov_s]
          refine fin r7 _ _ fun h'' J => ?_
          simp -implicitDefEqProofs [hw8, t0, t1, t2, t6, s7, s0, s1, s2, s6, -Int.natCast_add]
          exact ⟨J, by omega⟩
      · unfold qhlZ
        refine bs_one bsEv evs (by omega) fun be h4 n4 e4 c4 => ?_
        obtain ⟨z1, z2, z3, z4⟩ := reads e4
        refine ⟨z1, ?_⟩
        refine bs_none bsEv fun v1 h5 e5 row5 hr5 new5 => ?_
        have r5 : Rf 8 qtZ h3 h5 v1 0 [] := ⟨e4.trans e5, row5, fun g hg => fresh_of e4 (new5 g hg), by simp⟩
        obtain ⟨z1, z2, z3, z4⟩ := reads (e4.trans e5)
        refine ⟨z1, ?_⟩
        refine app r5 fun v6 h6 r6 kp6 => ?_
        have c6 := kp6 be _ (e5 _ _ c4) fun hh => by
          have := new5 be hh
          rw [c4] at this; cases this
        refine app1 r6 c6 fun v7 h7 r7 => ?_
        unfold qhkZ
        simp -implicitDefEqProofs only [s7, ia_arr hn8, ov_s]
        refine fin r7 _ _ fun h'' J => ?_
        simp -implicitDefEqProofs [hw8, t0, t1, t2, t6, s7, s0, s1, s2, s6, -Int.natCast_add]
        exact ⟨J, by omega⟩
end Go.Proofs.YtmbningljbcpkaaGreat
namespace Go.Proofs.YtmbningljbcpkaaGreat
open Go Go.Den Go.MapKept
set_option linter.unusedSimpArgs false
set_option linter.unusedVariables false
set_option maxRecDepth 20000
variable {K:KTy}
theorem radd_ok (a b:Int)(ha:U64 a)(hb:U64 b){h:Heap}(hk:K (.int .u64 (addU a b)) h):callM P qcwZ #[.int .u64 a,.int .u64 b] h K:=by
 apply qpCZ
 unfold qfhZ
 unfold U64 at ha hb
 have w1:IntKind.u64.wrap (18446744073709551615-a)=18446744073709551615-a:=wrapU_id (by omega) (by omega)
 unfold addU at hk
 by_cases hc:18446744073709551615-a<b
 ·rw[if_pos hc] at hk
  simp -implicitDefEqProofs[w1,hc]; exact hk
 ·rw[if_neg hc] at hk
  have w2:IntKind.u64.wrap (a+b)=a+b:=wrapU_id (by omega) (by omega)
  simp -implicitDefEqProofs[w1,hc,w2]; exact hk
theorem lc_V03 {g:Tag}(gg:Gd g):¬ V03 g lc:=by rintro (h | h)<;>exact lc_ne g gg _ h
theorem RhR.lst {T:Tags}{h:Heap}{g:Tag}{p:Nat}{H:Hall}(x:RhR T h g p H)(gg:Gd g){b:Nat}{o o':Obj}(w:Wf T h)(e:h b=some o∧T b=lc):RhR T (upd h b o') g p H:=x.kp (Only.lst w e).k gg.off (by simp)
theorem RhX.tst {T:Tags}{h:Heap}{g:Tag}{p:Nat}{H:Hall}{sv av:Value}{Y:Nat→RSx}(x:RhX T h g p H sv av Y)(w:Wf T h)(t:Tm) :
  Only (fun u=>u=g++[0]) T h T (upd h p (.cells (rhC { H with t:=t } sv av).toArray qqZ (0,0)))∧RhX T (upd h p (.cells (rhC { H with t:=t } sv av).toArray qqZ (0,0))) g p { H with t:=t } sv av Y:=by
 have o:Only (fun u=>u=g++[0]) T h T (upd h p (.cells (rhC { H with t:=t } sv av).toArray qqZ (0,0))):=Only.upd w x.hp x.tp
 exact⟨o,upd_same' _ _ _,x.tp,x.st.kp o.k (ne_tag (by simp)),x.ac.kp o.k (ne_tag (by simp)),fun i hi=>(x.sr i hi).kp o.k (ne_tag (by simp)) (ne_tag (by simp)) (by simp)⟩
theorem rz_take (who:Int){T:Tags}{h:Heap}{g:Tag}{p:Nat}{H:Hall}(w:Wf T h)(gg:Gd g)(x:RhR T h g p H)(ht:U64 H.t.seq)(hl:H.acts.length<1000000)
  (hk:∀ T' h',Only (pre g) T h T' h'→RhR T' h' g p (H.take who)→K (.agg (tmC { H.t with seq:=addU H.t.seq 1 }).toArray) h'):callM P qegZ #[ptr p,.int .i64 who] h K:=by
 apply qqrZ
 unfold qeAZ
 rw[zcTime]
 refine nw_tag w lc fun v1 T1 h1 n1 o1 t1 c1=>?_
 obtain⟨sv,av,Y,x1⟩:=x.kp o1.k (Off.non _) (not_non _)
 have b1:h1 v1=_∧T1 v1=lc:=⟨c1,t1⟩
 refine rz_did who 4 0 o1.wf x1 hl fun T2 h2 av2 o2 x2=>?_
 have b1:=o2.see b1 (lc_V03 gg)
 have cp:=x2.hp
 simp -implicitDefEqProofs only[rhC] at cp
 unfold qigZ
 simp -implicitDefEqProofs[ld_at cp,cel_of cp,stm_at cp,stm_upd,ld_same,cel_same,over,Hall.did]
 refine radd_ok _ _ ht (by simp[U64]) ?_
 obtain⟨o4,x4⟩:=x2.tst o2.wf { H.t with seq:=addU H.t.seq 1 }
 have b1:=o4.see b1 (lc_ne g gg _)
 have c1:=b1.1
 have cp4:=x4.hp
 have oo:Only (pre g) T h T2 _:=((o1.mono fun _=>non_up _).up o2 fun _=>V03.pre).up o4 fun t=>eq_pre
 unfold qifZ
 simp -implicitDefEqProofs[ld_at cp,cel_of cp,stm_at cp,stm_upd,ld_same,cel_same,over,Hall.did]
 simp -implicitDefEqProofs only[rhC,Hall.did] at c1 cp4 x4 oo b1
 generalize upd h2 p _=h4 at *
 simp -implicitDefEqProofs[ld_at cp4,cel_of cp4,stm_at cp4,ld_at c1,cel_of c1,stm_at c1,stm_upd,ld_same,cel_same,over]
 exact hk T2 _ (oo.own n1 c1) (RhR.lst ⟨sv,av2,Y,x4⟩ gg oo.wf b1)
theorem put_self (H:Hall)(s:Nat):H.put s (H.ss s)=H:=by
 have:sput H.ss s (H.ss s)=H.ss:=by
  funext k
  simp -implicitDefEqProofs only[sput]
  split
  ·rename_i h; rw[h]
  ·rfl
 unfold Hall.put
 rw[this]
theorem pl4 {s:Nat}(hs:s<8):IntKind.i64.wrap (4*(s:Int))=4*s∧(∀ k:Int,0≤k→k≤4→IntKind.i64.wrap (4*(s:Int)+k)=4*s+k):=⟨wrap64_id (by omega) (by omega),fun k h1 h2=>wrap64_id (by omega) (by omega)⟩
section
variable {s:Nat}{T:Tags}{h:Heap}{g:Tag}{p:Nat}{H:Hall}{K:KTy}
theorem RhX.stw {sv av:Value}{Y:Nat→RSx}(x:RhX T h g p H sv av Y)(w:Wf T h)(hs:s<H.n)(X':Strp)(sn' bk':Value)(h1:Sl 5 UsrR (fz T h) sn' X'.snap)(h2:Sl 5 UsrR (fz T h) bk' X'.book)(hf:X'.feed=(H.ss s).feed)(hb:X'.bound=(H.ss s).bound) :
  Only (V12 g s) T h T (upd h (Y s).bp (.cells (rstC X' { Y s with sn:=sn',bk:=bk' }).toArray qBZ (0,0))) ∧
  RhX T (upd h (Y s).bp (.cells (rstC X' { Y s with sn:=sn',bk:=bk' }).toArray qBZ (0,0))) g p (H.put s X') sv av (fun k=>if k=s then { Y s with sn:=sn',bk:=bk' } else Y k):=by
 have r:=x.sr s hs
 have o1:Only (fun t=>t=g++[1,s]) T h T (upd h (Y s).bp (.cells (rstC X' { Y s with sn:=sn',bk:=bk' }).toArray qBZ (0,0))):=Only.upd w r.hp r.tp
 have o2:=o1.mono (V:=V12 g s) fun t e=>.inl e
 have e:=o1.ext (by simp)
 refine⟨o2,x.sett o2 ⟨upd_same' _ _ _,r.tp,h1.ext (@UsrR.ext) e,h2.ext (@UsrR.ext) e,?_,by rw[hf]; exact r.pp,by rw[hf]; exact r.rm,by rw[hb]; exact r.bd⟩ rfl⟩
 rw[hf]
 exact r.fd.kp o1.k (ne_tag (by simp)) (by simp)
theorem rz_begin (who:Int)(w:Wf T h)(x:RhR T h g p H)(hs:s<H.n)(h8:H.n≤8)(hl:H.acts.length<1000000)(hv:U64 (H.ss s).v)(he:U64 H.c.epochs)
  (hk:∀ T' h',Only (pre g) T h T' h'→RhR T' h' g p (H.begin who s)→K (.tuple #[]) h'):callM P qdSZ #[ptr p,.int .i64 who,.int .i64 s] h K:=by
 apply qqgZ
 unfold qelZ
 obtain⟨sv,av,Y,x⟩:=x
 obtain⟨w4,w5⟩:=pl4 (show s<8 by omega)
 simp -implicitDefEqProofs[w4,w5 2 (by omega) (by omega)]
 refine rz_did who 4 _ w x hl fun T2 h2 av2 o2 x2=>?_
 have cp:=x2.hp
 simp -implicitDefEqProofs only[rhC] at cp
 obtain⟨b,ia,cb⟩:=x2.at_ (k:=.i64) (s:=s) hs
 have r:=x2.sr s hs
 have cs:=r.hp
 simp -implicitDefEqProofs only[rstC] at cs
 unfold qgZZ
 simp -implicitDefEqProofs[ld_at cp,cel_of cp,stm_at cp,ld_at cs,cel_of cs,stm_at cs,stm_upd,ld_same,cel_same,over,ia,cb]
 refine rbegin05_ok _ _ hv he ?_
 unfold qgYZ
 simp -implicitDefEqProofs[ld_at cp,cel_of cp,stm_at cp,ld_at cs,cel_of cs,stm_at cs,stm_upd,ld_same,cel_same,over,ia,cb]
 obtain⟨o4,x4⟩:=x2.stw o2.wf hs { (H.did who 4 (4*s+2)).ss s with v:=bgn (H.ss s).v (H.ss s).bound } (Y s).sn (Y s).bk r.sn r.bk rfl rfl
 have hb:=r.bd
 rw[show (H.did who 4 (4*(s:Int)+2)).ss s=H.ss s from rfl,show (H.did who 4 (4*(s:Int)+2)).c=H.c from rfl] at *
 rw[← hb]
 exact hk T2 _ ((o2.mono fun _=>V03.pre).up o4 fun t=>V12.pre) ⟨sv,av2,_,x4⟩
theorem rz_end (who:Int)(w:Wf T h)(x:RhR T h g p H)(hs:s<H.n)(h8:H.n≤8)(hl:H.acts.length<1000000)(hv:0≤(H.ss s).v∧(H.ss s).v<18446744073709551615)
  (hk:∀ T' h',Only (pre g) T h T' h'→RhR T' h' g p (H.end_ who s)→K (.tuple #[]) h'):callM P qevZ #[ptr p,.int .i64 who,.int .i64 s] h K:=by
 apply qqIZ
 unfold qeYZ
 obtain⟨sv,av,Y,x⟩:=x
 obtain⟨w4,w5⟩:=pl4 (show s<8 by omega)
 simp -implicitDefEqProofs[w4,w5 2 (by omega) (by omega)]
 refine rz_did who 4 _ w x hl fun T2 h2 av2 o2 x2=>?_
 have cp:=x2.hp
 simp -implicitDefEqProofs only[rhC] at cp
 obtain⟨b,ia,cb⟩:=x2.at_ (k:=.i64) (s:=s) hs
 have r:=x2.sr s hs
 have cs:=r.hp
 simp -implicitDefEqProofs only[rstC] at cs
 unfold qjhZ
 simp -implicitDefEqProofs[ld_at cp,cel_of cp,stm_at cp,ld_at cs,cel_of cs,stm_at cs,stm_upd,ld_same,cel_same,over,ia,cb]
 refine rend05_ok _ hv ?_
 unfold qjgZ
 simp -implicitDefEqProofs[ld_at cp,cel_of cp,stm_at cp,ld_at cs,cel_of cs,stm_at cs,stm_upd,ld_same,cel_same,over,ia,cb]
 obtain⟨o4,x4⟩:=x2.stw o2.wf hs { (H.did who 4 (4*s+2)).ss s with v:=endV (H.ss s).v } (Y s).sn (Y s).bk r.sn r.bk rfl rfl
 exact hk T2 _ ((o2.mono fun _=>V03.pre).up o4 fun t=>V12.pre) ⟨sv,av2,_,x4⟩
theorem rz_pub (who:Int)(w:Wf T h)(x:RhR T h g p H)(hs:s<H.n)(h8:H.n≤8)(hl:H.acts.length<999999)
  (hk:∀ T' h',Only (pre g) T h T' h'→RhR T' h' g p (H.pub who s)→K (.tuple #[]) h'):callM P qcDZ #[ptr p,.int .i64 who,.int .i64 s] h K:=by
 apply qpBZ
 unfold qdeZ
 obtain⟨sv,av,Y,x⟩:=x
 obtain⟨w4,w5⟩:=pl4 (show s<8 by omega)
 simp -implicitDefEqProofs[w4,w5 4 (by omega) (by omega)]
 refine rz_did who 1 _ w x (by omega) fun T1 h1 av1 o1 x1=>?_
 unfold qfBZ
 simp -implicitDefEqProofs[w4,w5 3 (by omega) (by omega)]
 refine rz_did who 4 _ o1.wf x1 (by simp[Hall.did]; omega) fun T2 h2 av2 o2 x2=>?_
 have cp:=x2.hp
 simp -implicitDefEqProofs only[rhC] at cp
 obtain⟨b,ia,cb⟩:=x2.at_ (k:=.i64) (s:=s) hs
 have r:=x2.sr s hs
 have cs:=r.hp
 simp -implicitDefEqProofs only[rstC] at cs
 have ob:=r.bk.one
 unfold qfAZ
 simp -implicitDefEqProofs[ld_at cp,cel_of cp,stm_at cp,ld_at cs,cel_of cs,stm_at cs,stm_upd,ld_same,cel_same,over,ia,cb,ob.1,ob.2]
 obtain⟨o4,x4⟩:=x2.stw o2.wf hs { H.ss s with snap:=(H.ss s).book } (Y s).bk (Y s).bk r.bk r.bk rfl rfl
 exact hk T2 _ (((o1.mono fun _=>V03.pre).up o2 fun _=>V03.pre).up o4 fun t=>V12.pre) ⟨sv,av2,_,x4⟩
theorem rz_quiet {m:Nat}(w:Wf T h)(x:RhR T h g p H)(hs:s<H.n)(hh:HS m H)(hm:m≤100000)(hk:K (.bool (H.quiet s)) h):callM P qdQZ #[ptr p,.int .i64 s] h K:=by
 apply qqeZ
 unfold qejZ
 obtain⟨sv,av,Y,x⟩:=x
 have cp:=x.hp
 simp -implicitDefEqProofs only[rhC] at cp
 obtain⟨b,ia,cb⟩:=x.at_ (k:=.i64) (s:=s) hs
 have r:=x.sr s hs
 have cs:=r.hp
 simp -implicitDefEqProofs only[rstC] at cs
 have st:=hh.st s hs
 have v0:=st.v0
 have ht:(H.ss s).v.tmod 2=(H.ss s).v % 2:=Int.tmod_eq_emod_of_nonneg v0.1
 unfold Hall.quiet wrt at hk
 by_cases h0:(H.ss s).v % 2=0
 ·simp -implicitDefEqProofs[h0] at hk
  simp -implicitDefEqProofs[ld_at cp,cel_of cp,stm_at cp,ld_at cs,cel_of cs,stm_at cs,stm_upd,ld_same,cel_same,over,ia,cb,ht,h0]
  refine usrSame_ok _ _ (r.sn.ext (@UsrR.ext) (fz_ext T h)) (r.bk.ext (@UsrR.ext) (fz_ext T h)) (by have:=st.sn.bl; omega) (fun z hz=>by have:=st.sn.bn z hz; omega) ?_
  exact hk
 ·have h1:(H.ss s).v % 2=1:=by omega
  simp -implicitDefEqProofs[h1] at hk
  simp -implicitDefEqProofs[ld_at cp,cel_of cp,stm_at cp,ld_at cs,cel_of cs,stm_at cs,stm_upd,ld_same,cel_same,over,ia,cb,ht,h1]
  exact hk
theorem rz_of (u:ByteArray)(hu:u.size≤maxLen)(x:RhR T h g p H)(hc:H.c.stripes≤8)(hk:K (.int .i64 (stripeOf u H.c.stripes)) h):callM P qeWZ #[ptr p,.string u] h K:=by
 apply qrhZ
 unfold qfwZ
 obtain⟨sv,av,Y,x⟩:=x
 have cp:=x.hp
 simp -implicitDefEqProofs only[rhC] at cp
 simp -implicitDefEqProofs[ld_at cp,cel_of cp,stm_at cp,stm_upd,ld_same,cel_same,over]
 exact rstripe_ok u _ (by omega) hu hk
end
end Go.Proofs.YtmbningljbcpkaaGreat
namespace Go.Proofs.YtmbningljbcpkaaGreat
open Go Go.Den Go.MapKept
set_option linter.unusedSimpArgs false
set_option linter.unusedVariables false
set_option maxRecDepth 20000
section
variable {s:Nat}{T:Tags}{h:Heap}{g:Tag}{p:Nat}{H:Hall}{K:KTy}
set_option maxHeartbeats 1000000 in
theorem rz_lock (who:Int)(w:Wf T h)(x:RhR T h g p H)(hs:s<H.n)(h8:H.n≤8)(hl:H.acts.length<1000000)(hw:0≤(H.ss s).who)
  (hk:∀ T' h',Only (pre g) T h T' h'→RhR T' h' g p (H.lock who s)→K (.bool (canTake (H.ss s).who who)) h'):callM P qehZ #[ptr p,.int .i64 who,.int .i64 s] h K:=by
 apply qqsZ
 unfold qeBZ
 obtain⟨sv,av,Y,x⟩:=x
 obtain⟨w4,w5⟩:=pl4 (show s<8 by omega)
 have cp:=x.hp
 simp -implicitDefEqProofs only[rhC] at cp
 obtain⟨b,ia,cb⟩:=x.at_ (k:=.i64) (s:=s) hs
 have r:=x.sr s hs
 have cs:=r.hp
 simp -implicitDefEqProofs only[rstC] at cs
 simp -implicitDefEqProofs[ld_at cp,cel_of cp,stm_at cp,ld_at cs,cel_of cs,stm_at cs,stm_upd,ld_same,cel_same,over,ia,cb]
 refine rtake13_ok _ _ ?_
 unfold qikZ
 by_cases hc:canTake (H.ss s).who who=true
 ·have hc':0≤who∧(H.ss s).who=0:=by simpa [canTake] using hc
  rw[if_pos ⟨by omega,hc'.1⟩,if_pos ⟨by omega,hc'.1⟩]
  simp -implicitDefEqProofs
  rw[seqM_eq]
  unfold qdXZ
  simp -implicitDefEqProofs
  unfold qiiZ
  simp -implicitDefEqProofs[w4,w5 1 (by omega) (by omega)]
  refine rz_did who 5 _ w x hl fun T2 h2 av2 o2 x2=>?_
  have cp:=x2.hp
  simp -implicitDefEqProofs only[rhC] at cp
  obtain⟨b,ia,cb⟩:=x2.at_ (k:=.i64) (s:=s) hs
  have r:=x2.sr s hs
  have cs:=r.hp
  simp -implicitDefEqProofs only[rstC] at cs
  obtain⟨o4,x4⟩:=x2.stw o2.wf hs { H.ss s with who:=who+1 } (Y s).sn (Y s).bk r.sn r.bk rfl rfl
  have e1:who+1-1=who:=by omega
  simp -implicitDefEqProofs only[rstC,e1] at o4 x4
  have hk:=hk T2 _ ((o2.mono fun _=>V03.pre).up o4 fun t=>V12.pre) ⟨sv,av2,_,by unfold Hall.lock; rw[if_pos hc]; exact x4⟩
  rw[hc] at hk
  unfold qihZ
  simp -implicitDefEqProofs
  unfold qdYZ
  simp -implicitDefEqProofs[ld_at cp,cel_of cp,stm_at cp,ld_at cs,cel_of cs,stm_at cs,stm_upd,ld_same,cel_same,over,ia,cb]
  exact hk
 ·have hc':¬ (0≤who∧(H.ss s).who=0):=by simpa [canTake] using hc
  rw[if_neg (by omega),if_neg (by omega)]
  simp -implicitDefEqProofs
  rw[seqM_eq]
  unfold qdXZ
  simp -implicitDefEqProofs
  unfold qijZ
  simp -implicitDefEqProofs
  have hcf:canTake (H.ss s).who who=false:=by simpa using hc
  obtain⟨o4,x4⟩:=x.stw w hs (H.ss s) (Y s).sn (Y s).bk r.sn r.bk rfl rfl
  rw[put_self] at x4
  simp -implicitDefEqProofs only[rstC] at o4 x4
  have hk:=hk T _ (o4.mono fun t=>V12.pre) ⟨sv,av,_,by unfold Hall.lock; rw[if_neg hc]; exact x4⟩
  rw[hcf] at hk
  unfold qdYZ
  simp -implicitDefEqProofs[ld_at cp,cel_of cp,stm_at cp,ld_at cs,cel_of cs,stm_at cs,stm_upd,ld_same,cel_same,over,ia,cb]
  exact hk
set_option maxHeartbeats 1000000 in
theorem rz_unlock (who:Int)(w:Wf T h)(x:RhR T h g p H)(hs:s<H.n)(h8:H.n≤8)(hl:H.acts.length<1000000)(hw:0≤(H.ss s).who)
  (hk:∀ T' h',Only (pre g) T h T' h'→RhR T' h' g p (H.unlock who s)→K (.bool (canGive (H.ss s).who who)) h'):callM P qdaZ #[ptr p,.int .i64 who,.int .i64 s] h K:=by
 apply qpQZ
 unfold qdZZ
 obtain⟨sv,av,Y,x⟩:=x
 obtain⟨w4,w5⟩:=pl4 (show s<8 by omega)
 have cp:=x.hp
 simp -implicitDefEqProofs only[rhC] at cp
 obtain⟨b,ia,cb⟩:=x.at_ (k:=.i64) (s:=s) hs
 have r:=x.sr s hs
 have cs:=r.hp
 simp -implicitDefEqProofs only[rstC] at cs
 simp -implicitDefEqProofs[ld_at cp,cel_of cp,stm_at cp,ld_at cs,cel_of cs,stm_at cs,stm_upd,ld_same,cel_same,over,ia,cb]
 refine rgive13_ok _ _ ?_
 unfold qfZZ
 by_cases hc:canGive (H.ss s).who who=true
 ·have hc':¬ (H.ss s).who=0∧(H.ss s).who-1=who:=by simpa [canGive] using hc
  rw[if_pos ⟨by omega,hc'.2⟩,if_pos ⟨by omega,hc'.2⟩]
  simp -implicitDefEqProofs
  rw[seqM_eq]
  unfold qcFZ
  simp -implicitDefEqProofs
  unfold qfXZ
  simp -implicitDefEqProofs[w4,w5 1 (by omega) (by omega)]
  refine rz_did who 6 _ w x hl fun T2 h2 av2 o2 x2=>?_
  have cp:=x2.hp
  simp -implicitDefEqProofs only[rhC] at cp
  obtain⟨b,ia,cb⟩:=x2.at_ (k:=.i64) (s:=s) hs
  have r:=x2.sr s hs
  have cs:=r.hp
  simp -implicitDefEqProofs only[rstC] at cs
  obtain⟨o4,x4⟩:=x2.stw o2.wf hs { H.ss s with who:=0 } (Y s).sn (Y s).bk r.sn r.bk rfl rfl
  have e1:(0:Int)-1 = -1:=by omega
  simp -implicitDefEqProofs only[rstC,e1] at o4 x4
  have hk:=hk T2 _ ((o2.mono fun _=>V03.pre).up o4 fun t=>V12.pre) ⟨sv,av2,_,by unfold Hall.unlock; rw[if_pos hc]; exact x4⟩
  rw[hc] at hk
  unfold qfWZ
  simp -implicitDefEqProofs
  unfold qcGZ
  simp -implicitDefEqProofs[ld_at cp,cel_of cp,stm_at cp,ld_at cs,cel_of cs,stm_at cs,stm_upd,ld_same,cel_same,over,ia,cb]
  exact hk
 ·have hc':¬ (H.ss s).who=0→¬ (H.ss s).who-1=who:=by simpa [canGive] using hc
  rw[if_neg (by omega),if_neg (by omega)]
  simp -implicitDefEqProofs
  rw[seqM_eq]
  unfold qcFZ
  simp -implicitDefEqProofs
  unfold qfYZ
  simp -implicitDefEqProofs
  have hcf:canGive (H.ss s).who who=false:=by simpa using hc
  obtain⟨o4,x4⟩:=x.stw w hs (H.ss s) (Y s).sn (Y s).bk r.sn r.bk rfl rfl
  rw[put_self] at x4
  simp -implicitDefEqProofs only[rstC] at o4 x4
  have hk:=hk T _ (o4.mono fun t=>V12.pre) ⟨sv,av,_,by unfold Hall.unlock; rw[if_neg hc]; exact x4⟩
  rw[hcf] at hk
  unfold qcGZ
  simp -implicitDefEqProofs[ld_at cp,cel_of cp,stm_at cp,ld_at cs,cel_of cs,stm_at cs,stm_upd,ld_same,cel_same,over,ia,cb]
  exact hk
theorem RhX.stf {sv av:Value}{Y:Nat→RSx}(x:RhX T h g p H sv av Y)(hs:s<H.n){T':Tags}{h':Heap}(o:Only (fun t=>t=g++[2,s]) T h T' h'){pv':Value}{qv':Nat→Value}{ps':List PairD}{f':Feed}(r':RfB T' h' (g++[2,s]) (Y s).fp H.c.queue pv' qv' ps' f')(pp:FdP f' ps')(rm:RmE f' H.c.queue) :
  ∃ Y',RhX T' h' g p (H.put s { H.ss s with feed:=f' }) sv av Y':=by
 have r:=x.sr s hs
 have o2:=o.mono (V:=V12 g s) fun t e=>.inr e
 have e:=o.ext (by simp)
 have b:=o.k.at r.hp r.tp (ne_tag (by simp))
 exact⟨_,x.sett o2 (y':={ Y s with pv:=pv',qv:=qv',ps:=ps' }) ⟨b.1,b.2,r.sn.ext (@UsrR.ext) e,r.bk.ext (@UsrR.ext) e,r',pp,rm,r.bd⟩ rfl⟩
end
end Go.Proofs.YtmbningljbcpkaaGreat
namespace Go.Proofs.YtmbningljbcpkaaGreat
open Go Go.Den Go.MapKept
set_option linter.unusedSimpArgs false
set_option linter.unusedVariables false
set_option maxRecDepth 20000
theorem tag_ne {T:Tags}{a b:Nat}{s t:Tag}(h1:T a=s)(h2:T b=t)(n:s≠t):a≠b:=fun e=>n (by rw[← h1,← h2,e])
section
variable {s:Nat}{T:Tags}{h:Heap}{g:Tag}{p:Nat}{H:Hall}{K:KTy}
theorem RhX.ata {sv av:Value}{Y:Nat→RSx}(x:RhX T h g p H sv av Y){s:Nat}(hs:s<H.n){k:IntKind}:∃ b,iaV (some (none,1)) sv (.int k s)=some (.pointer (some ⟨b,s,none⟩))∧cel h b s=some (ptr (Y s).bp)∧b≠(Y s).bp∧p≠(Y s).bp:=by
 obtain⟨b,h1,h2⟩:=x.at_ (k:=k) hs
 obtain⟨b',h3,h4⟩:=x.st.1.ia (k:=k) hs
 have hbb:b'=b:=by rw[h1] at h4; simp at h4; exact h4.symm
 subst hbb
 exact⟨b',h1,h2,tag_ne (x.st.2 b' h3) (x.sr s hs).tp (ne_tag (by simp)),tag_ne x.tp (x.sr s hs).tp (ne_tag (by simp))⟩
theorem RhX.told {sv av:Value}{Y:Nat→RSx}(x:RhX T h g p H sv av Y)(w:Wf T h)(hs:s<H.n)(fg:FdG (H.ss s).feed)(hps:(Y s).ps.length<1000000){B:Book}{l:List Chg}{v cv:Value}(xb:Sl 5 UsrR (fz T h) v B)(xc:Sl 7 ChgR (fz T h) cv l)(hl:l.length<1000000)(seq:Int)
  (hk:∀ h',Only (V12 g s) T h T h'→RhR T h' g p (H.put s { H.ss s with book:=B,feed:=(H.ss s).feed.tell l seq })→K (.tuple #[]) h') :
  callM P qazZ #[ptr (Y s).fp,cv,.int .u64 seq] (upd h (Y s).bp (.cells (rstC (H.ss s) { Y s with bk:=v }).toArray qBZ (0,0))) K:=by
 have r:=x.sr s hs
 obtain⟨o1,x1⟩:=x.stw w hs { H.ss s with book:=B } (Y s).sn v r.sn xb rfl rfl
 have o1':Only (fun t=>t=g++[1,s]) T h T (upd h (Y s).bp (.cells (rstC { H.ss s with book:=B } { Y s with sn:=(Y s).sn,bk:=v }).toArray qBZ (0,0))):=Only.upd w r.hp r.tp
 have r1:=x1.sr s hs
 rw[put_at] at r1
 simp -implicitDefEqProofs only[if_true] at r1
 refine rftell_ok l seq o1'.wf (by simp) r1.fd r1.pp fg r1.rm hps (xc.ext (R:=ChgR) (@ChgR.ext) (o1'.ext (by simp))) hl fun h2 qv' o2 r2=>?_
 obtain⟨Y',x2⟩:=x1.stf (s:=s) hs (by exact o2) (by simpa using r2) (r1.pp.tell l seq) (RmE.tell r1.rm seq l)
 rw[put_at,put_put] at x2
 exact hk h2 (o1.trans (o2.mono fun t e=>.inr e)) ⟨sv,av,Y',x2⟩
theorem rz_sweep {m:Nat}(who:Int)(t:Tm)(w:Wf T h)(x:RhR T h g p H)(hs:s<H.n)(hh:HS m H)(hm:m<90000)
  (hk:∀ T' h',Only (pre g) T h T' h'→RhR T' h' g p (H.sweep who s t)→K (.tuple #[]) h'):callM P qdUZ #[ptr p,.int .i64 who,.int .i64 s,.agg (tmC t).toArray] h K:=by
 apply qqiZ
 unfold qenZ
 have h8:=hh.n8
 obtain⟨w4,w5⟩:=pl4 (show s<8 by omega)
 refine nw_agg fun v1 h1 n1 e1 c1=>?_
 simp -implicitDefEqProofs only[tmC] at c1
 have o1:Only non T h T h1:=Only.of_ext w e1
 have t1:T v1=[]:=w v1 n1
 obtain⟨sv,av,Y,x1⟩:=x.kp o1.k (Off.non _) (not_non _)
 simp -implicitDefEqProofs[w4,w5 4 (by omega) (by omega)]
 refine rz_did who 2 _ o1.wf x1 (by have:=hh.ac; omega) fun T2 h2 av2 o2 x2=>?_
 have b1:=o2.k.at c1 t1 (V03.nil g)
 have c1:=b1.1
 have cp:=x2.hp
 simp -implicitDefEqProofs only[rhC] at cp
 obtain⟨b,ia,cb,nb,np⟩:=x2.ata (k:=.i64) (s:=s) hs
 have r:=x2.sr s hs
 have cs:=r.hp
 simp -implicitDefEqProofs only[rstC] at cs
 have hf:(H.did who 2 (4*(s:Int)+4)).ss s=H.ss s:=rfl
 have st:=hh.st s hs
 have hps:=x1.cnt hh hs
 unfold qheZ
 simp -implicitDefEqProofs[ld_at cp,cel_of cp,stm_at cp,ld_at cs,cel_of cs,stm_at cs,ld_at c1,cel_of c1,stm_at c1,stm_upd,ld_same,cel_same,over,ia,cb]
 refine rsweep_ok _ st.bk hm t.now o2.wf r.bk fun h5 v' cv e5 xb xc=>?_
 have o5:Only non T2 h2 T2 h5:=Only.of_ext o2.wf e5
 have x5:=x2.own o5.k
 have cp:=e5 _ _ cp
 have cs:=e5 _ _ cs
 have c1:=e5 _ _ c1
 obtain⟨b',ia',cb',nb',np'⟩:=x5.ata (k:=.i64) (s:=s) hs
 have n1:v1≠(Y s).bp:=tag_ne b1.2 (x5.sr s hs).tp (by simp)
 have ob:=xb.one
 unfold qhdZ
 simp -implicitDefEqProofs[ld_at cp,cel_of cp,stm_at cp,ld_at cs,cel_of cs,stm_at cs,ld_at c1,cel_of c1,stm_at c1,stm_skip nb',stm_skip (Ne.symm nb'),ld_skip nb',ld_skip (Ne.symm nb'),cel_skip nb',cel_skip (Ne.symm nb'),stm_skip np',stm_skip (Ne.symm np'),ld_skip np',ld_skip (Ne.symm np'),cel_skip np',cel_skip (Ne.symm np'),stm_skip n1,stm_skip (Ne.symm n1),ld_skip n1,ld_skip (Ne.symm n1),cel_skip n1,cel_skip (Ne.symm n1),stm_upd,ld_same,cel_same,over,ia',cb',ob.1,ob.2]
 refine x5.told o5.wf hs (st.fd.g (by omega)) (by omega) xb xc (Nat.lt_of_le_of_lt (sweep_chg (H.ss s).book t.now (H.ss s).book.length) (by have:=st.bk.bl; omega)) t.seq fun h6 o6 x6=>?_
 exact hk T2 h6 ((((o1.mono non_up).up o2 fun _=>V03.pre).up o5 non_up).up o6 fun t=>V12.pre) x6
theorem rz_write {m:Nat}(who:Int)(o:OpD)(ow:OpW o){uv:Value}(ou:One uv)(t:Tm)(ht:U64 t.now)(w:Wf T h)(x:RhR T h g p H)(hs:s<H.n)(hh:HS m H)(hm:m<90000)
  (hk:∀ T' h',Only (pre g) T h T' h'→RhR T' h' g p (H.write who s o t).1→K (.int .i64 (H.write who s o t).2) h'):callM P qdTZ #[ptr p,.int .i64 who,.int .i64 s,.agg (opC o uv).toArray,.agg (tmC t).toArray] h K:=by
 apply qqhZ
 unfold qemZ
 have h8:=hh.n8
 obtain⟨w4,w5⟩:=pl4 (show s<8 by omega)
 refine nw_agg fun v1 h0 n0 e0 c0=>?_
 refine nw_agg fun v3 h1 n1 e1 c3=>?_
 simp -implicitDefEqProofs only[tmC] at c3
 have o1:Only non T h T h1:=Only.of_ext w (e0.trans e1)
 have c0:=e1 _ _ c0
 have t1:T v1=[]:=w v1 n0
 have t3:T v3=[]:=w v3 (fresh_of e0 n1)
 obtain⟨sv,av,Y,x1⟩:=x.kp o1.k (Off.non _) (not_non _)
 simp -implicitDefEqProofs[w4,w5 4 (by omega) (by omega)]
 refine rz_did who 2 _ o1.wf x1 (by have:=hh.ac; omega) fun T2 h2 av2 o2 x2=>?_
 have b1:=o2.k.at c0 t1 (V03.nil g)
 have b3:=o2.k.at c3 t3 (V03.nil g)
 have c1:=b1.1
 have c3:=b3.1
 have oh:Only (pre g) T h T2 h2:=(o1.mono non_up).up o2 fun _=>V03.pre
 unfold qhcZ
 cases htc:t.closed with
 | true =>
  rw[htc] at c3
  have e:H.write who s o t=(H.wr who s,5):=by simp[Hall.write,htc]
  rw[e] at hk
  simp -implicitDefEqProofs[ld_at c3,cel_of c3,stm_at c3,stm_upd,ld_same,cel_same,over]
  exact hk T2 h2 oh ⟨sv,av2,Y,x2⟩
 | false =>
 rw[htc] at c3
 have hagO:ldV (some (some 7)) (ptr v1) h2=some (.agg (opC o uv).toArray):=by simp only[opC] at c1; simp[ld_at c1,opC]
 obtain⟨rr,hr⟩:∃ rr,writeB (H.ss s).book o t.now H.c.sessions=rr:=⟨_,rfl⟩
 have e:H.write who s o t=((H.wr who s).put s { H.ss s with book:=rr.1,feed:=(H.ss s).feed.tell rr.2.1 t.seq },rr.2.2):=by simp[Hall.write,htc,hr]
 rw[e] at hk
 have cp:=x2.hp
 simp -implicitDefEqProofs only[rhC] at cp
 obtain⟨b,ia,cb,nb,np⟩:=x2.ata (k:=.i64) (s:=s) hs
 have r:=x2.sr s hs
 have cs:=r.hp
 simp -implicitDefEqProofs only[rstC] at cs
 have hf:(H.did who 2 (4*(s:Int)+4)).ss s=H.ss s:=rfl
 have hfc:(H.did who 2 (4*(s:Int)+4)).c=H.c:=rfl
 have st:=hh.st s hs
 have hps:=x1.cnt hh hs
 simp -implicitDefEqProofs[ld_at c3,cel_of c3,stm_at c3,stm_upd,ld_same,cel_same,over]
 unfold qhbZ
 simp -implicitDefEqProofs[ld_at cp,cel_of cp,stm_at cp,ld_at cs,cel_of cs,stm_at cs,ld_at c3,cel_of c3,stm_at c3,stm_upd,ld_same,cel_same,over,ia,cb,hagO]
 refine rwrite_ok _ st.bk hm o ow t.now ht H.c.sessions ou o2.wf r.bk fun h5 v' cv e5 xb xc=>?_
 rw[hr] at xb xc
 try rw[hr]
 have hlen:rr.2.1.length≤1:=by rw[← hr]; exact settle_chg _ _ _ _
 have o5:Only non T2 h2 T2 h5:=Only.of_ext o2.wf e5
 have x5:=x2.own o5.k
 have cp:=e5 _ _ cp
 have cs:=e5 _ _ cs
 have c3:=e5 _ _ c3
 obtain⟨b',ia',cb',nb',np'⟩:=x5.ata (k:=.i64) (s:=s) hs
 have n3:v3≠(Y s).bp:=tag_ne b3.2 (x5.sr s hs).tp (by simp)
 have ob:=xb.one
 unfold qhaZ
 simp -implicitDefEqProofs[ld_at cp,cel_of cp,stm_at cp,ld_at cs,cel_of cs,stm_at cs,ld_at c3,cel_of c3,stm_at c3,stm_skip nb',stm_skip (Ne.symm nb'),ld_skip nb',ld_skip (Ne.symm nb'),cel_skip nb',cel_skip (Ne.symm nb'),stm_skip np',stm_skip (Ne.symm np'),ld_skip np',ld_skip (Ne.symm np'),cel_skip np',cel_skip (Ne.symm np'),stm_skip n3,stm_skip (Ne.symm n3),ld_skip n3,ld_skip (Ne.symm n3),cel_skip n3,cel_skip (Ne.symm n3),stm_upd,ld_same,cel_same,over,ia',cb',ob.1,ob.2]
 refine x5.told o5.wf hs (st.fd.g (by omega)) (by omega) xb xc (by omega) t.seq fun h6 o6 x6=>?_
 exact hk T2 h6 ((oh.up o5 non_up).up o6 fun t=>V12.pre) x6
end
end Go.Proofs.YtmbningljbcpkaaGreat
namespace Go.Proofs.YtmbningljbcpkaaGreat
open Go Go.Den Go.MapKept
set_option linter.unusedSimpArgs false
set_option linter.unusedVariables false
set_option maxRecDepth 20000
theorem tmNe (p q:Tm){x y:Operand}{K:Value→Prop}:pvM P (do eqGuard .neq qzZ x y (.agg (tmC p).toArray) (.agg (tmC q).toArray); binOp .neq qzZ (.agg (tmC p).toArray) (.agg (tmC q).toArray)) K=K (.bool (!decide (p=q))):=by
 simp -implicitDefEqProofs only[tmC]
 rw[pv_neq (d:=5) (b:=(p.now == q.now) && ((p.seq == q.seq) && ((p.closed == q.closed) && true))) (by kernel_rfl) (by omega) (by kernel_rfl)]
 have:((p.now == q.now) && ((p.seq == q.seq) && ((p.closed == q.closed) && true)))=decide (p=q):=by
  rw[Bool.eq_iff_iff]; cases p; cases q; simp
 rw[this]
theorem g4:Gd [4]:=⟨3,[],rfl⟩
end Go.Proofs.YtmbningljbcpkaaGreat
namespace Go.Den
open Go
set_option linter.unusedVariables false
theorem Rw.appk {P:Program}{t ty e:TypeId}{sz bytes:Nat}{z:Array Value}{g:Tag}{v x:Value}{n:Nat}{xs:List Value}{T:Tags}{h:Heap}{K:Value→Value→Heap→Prop}
  (hb:bsI P t=some (e,sz,z)) (ht:P.underlying t=some (.slice e)) (hi:apC P e=some (sz,bytes,sz)) (hsz:0<sz) (hx:x.cells.size=sz) (h1:∀ u∈x.cells.toList,u.oneCell'=true) (w:Wf T h)
  (hv:Rw T h g sz e v n xs) (h63:n+1≤maxLen) (hby:(n+1)*bytes≤140737488355328) (hs:sz≤16777216) (hg:g≠[])
  (hk:∀ a v' T' h',Only (fun t=>t=g) T h T' h'→Rw T' h' g sz e v' (n+1) (xs++x.cells.toList)→(∀ b o,h b=some o→rowOf v≠some b→h' b=some o)→(rowOf v'=rowOf v∨∃ b,rowOf v'=some b∧h b=none)→K a v' h') :
  bsM (bsI P t) 1 [(0,x)] h fun a h'=>vvM P (Builtin.append_ #[t,t] ty #[v,a]) h' (K a):=by
 refine bs_one hb hx hs fun b h1' hbn he hc=>?_
 have o1:Only (fun t=>t=g) T h T h1':=Only.of_ext w he
 have hv1:Rw T h1' g sz e v n xs:=hv.kp (U:=non) (Only.of_ext w he).k (fun h=>h)
 refine vv_al ?_
 refine app_intro ht hi hsz hv1.1 (cels_one hc hx) h1 h63 hby fun v' h' hr hkp ha hal=>?_
 have hrow:∀ k,rowOf v=some k→T k=g:=hv.2
 have keep:∀ b o,h b=some o→rowOf v≠some b→h' b=some o:=fun k o ek hne=>hkp k o (he _ _ ek) (fun hh=>hne hh.symm)
 rcases ha with ha | ⟨k,ha,hn⟩
 ·have o2:Only (fun t=>t=g) T h1' T h':=by
   refine⟨fun k hk0=>?_,fun _ _ _=>rfl,fun k o e=>hal k o e,fun k o e n=>hkp k o e (fun hh=>n (hrow k hh.symm))⟩
   cases hh:h1' k with
   | none=>exact o1.wf k hh
   | some o=>obtain⟨o',ho'⟩:=hal k o hh; rw[ho'] at hk0; cases hk0
  exact hk _ v' T h' (o1.trans o2) ⟨hr,fun k hk0=>hrow k (by rw[← ha]; exact hk0)⟩ keep (.inl ha)
 ·have hne:∀ j o,h1' j=some o→j≠k:=fun j o e hj=>by subst hj; rw[hn] at e; cases e
  have o2:Only (fun t=>t=g) T h1' (tset T k g) h':=by
   refine⟨fun j hj=>?_,fun j o e=>tset_ne (hne j o e),fun j o e=>hal j o e,fun j o e n=>hkp j o e (fun hh=>n (hrow j hh.symm))⟩
   have hjk:j≠k:=fun e=>by
    subst e
    obtain⟨o,ho⟩:=hr.lt j ha
    rw[ho] at hj; cases hj
   rw[tset_ne hjk]
   cases hh:h1' j with
   | none=>exact o1.wf j hh
   | some o=>obtain⟨o',ho'⟩:=hal j o hh; rw[ho'] at hj; cases hj
  refine hk _ v' (tset T k g) h' (o1.trans o2) ⟨hr,fun j hj=>?_⟩ keep (.inr ⟨k,ha,fresh_of he hn⟩)
  rw[ha] at hj
  simp only[Option.some.injEq] at hj
  subst hj
  simp
end Go.Den
namespace Go.Den
open Go
set_option linter.unusedVariables false
set_option linter.unusedSimpArgs false
instance actDec:DecidableEq ActD:=fun a b=>decidable_of_iff (a.who=b.who∧a.kind=b.kind∧a.place=b.place) (by cases a; cases b; simp)
end Go.Den
namespace Go.Proofs.YtmbningljbcpkaaGreat
open Go Go.Den Go.MapKept
set_option linter.unusedSimpArgs false
set_option linter.unusedVariables false
set_option maxRecDepth 20000
theorem actNe (p q:ActD){x y:Operand}{K:Value→Prop}:pvM P (do eqGuard .neq qbuZ x y (.agg #[.int .i64 p.who,.int .i64 p.kind,.int .i64 p.place]) (.agg #[.int .i64 q.who,.int .i64 q.kind,.int .i64 q.place]); binOp .neq qbuZ (.agg #[.int .i64 p.who,.int .i64 p.kind,.int .i64 p.place]) (.agg #[.int .i64 q.who,.int .i64 q.kind,.int .i64 q.place])) K=K (.bool (!decide (p=q))):=by
 rw[pv_neq (d:=5) (b:=(p.who == q.who) && ((p.kind == q.kind) && ((p.place == q.place) && true))) (by kernel_rfl) (by omega) (by kernel_rfl)]
 have:((p.who == q.who) && ((p.kind == q.kind) && ((p.place == q.place) && true)))=decide (p=q):=by
  rw[Bool.eq_iff_iff]; cases p; cases q; simp
 rw[this]
theorem act_ld {F:Heap}{v:Value}{l:List ActD}(x:Sl 3 ActR F v l){i:Nat}(hi:i<l.length):∃ b p,iaV (some (none,3)) v (.int .i64 i)=some (.pointer (some ⟨b,p,none⟩))∧∀ h',Ext F h'→cels h' b p 3=some [.int .i64 l[i].who,.int .i64 l[i].kind,.int .i64 l[i].place]:=by
 obtain⟨b,p,c,h1,h2,h3⟩:=x.at (k:=.i64) (i:=i) (by omega) (by omega)
 refine⟨b,p,h1,fun h' e=>?_⟩
 have hc:c=actC l[i]:=h3
 subst hc
 exact cels_ext e h2
variable {K:KTy}
theorem sameActs_ok (xs ys : List ActD) {h : Heap} {v u : Value} (x : Sl 3 ActR h v xs) (y : Sl 3 ActR h u ys) (hl : xs.length < 1000000) (hk : K (.bool (decide (xs = ys))) h) : callM P qeuZ #[v, u] h K := by
  apply qqHZ
  unfold qeXZ
  have lx := x.len
  have ly := y.len
  by_cases hlen : xs.length = ys.length
  rotate_left
  · have hne : xs ≠ ys := fun e => hlen (by rw [e])
    have hi : ¬ (xs.length : Int) = ys.length := by omega
    simp -implicitDefEqProofs [lx, ly, hi]
    rw [decide_eq_false hne] at hk; exact hk
  · have hi : (xs.length : Int) = ys.length := by omega
    simp -implicitDefEqProofs [lx, ly, hi]
    unfold qjfZ
    rw [seqM_eq]
    unfold qjeZ
    refine loop_on [0, 1, 4] (fun s h' => h' = h ∧ ∃ i : Nat, i ≤ xs.length ∧ s 5 = .int .i64 i ∧ xs.take i = ys.take i) (fun s _ => (xs.length - num (s 5)).toNat) ⟨rfl, 0, by omega, rfl, by simp⟩ ?_
    rintro s h1 hf ⟨rfl, i, hi, s5, hT⟩
    have s0 : s 0 = v := by simpa using hf 0 (by simp)
    have s1 : s 1 = u := by simpa using hf 1 (by simp)
    have s4 : s 4 = .bool false := by simpa using hf 4 (by simp)
    unfold qjdZ
    simp -implicitDefEqProofs only [s5, s0, lx, bin_lss, ov_s, cd_b]
    refine ⟨fun hc => ?_, fun hc => ?_⟩
    · have hlt : i < xs.length := by have : ((i : Int) < xs.length) := by simpa using hc
                                     omega
      have hly : i < ys.length := by omega
      have hw : IntKind.i64.wrap ((i : Int) + 1) = (i + 1 : Nat) := by rw [wrap64_id (by omega) (by omega)]; omega
      obtain ⟨b, p, i1, i2⟩ := act_ld x hlt
      obtain ⟨b', p', j1, j2⟩ := act_ld y hly
      unfold qjcZ
      simp -implicitDefEqProofs only [s0, s1, s5, i1, j1, ov_s, ldV_n (i2 _ (Ext.refl _)), ldV_n (j2 _ (Ext.refl _)), actNe, cd_b]
      refine ⟨fun hd => ?_, fun hd => ?_⟩
      · have hne : xs[i] ≠ ys[i] := by simpa using hd
        have hne' : xs ≠ ys := fun e => hne (by subst e; rfl)
        unfold qjaZ
        simp -implicitDefEqProofs [s4]
        rw [decide_eq_false hne'] at hk; exact hk
      · have he : xs[i] = ys[i] := by simpa using hd
        unfold qjbZ
        simp -implicitDefEqProofs [s0, s1, s4, s5, hw, -Int.natCast_add]
        exact ⟨⟨i + 1, by omega, rfl, take_eq_succ hT hlt hly he⟩, by omega⟩
    · have hT : xs = ys := by
        have hie : i = xs.length := by have : ¬ ((i : Int) < xs.length) := by simpa using hc
                                       omega
        subst hie
        rw [List.take_of_length_le (Nat.le_refl _), List.take_of_length_le (by omega)] at hT
        exact hT
      rw [decide_eq_true hT] at hk
      simp -implicitDefEqProofs
      exact hk
theorem usr_ln {F:Heap}{v:Value}{l:Book}(x:Sl 5 UsrR F v l){i:Nat}(hi:i<l.length):∃ b p sv,iaV (some (none,5)) v (.int .i64 i)=some (.pointer (some ⟨b,p,none⟩))∧(∀ h',Ext F h'→cel h' b (p+1)=some sv)∧lnV 7 sv=some (.int .i64 l[i].2.ss.length):=by
 obtain⟨b,p,c,h1,h2,h3⟩:=x.at (k:=.i64) (i:=i) (by omega) (by omega)
 obtain⟨sv,hc,hs⟩:=h3
 simp -implicitDefEqProofs only[Int.toNat_natCast] at hc hs
 subst hc
 refine⟨b,p,sv,h1,fun h' e=>(cels_get (cels_ext e h2)).2 1 (by simp[presC]),hs.len⟩
theorem rz_stored {T:Tags}{h:Heap}{g:Tag}{p m:Nat}{H:Hall}(x:RhR T h g p H)(hs:HS m H)(hm:m≤100000)(hk:K (.int .i64 H.stored) h):callM P qcZZ #[ptr p] h K:=by
 apply qpOZ
 unfold qdWZ
 rw[seqM_eq]
 unfold qfVZ
 obtain⟨sv,av,Y,x⟩:=x
 have cp:=x.hp
 simp -implicitDefEqProofs only[rhC] at cp
 have hlen:lnV 7 sv=some (.int .i64 H.n):=x.st.len
 have h8:=hs.n8.2
 have hmm:m*m≤10000000000:=Nat.le_trans (Nat.mul_le_mul hm hm) (by decide)
 have hst:∀ i,i≤H.n→stoH H i≤80000000000:=fun i hi=>Nat.le_trans (stoH_le hs i hi) (Nat.le_trans (Nat.mul_le_mul (Nat.le_trans hi h8) hmm) (by decide))
 refine loop_on [0] (fun s h'=>h'=h∧∃ i:Nat,i≤H.n∧s 4 = .int .i64 i∧s 3 = .int .i64 (stoH H i)) (fun s _=>(H.n-num (s 4)).toNat) ⟨rfl,0,by omega,rfl,rfl⟩ ?_
 rintro s h1 hf ⟨rfl,i,hi,s4,s3⟩
 have s0:s 0=ptr p:=by simpa using hf 0 (by simp)
 have cs10:cel h1 p 10=some sv:=by simp[cel_of cp]
 unfold qfUZ
 simp -implicitDefEqProofs[s0,s4,cs10,hlen]
 refine⟨fun hc=>?_,fun hc=>?_⟩
 rotate_left
 ·have:i=H.n:=by omega
  subst this
  simp -implicitDefEqProofs[s3,stoH_all]
  exact hk
 have hlt:i<H.n:=by omega
 have hw:IntKind.i64.wrap ((i:Int)+1)=(i+1:Nat):=by rw[wrap64_id (by omega) (by omega)]; omega
 obtain⟨b,ia,cb⟩:=x.at_ (k:=.i64) (s:=i) hlt
 have r:=x.sr i hlt
 have cst:=r.hp
 simp -implicitDefEqProofs only[rstC] at cst
 have cb3:cel h1 (Y i).bp 3=some (Y i).bk:=by simp[cel_of cst]
 have st:=hs.st i hlt
 have xb:=r.bk.ext (@UsrR.ext) (fz_ext T h1)
 have bl:=xb.len
 have bl':=st.bk.bl
 obtain⟨B,hB⟩:∃ B,(H.ss i).book=B:=⟨_,rfl⟩
 have hss:=stoH_s H i
 rw[hB] at xb bl bl' hss
 have h80:=hst (i+1) (by omega)
 unfold qfTZ
 rw[seqM_eq]
 unfold qfSZ
 refine loop_on [0,4] (fun s' h'=>h'=h1∧∃ k:Nat,k≤B.length∧s' 5 = .int .i64 k∧s' 3 = .int .i64 (stoH H i+stoTo B k:Nat)) (fun s' _=>(B.length-num (s' 5)).toNat) ⟨rfl,0,by omega,rfl,by simp[s3,stoTo,storedB]⟩ ?_
 rintro s' h2 hf' ⟨rfl,k,hk',s5,s3'⟩
 have t0:s' 0=ptr p:=by simpa [s0] using hf' 0 (by simp)
 have t4:s' 4 = .int .i64 i:=by simpa [s4] using hf' 4 (by simp)
 unfold qfRZ
 simp -implicitDefEqProofs[t0,t4,s5,cs10,ia,cb,cb3,bl]
 refine⟨fun hc2=>?_,fun hc2=>?_⟩
 rotate_left
 ·have:k=B.length:=by omega
  subst this
  have hall:stoTo B B.length=storedB B:=by unfold stoTo; rw[List.take_length]
  rw[hall,← hss] at s3'
  unfold qfQZ
  simp -implicitDefEqProofs[t0,t4,s0,s4,hw,s3',-Int.natCast_add]
  exact⟨⟨i+1,by omega,rfl,rfl⟩,by omega⟩
 have hltk:k<B.length:=by omega
 have hwk:IntKind.i64.wrap ((k:Int)+1)=(k+1:Nat):=by rw[wrap64_id (by omega) (by omega)]; omega
 obtain⟨bb,pp,sv',j1,j2,j3⟩:=usr_ln xb hltk
 have hto:=stoTo_s hltk
 have htl:=stoTo_le (b:=B) (k+1)
 have hw2:IntKind.i64.wrap (((stoH H i+stoTo B k:Nat):Int)+B[k].2.ss.length)=((stoH H i+stoTo B (k+1):Nat):Int):=by
  rw[hto] at htl ⊢
  rw[wrap64_id (by omega) (by omega)]; omega
 unfold qfPZ
 simp -implicitDefEqProofs[t0,t4,s0,s4,s5,s3',cs10,ia,cb,cb3,j1,j2 _ (Ext.refl _),j3,hw2,hwk,-Int.natCast_add]
 exact⟨⟨k+1,by omega,rfl,rfl⟩,by omega⟩
theorem bdRHall (a b c d e f g:Int):bdV (binf P qqZ) [(0,.agg #[.int .i64 a,.int .i64 b,.int .i64 c,.int .i64 d,.int .i64 e,.int .u64 f,.int .u64 g])]=some (.agg #[.int .i64 a,.int .i64 b,.int .i64 c,.int .i64 d,.int .i64 e,.int .u64 f,.int .u64 g,.int .u64 0,.int .u64 0,.bool false,.slice none 0 0,.slice none 0 0]):=by kernel_rfl
theorem bdRFeed (n:Int):bdV (binf P qyZ) [(0,.int .i64 n)]=some (.agg (rfdC n (.slice none 0 0) (fun _=>.slice none 0 0) fun _=>false).toArray):=by kernel_rfl
theorem bdRStripe (n:Int)(fp:Option Addr):bdV (binf P qBZ) [(0,.int .i64 n),(4,.pointer fp)]=some (.agg #[.int .i64 n,.int .u64 0,.slice none 0 0,.slice none 0 0,.pointer fp]):=by kernel_rfl
theorem bsRS:bsI P qFZ=some (qbvZ,1,#[.pointer none]):=by kernel_rfl
theorem unSlRS:P.underlying qFZ=some (.slice qbvZ):=by kernel_rfl
theorem apRS:apC P qbvZ=some (1,8,1):=by kernel_rfl
def RhNewI (T:Tags)(h:Heap)(g:Tag)(p:Nat)(c:Cfg)(v:Value)(h':Heap):Prop :=
 ∃ (T':Tags) (i:Nat),Only (pre g) T h T' h'∧RhR T' h' g p (hall0 c i)∧i≤c.stripes.toNat∧v = .int .i64 i
set_option maxHeartbeats 1000000 in
theorem rz_new (c:Cfg)(hr:rightB c=true){T:Tags}{h:Heap}(w:Wf T h){g:Tag}(gg:Gd g)
  (hk:∀ T' h' p,Only (pre g) T h T' h'→RhR T' h' g p (hall0 c c.stripes.toNat)→K (ptr p) h'):callM P qiwZ #[.agg (cfgC c).toArray] h K:=by
 apply qtpZ
 unfold qjvZ
 have hn:1≤c.stripes∧c.stripes≤8∧1≤c.queue:=by simp[rightB] at hr; omega
 refine nw_agg fun v1 h1 n1 e1 c1=>?_
 have w1:=w.ext e1
 have t1:T v1=[]:=w v1 n1
 simp -implicitDefEqProofs only[cfgC] at c1
 simp -implicitDefEqProofs[ld_at c1,cel_of c1,stm_at c1,stm_upd,ld_same,cel_same,over,bdRHall]
 refine nw_tag w1 (g++[0]) fun p T3 h3 n3 o3 t3 c3=>?_
 have b1:=o3.see ⟨c1,t1⟩ (not_non _)
 have c1:=b1.1
 have u4:=Only.upd (U:=fun t=>t=g++[0]) (o':=.cells (rhC (hall0 c 0) (.slice none 0 0) (.slice none 0 0)).toArray qqZ (0,0)) o3.wf c3 t3
 simp -implicitDefEqProofs[ld_at c1,cel_of c1,stm_at c1,ld_at c3,cel_of c3,stm_at c3,stm_upd,ld_same,cel_same,over]
 rw[seqM_eq]
 unfold qmZZ
 have o0:Only (pre g) T h T3 _:=((Only.of_ext w e1).up o3 non_up).up u4 fun t=>eq_pre
 have x0:RhR T3 (upd h3 p (.cells (rhC (hall0 c 0) (.slice none 0 0) (.slice none 0 0)).toArray qqZ (0,0))) g p (hall0 c 0):=⟨.slice none 0 0,.slice none 0 0,fun _=>⟨0,.slice none 0 0,.slice none 0 0,0,.slice none 0 0,fun _=>.slice none 0 0,[]⟩,upd_same' _ _ _,t3,Rw.nil _ _ _ _ _,Rw.nil _ _ _ _ _,fun i hi=>by simp[hall0] at hi⟩
 have b1:=u4.see b1 (by simp)
 obtain⟨h4,hh4⟩:∃ h4,upd h3 p (.cells (rhC (hall0 c 0) (.slice none 0 0) (.slice none 0 0)).toArray qqZ (0,0))=h4:=⟨_,rfl⟩
 have hh4':upd h3 p (.cells #[.int .i64 c.stripes,.int .i64 c.sessions,.int .i64 c.queue,.int .i64 c.watches,.int .i64 c.retries,.int .u64 c.epochs,.int .u64 c.start,.int .u64 c.start,.int .u64 0,.bool false,.slice none 0 0,.slice none 0 0] qqZ (0,0))=h4:=hh4
 rw[hh4] at o0 x0 b1
 rw[hh4']
 refine loop_on [1,3] (fun s h'=>RhNewI T3 h4 g p c (s 4) h') (fun s _=>(c.stripes.toNat-num (s 4)).toNat) ⟨T3,0,Only.refl o0.wf,x0,by omega,rfl⟩ ?_
 rintro s h5 hf ⟨T5,i,o5,⟨sv,av,Y,x⟩,hi,s4⟩
 have s1:s 1=ptr v1:=by simpa using hf 1 (by simp)
 have s3:s 3=ptr p:=by simpa using hf 3 (by simp)
 have b1:=o5.see b1 gg.nil
 have c1:=b1.1
 unfold qmYZ
 simp -implicitDefEqProofs[s1,s4,ld_at c1,cel_of c1,stm_at c1,stm_upd,ld_same,cel_same,over]
 refine⟨fun hc=>?_,fun hc=>?_⟩
 rotate_left
 ·have:i=c.stripes.toNat:=by omega
  subst this
  simp -implicitDefEqProofs[s3]
  exact hk T5 h5 p (o0.trans o5) ⟨sv,av,Y,x⟩
 have hlt:i<c.stripes.toNat:=by omega
 have hw:IntKind.i64.wrap ((i:Int)+1)=(i+1:Nat):=by rw[wrap64_id (by omega) (by omega)]; omega
 have bp:h5 p=_∧T5 p=_:=⟨x.hp,x.tp⟩
 simp -implicitDefEqProofs only[rhC] at bp
 have cp:=bp.1
 unfold qmXZ
 simp -implicitDefEqProofs[s1,s3,ld_at c1,cel_of c1,stm_at c1,ld_at cp,cel_of cp,stm_at cp,stm_upd,ld_same,cel_same,over,bdRFeed]
 refine nw_tag o5.wf (g++[2,i]) fun fp T6 h6 n6 o6 t6 c6=>?_
 have bp:=o6.see bp (not_non _)
 have cp:=bp.1
 simp -implicitDefEqProofs[ld_at cp,cel_of cp,stm_at cp,stm_upd,ld_same,cel_same,over,bdRStripe]
 refine nw_tag o6.wf (g++[1,i]) fun sp T7 h7 n7 o7 t7 c7=>?_
 have b6:=o7.see ⟨c6,t6⟩ (not_non _)
 have bp:=o7.see bp (not_non _)
 have cp:=bp.1
 have x7:=(x.own o6.k).own o7.k
 simp -implicitDefEqProofs[ld_at cp,cel_of cp,stm_at cp,stm_upd,ld_same,cel_same,over]
 refine bs_one bsRS (by simp) (by omega) fun rb h8 n8 e8 c8=>?_
 have o8:Only non T7 h7 T7 h8:=Only.of_ext o7.wf e8
 have bp:=o8.see bp (not_non _)
 have cp:=bp.1
 have b6:=o8.see b6 (not_non _)
 have b7:=o8.see ⟨c7,t7⟩ (not_non _)
 have x8:=x7.own o8.k
 refine⟨by simp[ld_at cp,cel_of cp,stm_at cp,stm_upd,ld_same,cel_same,over],?_⟩
 have st8:=x8.st
 refine Rw.app1 (m:=1) (news:=[ptr sp]) unSlRS apRS (by omega) o8.wf st8 (cels_one (x:=ptr sp) c8 (by simp)) (by simp) (by unfold maxLen; simp[hall0]; omega) (by simp[hall0]; omega) fun sv' T9 h9 o9 st9=>?_
 have bp:=o9.see bp (ne_tag (by simp))
 have cp:=bp.1
 have b6:=o9.see b6 (ne_tag (by simp))
 have b7:=o9.see b7 (ne_tag (by simp))
 have ho:=st9.one
 simp -implicitDefEqProofs[ld_at cp,cel_of cp,stm_at cp,stm_upd,ld_same,cel_same,over,ho.1,ho.2,s1,s3,s4,hw,-Int.natCast_add]
 refine⟨?_,by omega⟩
 have o10:=Only.upd (U:=fun t=>t=g++[0]) (o':=.cells (rhC (hall0 c (i+1)) sv' av).toArray qqZ (0,0)) o9.wf bp.1 bp.2
 have b6:=o10.see b6 (ne_tag (by simp))
 have b7:=o10.see b7 (ne_tag (by simp))
 refine⟨T9,i+1,((((o5.up o6 non_up).up o7 non_up).up o8 non_up).up o9 fun t=>eq_pre).up o10 fun t=>eq_pre,
  ⟨sv',av,fun k=>if k=i then ⟨sp,.slice none 0 0,.slice none 0 0,fp,.slice none 0 0,fun _=>.slice none 0 0,[]⟩ else Y k,upd_same' _ _ _,bp.2,?_,?_,fun k hk=>?_⟩,by omega,rfl⟩
 ·have:=st9.kp o10.k (ne_tag (by simp))
  simp -implicitDefEqProofs only[hall0]
  rw[seqF_succ]
  have e1:seqF i (fun k=>[ptr (if k=i then (⟨sp,.slice none 0 0,.slice none 0 0,fp,.slice none 0 0,fun _=>.slice none 0 0,[]⟩:RSx) else Y k).bp])=seqF i fun k=>[ptr (Y k).bp]:=seqF_congr fun k hk=>by rw[if_neg (by omega)]
  rw[e1]
  simpa [hall0,rhC] using this
 ·exact (x8.ac.kp o9.k (ne_tag (by simp))).kp o10.k (ne_tag (by simp))
 ·by_cases hki:k=i
  ·subst hki
   simp -implicitDefEqProofs only[if_true]
   refine⟨b7.1,b7.2,.inl ⟨rfl,_,_,rfl⟩,.inl ⟨rfl,_,_,rfl⟩,⟨b6.1,b6.2,.inl ⟨rfl,_,_,rfl⟩,fun j hj=>.inl ⟨rfl,_,_,rfl⟩⟩,⟨fun j hj=>by simp[psOf,wsOf,hall0,strp0,feed0],by simp⟩,fun j hj=>?_,rfl⟩
   simp -implicitDefEqProofs[hall0,strp0,feed0,ring0]; omega
  ·simp -implicitDefEqProofs only[if_neg hki]
   have hki':k<i:=by simp[hall0] at hk; omega
   exact ((x8.sr k hki').kp o9.k (ne_tag (by simp)) (ne_tag (by simp)) (by simp)).kp o10.k (ne_tag (by simp)) (ne_tag (by simp)) (by simp)
end Go.Proofs.YtmbningljbcpkaaGreat
namespace Go.Proofs.YtmbningljbcpkaaGreat
open Go Go.Den Go.MapKept
set_option linter.unusedSimpArgs false
set_option linter.unusedVariables false
set_option maxRecDepth 20000
theorem odd_lt {v:Int}(h:U64 v)(hw:wrt v=true→v<18446744073709551615):0≤v∧v<18446744073709551615:=by
 unfold U64 at h
 refine⟨h.1,?_⟩
 by_cases e:v=18446744073709551615
 ·subst e; exact hw (by decide)
 ·omega
theorem off31:Off (pre [3]) [1]:=off_pre (g:=[]) (x:=[3]) (y:=[1]) (by simp) (by simp)
end Go.Proofs.YtmbningljbcpkaaGreat
namespace Go.Proofs.YtmbningljbcpkaaGreat
open Go Go.Den Go.MapKept
set_option linter.unusedSimpArgs false
set_option linter.unusedVariables false
set_option maxRecDepth 20000
def rwC (p:WP)(sw:Bool)(o:OpD)(uv:Value):List Value:=[.int .i64 p.who,.int .i64 p.s,.int .i64 p.at_,.int .i64 p.placed,.int .i64 o.kind,.string o.user,.int .i64 o.id,.int .i64 o.status,.int .i64 o.prio,.int .u64 o.ttl,uv,.bool sw,.int .u64 p.t.now,.int .u64 p.t.seq,.bool p.t.closed,.int .i64 p.err,.slice none 0 0,.slice none 0 0,.bool false]
def RwK (p:WP)(sw:Bool)(o:OpD):Prop:=match p.k with
 | .bad=>sw=false∧badB o=true
 | .op x=>sw=false∧x=o∧badB o=false
 | .sweep=>sw=true∧p.err=0
structure RwX (T:Tags)(h:Heap)(g:Tag)(q:Nat)(p:WP)(sw:Bool)(o:OpD)(uv:Value):Prop where
 hp:h q=some (.cells (rwC p sw o uv).toArray qOZ (0,0))
 tp:T q=g
 us:Sl 1 StrR (fz T h) uv o.users
 ow:OpW o
 ol:o.users.length<1000000
 kk:RwK p sw o
def RWP (T:Tags)(h:Heap)(g:Tag)(q:Nat)(p:WP):Prop:=∃ sw o uv,RwX T h g q p sw o uv
theorem RwX.kp {U:Tag→Prop}{T T':Tags}{h h':Heap}{g:Tag}{q:Nat}{p:WP}{sw:Bool}{o:OpD}{uv:Value}(x:RwX T h g q p sw o uv)(k:Kp U T h T' h')(n:¬ U g)(n0:¬ U []):RwX T' h' g q p sw o uv :=
 ⟨(k.at x.hp x.tp n).1,(k.at x.hp x.tp n).2,x.us.ext (@StrR.ext) (k.ext n0),x.ow,x.ol,x.kk⟩
theorem RWP.kp {U:Tag→Prop}{T T':Tags}{h h':Heap}{g:Tag}{q:Nat}{p:WP}(x:RWP T h g q p)(k:Kp U T h T' h')(n:¬ U g)(n0:¬ U []):RWP T' h' g q p:=let ⟨sw,o,uv,x⟩:=x; ⟨sw,o,uv,x.kp k n n0⟩
theorem RwK.bad {p:WP}{sw:Bool}{o:OpD}(k:RwK p sw o):p.k.isBad=(!sw && badB o):=by
 unfold RwK at k
 cases hk:p.k with
 | bad=>rw[hk] at k; simp[WK.isBad,k.1,k.2]
 | op x=>rw[hk] at k; simp[WK.isBad,k.1,k.2.2]
 | sweep=>rw[hk] at k; simp[WK.isBad,k.1]
section
variable {T:Tags}{h:Heap}{g:Tag}{q:Nat}{p:WP}{K:KTy}
theorem rwbad_ok (x:RWP T h g q p)(hk:∀ h',Ext h h'→K (.bool p.k.isBad) h'):callM P qaGZ #[ptr q] h K:=by
 apply qqKZ
 unfold qfaZ
 obtain⟨sw,o,uv,x⟩:=x
 have cp:=x.hp
 simp -implicitDefEqProofs only[rwC] at cp
 rw[x.kk.bad] at hk
 have og:ldV (some (some 7)) (.pointer (some ⟨q,4,none⟩)) h=some (.agg (opC o uv).toArray):=by simp[ld_at cp,opC]
 cases sw with
 | true =>
  simp -implicitDefEqProofs[ld_at cp,cel_of cp,stm_at cp,stm_upd,ld_same,cel_same,over]
  exact hk h (Ext.refl h)
 | false =>
  have c11:cel h q 11=some (.bool false):=by simp[cel_of cp]
  simp -implicitDefEqProofs[c11,og]
  refine refBad_ok o x.ow (x.us.ext (@StrR.ext) (fz_ext T h)) x.ol fun h1 e1=>?_
  have:=hk h1 e1
  simpa using this
theorem rwwaits_ok (x:RWP T h g q p)(hk:∀ h',Ext h h'→K (.int .i64 p.waits) h'):callM P qdRZ #[ptr q] h K:=by
 apply qqfZ
 unfold qekZ
 obtain⟨sw,o,uv,x'⟩:=id x
 have cp:=x'.hp
 simp -implicitDefEqProofs only[rwC] at cp
 unfold WP.waits at hk
 by_cases h0:p.at_=0
 ·have h0':(p.at_:Int)=0:=by omega
  simp -implicitDefEqProofs[ld_at cp,cel_of cp,stm_at cp,stm_upd,ld_same,cel_same,over,h0']
  refine rwbad_ok x fun h1 e1=>?_
  have cp:=e1 _ _ cp
  cases hb:p.k.isBad with
  | true =>
   have hk:=hk h1 e1
   simp -implicitDefEqProofs[hb] at hk
   simpa using hk
  | false =>
   have hk:=hk h1 e1
   simp -implicitDefEqProofs[hb,h0] at hk
   simp -implicitDefEqProofs[ld_at cp,cel_of cp,stm_at cp,stm_upd,ld_same,cel_same,over]
   exact hk
 ·have h0':¬ (p.at_:Int)=0:=by omega
  have hk:=hk h (Ext.refl h)
  rw[if_pos (.inr (by omega))] at hk
  simp -implicitDefEqProofs[ld_at cp,cel_of cp,stm_at cp,stm_upd,ld_same,cel_same,over,h0',h0]
  exact hk
theorem rwdone_ok (x:RWP T h g q p)(hk:K (.bool p.done) h):callM P qeeZ #[ptr q] h K:=by
 apply qqpZ
 unfold qezZ
 obtain⟨sw,o,uv,x'⟩:=x
 have cp:=x'.hp
 simp -implicitDefEqProofs only[rwC] at cp
 have e:decide ((7:Int)≤p.at_)=p.done:=decide_eq_decide.2 (by omega)
 simp -implicitDefEqProofs[ld_at cp,cel_of cp,stm_at cp,stm_upd,ld_same,cel_same,over,e]
 exact hk
theorem rwenabled_ok {gh:Tag}{hp:Nat}{H:Hall}(x:RWP T h g q p)(y:RhR T h gh hp H)(hs:p.s<H.n)(hw:0≤(H.ss p.s).who)(hk:∀ h',Ext h h'→K (.bool (p.enabled H)) h'):callM P qaPZ #[ptr q,ptr hp] h K:=by
 apply qprZ
 unfold qdcZ
 obtain⟨sw,o,uv,x'⟩:=id x
 have cp:=x'.hp
 simp -implicitDefEqProofs only[rwC] at cp
 obtain⟨sv,av,Y,y⟩:=y
 have cy:=y.hp
 simp -implicitDefEqProofs only[rhC] at cy
 obtain⟨b,ia,cb⟩:=y.at_ (k:=.i64) (s:=p.s) hs
 have cs:=(y.sr p.s hs).hp
 simp -implicitDefEqProofs only[rstC] at cs
 unfold WP.enabled WP.waits WP.done at hk
 by_cases h7:p.at_<7
 rotate_left
 ·have h7':¬ (p.at_:Int)<7:=by omega
  have hk:=hk h (Ext.refl h)
  have h7'':7≤p.at_:=by omega
  simp -implicitDefEqProofs[h7''] at hk
  simp -implicitDefEqProofs[ld_at cp,cel_of cp,stm_at cp,stm_upd,ld_same,cel_same,over,h7']
  exact hk
 have h7':(p.at_:Int)<7:=by omega
 have h7'':¬ 7≤p.at_:=by omega
 simp -implicitDefEqProofs[ld_at cp,cel_of cp,stm_at cp,stm_upd,ld_same,cel_same,over,h7']
 refine rwbad_ok x fun h1 e1=>?_
 have cp:=e1 _ _ cp
 have cy:=e1 _ _ cy
 have cs:=e1 _ _ cs
 have cb:=cel_ext e1 cb
 have hk:=hk h1 e1
 cases hb:p.k.isBad with
 | true =>
  simp -implicitDefEqProofs[hb,h7''] at hk
  simp -implicitDefEqProofs
  exact hk
 | false =>
  by_cases h0:0<p.at_
  ·have h0':(0:Int)<p.at_:=by omega
   simp -implicitDefEqProofs[h7'',h0] at hk
   simp -implicitDefEqProofs[ld_at cp,cel_of cp,stm_at cp,stm_upd,ld_same,cel_same,over,h0',h0]
   exact hk
  ·have h0':¬ (0:Int)<p.at_:=by omega
   have h0z:p.at_=0:=by omega
   have hs0:¬ (p.s:Int)<0:=by omega
   have e:decide ((H.ss p.s).who-1<0)=decide ((H.ss p.s).who=0):=decide_eq_decide.2 (by omega)
   simp -implicitDefEqProofs[hb,h0z,hs0] at hk
   simp -implicitDefEqProofs[ld_at cp,cel_of cp,stm_at cp,ld_at cy,cel_of cy,stm_at cy,ld_at cs,cel_of cs,stm_at cs,stm_upd,ld_same,cel_same,over,h0z,ia,cb,e]
   exact hk
end
theorem RwX.st {T:Tags}{h:Heap}{g:Tag}{q:Nat}{p p':WP}{sw:Bool}{o:OpD}{uv:Value}(x:RwX T h g q p sw o uv)(w:Wf T h)(gn:g≠[])(kk:RwK p' sw o) :
  Only (fun t=>t=g) T h T (upd h q (.cells (rwC p' sw o uv).toArray qOZ (0,0)))∧RWP T (upd h q (.cells (rwC p' sw o uv).toArray qOZ (0,0))) g q p':=by
 have o1:Only (fun t=>t=g) T h T (upd h q (.cells (rwC p' sw o uv).toArray qOZ (0,0))):=Only.upd w x.hp x.tp
 exact⟨o1,sw,o,uv,upd_same' _ _ _,x.tp,x.us.ext (@StrR.ext) (o1.ext fun h=>gn h.symm),x.ow,x.ol,kk⟩
theorem RwK.upd {p p':WP}{sw:Bool}{o:OpD}(k:RwK p sw o)(e:p'.k=p.k)(he:p'.err=p.err):RwK p' sw o:=by
 unfold RwK at k ⊢
 rw[e,he]; exact k
end Go.Proofs.YtmbningljbcpkaaGreat
namespace Go.Proofs.YtmbningljbcpkaaGreat
open Go Go.Den Go.MapKept
set_option linter.unusedSimpArgs false
set_option linter.unusedVariables false
set_option maxRecDepth 20000
variable {K:KTy}
set_option maxHeartbeats 16000000 in
theorem rwstep_ok {T:Tags}{h:Heap}{g gh:Tag}{q hp m:Nat}{p:WP}{H:Hall}(n:Int)(w:Wf T h)(gg:Gd gh)(gn:g≠[])(d1:¬ pre gh g)(d2:¬ (fun t=>t=g) gh∧Off (fun t=>t=g) gh)(x:RWP T h g q p)(y:RhR T h gh hp H)(hs:HS m H)(hm:m<90000)(wg:WG H.n p)
  (hk:∀ T' h',Only (two (fun t=>t=g) (pre gh)) T h T' h'→RWP T' h' g q (p.step H n).1→RhR T' h' gh hp (p.step H n).2→K (.tuple #[]) h'):callM P qaxZ #[ptr q,ptr hp,.int .i64 n] h K:=by
 apply qqoZ
 unfold qeyZ
 have hlt:=wg.s
 have st:=hs.st p.s hlt
 have h8:=hs.n8.2
 have hac:H.acts.length<999999:=by have:=hs.ac; omega
 have n0:¬ pre gh []:=gg.nil
 have ng:¬ (fun t:Tag=>t=g) []:=fun h=>gn h.symm
 refine rwenabled_ok x y hlt st.wh.1 fun h1 e1=>?_
 have o1:Only non T h T h1:=Only.of_ext w e1
 have x1:=x.kp o1.k (not_non _) (not_non _)
 have y1:=y.kp o1.k (Off.non _) (not_non _)
 unfold qieZ
 cases hen:p.enabled H with
 | false =>
  simp -implicitDefEqProofs
  have e:p.step H n=(p,H):=by simp[WP.step,hen]
  rw[e] at hk
  exact hk T h1 (o1.mono fun _ h=>h.elim) x1 y1
 | true =>
 have hat:=enabled_at hen
 simp -implicitDefEqProofs
 unfold qidZ
 refine rwbad_ok x1 fun h2 e2=>?_
 have o2:Only non T h T h2:=o1.trans (Only.of_ext o1.wf e2)
 obtain⟨sw,o,uv,x2⟩:=x.kp o2.k (not_non _) (not_non _)
 have y2:=y.kp o2.k (Off.non _) (not_non _)
 have ou:=x2.us.one
 have cp:=x2.hp
 have o2':Only (two (fun t=>t=g) (pre gh)) T h T h2:=o2.mono fun _ h=>h.elim
 unfold qicZ
 cases hb:p.k.isBad with
 | true =>
  have e:p.step H n=({ p with err:=1,placed:=n,at_:=7 },H):=by simp[WP.step,hen,hb]
  rw[e] at hk
  have hkb:p.k = .bad:=by cases hk':p.k with
   | bad=>rfl
   | op x=>rw[hk'] at hb; cases hb
   | sweep=>rw[hk'] at hb; cases hb
  have kk:RwK { p with err:=1,placed:=n,at_:=7 } sw o:=by
   have:=x2.kk
   unfold RwK at this ⊢
   rw[hkb] at this
   simp -implicitDefEqProofs only[hkb]; exact this
  obtain⟨o5,x5⟩:=x2.st o2.wf gn kk
  have y5:=y2.kp o5.k d2.2 ng
  have e7:((7:Nat):Int)=7:=rfl
  simp -implicitDefEqProofs only[rwC,e7] at o5 x5 y5 cp
  simp -implicitDefEqProofs
  unfold qhXZ
  simp -implicitDefEqProofs[ld_at cp,cel_of cp,stm_at cp,stm_upd,ld_same,cel_same,over]
  exact hk T _ (o2'.trans (o5.mono two_l)) x5 y5
 | false =>
 have e:p.step H n=p.stp H n:=by simp[WP.step,hen,hb]
 rw[e] at hk
 have tq:=x2.tp
 simp -implicitDefEqProofs only[rwC] at cp
 simp -implicitDefEqProofs
 unfold qibZ
 rw[seqM_eq]
 unfold qiaZ
 have wq:IntKind.i64.wrap 1=1∧IntKind.i64.wrap 2=2∧IntKind.i64.wrap 3=3∧IntKind.i64.wrap 4=4∧IntKind.i64.wrap 5=5∧IntKind.i64.wrap 6=6∧IntKind.i64.wrap 7=7:=by decide
 have cases7:p.at_=0∨p.at_=1∨p.at_=2∨p.at_=3∨p.at_=4∨p.at_=5∨p.at_=6:=by omega
 have fin:∀ {T3 h3} (p':WP),Only (pre gh) T h2 T3 h3→RwX T3 h3 g q p sw o uv→p'.k=p.k→RwK p' sw o→RhR T3 h3 gh hp (p.stp H n).2→(p.stp H n).1=p'→∀ {c:Array Value},c=(rwC p' sw o uv).toArray→K (.tuple #[]) (upd h3 q (.cells c qOZ (0,0))):=by
  intro T3 h3 p' o3 x3 ek kk y3 ep c hc
  subst hc
  obtain⟨o5,x5⟩:=x3.st o3.wf gn kk
  have y5:=y3.kp o5.k d2.2 ng
  refine hk T3 _ ((o2'.trans (o3.mono two_r)).trans (o5.mono two_l)) ?_ y5
  rw[ep]; exact x5
 rcases cases7 with c0 | c0 | c0 | c0 | c0 | c0 | c0
 ·simp -implicitDefEqProofs[ld_at cp,cel_of cp,stm_at cp,stm_upd,ld_same,cel_same,over,c0]
  unfold qhZZ
  simp -implicitDefEqProofs[ld_at cp,cel_of cp,stm_at cp,stm_upd,ld_same,cel_same,over,c0]
  refine rz_lock p.who o2.wf y2 hlt h8 (by omega) st.wh.1 fun T3 h3 o3 y3=>?_
  have x3:=x2.kp o3.k d1 n0
  have cp3:=x3.hp
  simp -implicitDefEqProofs only[rwC,c0] at cp3
  unfold qhYZ
  simp -implicitDefEqProofs
  unfold qwZ
  simp -implicitDefEqProofs[ld_at cp3,cel_of cp3,stm_at cp3,stm_upd,ld_same,cel_same,over]
  refine fin { p with at_:=1 } o3 x3 rfl (x2.kk.upd rfl rfl) (by rw[stp0 H n c0]; exact y3) (by rw[stp0 H n c0]) ?_
  simp -implicitDefEqProofs[rwC,wq]
 ·simp -implicitDefEqProofs[ld_at cp,cel_of cp,stm_at cp,stm_upd,ld_same,cel_same,over,c0]
  unfold qDZ
  simp -implicitDefEqProofs
  unfold qgJZ
  simp -implicitDefEqProofs[ld_at cp,cel_of cp,stm_at cp,stm_upd,ld_same,cel_same,over,c0]
  refine rz_begin p.who o2.wf y2 hlt h8 (by omega) st.wr.1 hs.cw.u1 fun T3 h3 o3 y3=>?_
  have x3:=x2.kp o3.k d1 n0
  have cp3:=x3.hp
  simp -implicitDefEqProofs only[rwC,c0] at cp3
  unfold qgIZ
  simp -implicitDefEqProofs
  unfold qwZ
  simp -implicitDefEqProofs[ld_at cp3,cel_of cp3,stm_at cp3,stm_upd,ld_same,cel_same,over]
  refine fin { p with at_:=2 } o3 x3 rfl (x2.kk.upd rfl rfl) (by rw[stp1 H n c0]; exact y3) (by rw[stp1 H n c0]) ?_
  simp -implicitDefEqProofs[rwC,wq]
 ·simp -implicitDefEqProofs[ld_at cp,cel_of cp,stm_at cp,stm_upd,ld_same,cel_same,over,c0]
  unfold qDZ
  simp -implicitDefEqProofs
  unfold qJZ
  simp -implicitDefEqProofs
  unfold qgLZ
  simp -implicitDefEqProofs[ld_at cp,cel_of cp,stm_at cp,stm_upd,ld_same,cel_same,over,c0]
  have hn0:=hs.ts
  refine rz_take p.who o2.wf gg y2 hs.ts (by omega) fun T3 h3 o3 y3=>?_
  have x3:=x2.kp o3.k d1 n0
  have cp3:=x3.hp
  simp -implicitDefEqProofs only[rwC,c0] at cp3
  unfold qgKZ
  simp -implicitDefEqProofs[ld_at cp3,cel_of cp3,stm_at cp3,stm_upd,ld_same,cel_same,over,tmC]
  unfold qwZ
  simp -implicitDefEqProofs[stm_upd,ld_same,cel_same,over,tmC]
  refine fin { p with at_:=3,placed:=n,t:=(H.take p.who).t } o3 x3 rfl (x2.kk.upd rfl rfl) (by rw[stp2 H n c0]; exact y3) (by rw[stp2 H n c0]) ?_
  simp -implicitDefEqProofs[rwC,wq,Hall.take]
 ·simp -implicitDefEqProofs[ld_at cp,cel_of cp,stm_at cp,stm_upd,ld_same,cel_same,over,c0]
  unfold qDZ
  simp -implicitDefEqProofs
  unfold qJZ
  simp -implicitDefEqProofs
  unfold qajZ
  simp -implicitDefEqProofs
  unfold qgQZ
  cases sw with
  | true =>
   have hks:p.k = .sweep:=by
    have:=x2.kk
    unfold RwK at this
    cases hk':p.k with
    | bad=>rw[hk'] at hb; cases hb
    | op x=>rw[hk'] at this; cases this.1
    | sweep=>rfl
   have he0:p.err=0:=by have:=x2.kk; unfold RwK at this; rw[hks] at this; exact this.2
   have hT:ldV (some (some 3)) (.pointer (some ⟨q,12,none⟩)) h2=some (.agg (tmC p.t).toArray):=by simp[ld_at cp,tmC]
   simp -implicitDefEqProofs[ld_at cp,cel_of cp,stm_at cp,stm_upd,ld_same,cel_same,over]
   unfold qgNZ
   have p0:cel h2 q 0=some (.int .i64 p.who):=by simp[cel_of cp]
   have p1:cel h2 q 1=some (.int .i64 p.s):=by simp[cel_of cp]
   simp -implicitDefEqProofs[p0,p1,hT]
   refine rz_sweep p.who p.t o2.wf y2 hlt hs hm fun T3 h3 o3 y3=>?_
   have x3:=x2.kp o3.k d1 n0
   have cp3:=x3.hp
   simp -implicitDefEqProofs only[rwC,c0] at cp3
   unfold qgMZ
   simp -implicitDefEqProofs
   unfold qwZ
   simp -implicitDefEqProofs[ld_at cp3,cel_of cp3,stm_at cp3,stm_upd,ld_same,cel_same,over]
   refine fin { p with at_:=4,err:=0 } o3 x3 rfl ?_ (by rw[stp3 H n c0,hks]; exact y3) (by rw[stp3 H n c0,hks]; rfl) ?_
   ·have:=x2.kk
    unfold RwK at this ⊢
    rw[hks] at this
    simp -implicitDefEqProofs only[hks]
    exact⟨trivial,trivial⟩
   ·simp -implicitDefEqProofs[rwC,wq,he0]
  | false =>
   have hko:p.k = .op o:=by
    have:=x2.kk
    unfold RwK at this
    cases hk':p.k with
    | bad=>rw[hk'] at hb; cases hb
    | op x=>rw[hk'] at this; rw[this.2.1]
    | sweep=>rw[hk'] at this; cases this.1
   have hT:ldV (some (some 3)) (.pointer (some ⟨q,12,none⟩)) h2=some (.agg (tmC p.t).toArray):=by simp[ld_at cp,tmC]
   have hO:ldV (some (some 7)) (.pointer (some ⟨q,4,none⟩)) h2=some (.agg (opC o uv).toArray):=by simp[ld_at cp,opC]
   simp -implicitDefEqProofs[ld_at cp,cel_of cp,stm_at cp,stm_upd,ld_same,cel_same,over]
   unfold qgPZ
   have p0:cel h2 q 0=some (.int .i64 p.who):=by simp[cel_of cp]
   have p1:cel h2 q 1=some (.int .i64 p.s):=by simp[cel_of cp]
   simp -implicitDefEqProofs[p0,p1,hT,hO]
   refine rz_write p.who o x2.ow ou p.t wg.t.1 o2.wf y2 hlt hs hm fun T3 h3 o3 y3=>?_
   have x3:=x2.kp o3.k d1 n0
   have cp3:=x3.hp
   simp -implicitDefEqProofs only[rwC,c0] at cp3
   unfold qgOZ
   simp -implicitDefEqProofs[ld_at cp3,cel_of cp3,stm_at cp3,stm_upd,ld_same,cel_same,over]
   unfold qwZ
   simp -implicitDefEqProofs[stm_upd,ld_same,cel_same,over]
   refine fin { p with at_:=4,err:=(H.write p.who p.s o p.t).2 } o3 x3 rfl ?_ (by rw[stp3 H n c0,hko]; exact y3) (by rw[stp3 H n c0,hko]; rfl) ?_
   ·have:=x2.kk
    unfold RwK at this ⊢
    rw[hko] at this
    simp -implicitDefEqProofs only[hko]
    exact⟨trivial,trivial,this.2.2⟩
   ·simp -implicitDefEqProofs[rwC,wq]
 ·simp -implicitDefEqProofs[ld_at cp,cel_of cp,stm_at cp,stm_upd,ld_same,cel_same,over,c0]
  unfold qDZ
  simp -implicitDefEqProofs
  unfold qJZ
  simp -implicitDefEqProofs
  unfold qajZ
  simp -implicitDefEqProofs
  unfold qaZZ
  simp -implicitDefEqProofs
  unfold qgSZ
  simp -implicitDefEqProofs[ld_at cp,cel_of cp,stm_at cp,stm_upd,ld_same,cel_same,over,c0]
  refine rz_pub p.who o2.wf y2 hlt h8 (by omega) fun T3 h3 o3 y3=>?_
  have x3:=x2.kp o3.k d1 n0
  have cp3:=x3.hp
  simp -implicitDefEqProofs only[rwC,c0] at cp3
  unfold qgRZ
  simp -implicitDefEqProofs
  unfold qwZ
  simp -implicitDefEqProofs[ld_at cp3,cel_of cp3,stm_at cp3,stm_upd,ld_same,cel_same,over]
  refine fin { p with at_:=5 } o3 x3 rfl (x2.kk.upd rfl rfl) (by rw[stp4 H n c0]; exact y3) (by rw[stp4 H n c0]) ?_
  simp -implicitDefEqProofs[rwC,wq]
 ·simp -implicitDefEqProofs[ld_at cp,cel_of cp,stm_at cp,stm_upd,ld_same,cel_same,over,c0]
  unfold qDZ
  simp -implicitDefEqProofs
  unfold qJZ
  simp -implicitDefEqProofs
  unfold qajZ
  simp -implicitDefEqProofs
  unfold qaZZ
  simp -implicitDefEqProofs
  unfold qddZ
  simp -implicitDefEqProofs
  unfold qgUZ
  simp -implicitDefEqProofs[ld_at cp,cel_of cp,stm_at cp,stm_upd,ld_same,cel_same,over,c0]
  refine rz_end p.who o2.wf y2 hlt h8 (by omega) (odd_lt st.wr.1 st.wr.2.2) fun T3 h3 o3 y3=>?_
  have x3:=x2.kp o3.k d1 n0
  have cp3:=x3.hp
  simp -implicitDefEqProofs only[rwC,c0] at cp3
  unfold qgTZ
  simp -implicitDefEqProofs
  unfold qwZ
  simp -implicitDefEqProofs[ld_at cp3,cel_of cp3,stm_at cp3,stm_upd,ld_same,cel_same,over]
  refine fin { p with at_:=6 } o3 x3 rfl (x2.kk.upd rfl rfl) (by rw[stp5 H n c0]; exact y3) (by rw[stp5 H n c0]) ?_
  simp -implicitDefEqProofs[rwC,wq]
 ·simp -implicitDefEqProofs[ld_at cp,cel_of cp,stm_at cp,stm_upd,ld_same,cel_same,over,c0]
  unfold qDZ
  simp -implicitDefEqProofs
  unfold qJZ
  simp -implicitDefEqProofs
  unfold qajZ
  simp -implicitDefEqProofs
  unfold qaZZ
  simp -implicitDefEqProofs
  unfold qddZ
  simp -implicitDefEqProofs
  unfold qgXZ
  simp -implicitDefEqProofs
  unfold qgWZ
  simp -implicitDefEqProofs[ld_at cp,cel_of cp,stm_at cp,stm_upd,ld_same,cel_same,over,c0]
  refine rz_unlock p.who o2.wf y2 hlt h8 (by omega) st.wh.1 fun T3 h3 o3 y3=>?_
  have x3:=x2.kp o3.k d1 n0
  have cp3:=x3.hp
  simp -implicitDefEqProofs only[rwC,c0] at cp3
  unfold qgVZ
  simp -implicitDefEqProofs
  unfold qwZ
  simp -implicitDefEqProofs[ld_at cp3,cel_of cp3,stm_at cp3,stm_upd,ld_same,cel_same,over]
  refine fin { p with at_:=7 } o3 x3 rfl (x2.kk.upd rfl rfl) (by rw[stp6 H n (by omega)]; exact y3) (by rw[stp6 H n (by omega)]) ?_
  simp -implicitDefEqProofs[rwC,wq]
end Go.Proofs.YtmbningljbcpkaaGreat
namespace Go.Proofs.YtmbningljbcpkaaGreat
open Go Go.Den Go.MapKept
set_option linter.unusedSimpArgs false
set_option linter.unusedVariables false
set_option maxRecDepth 20000
section
variable {T0:Tags}{h0:Heap}{p q m N:Nat}{c:Cfg}{H:Hall}{A:List ActD}{T':Tags}{h':Heap}
end
theorem RhX.acts {T:Tags}{h:Heap}{g:Tag}{p:Nat}{H:Hall}{sv av:Value}{Y:Nat→RSx}(x:RhX T h g p H sv av Y):Sl 3 ActR h av H.acts:=by
 exact Row.slE (enc:=actC) (fun _=>rfl) (fun _=>rfl) x.ac.1
theorem cv8 {n:Int}(h:0≤n∧n≤255):cvV (some .i64) (.int .u8 n)=some (.int .i64 n):=by simp[cvV,wrap64_id (n:=n) (by omega) (by omega)]
theorem tm8 {n k:Int}(h:0≤n):n.tmod k=n % k:=Int.tmod_eq_emod_of_nonneg h
end Go.Proofs.YtmbningljbcpkaaGreat
