/- Words, plain data and contracts of the Go functions that this claim reaches. No condition beyond the hypotheses that each theorem states. -/
import Derived.Test.YtcnphhhcknhhaaaGreatSa5
set_option linter.unusedSimpArgs false
set_option linter.unusedVariables false
namespace Go.Den
open Go
set_option linter.unusedVariables false
def wo (h:Heap)(l:List Nat):Heap:=fun q=>if q∈l then none else h q
theorem wo_out {h:Heap}{l:List Nat}{q:Nat}(hq:q ∉ l):wo h l q=h q:=if_neg hq
theorem wo_ext {F h:Heap}{l:List Nat}(e:Ext F h)(hl:∀ q∈l,F q=none):Ext F (wo h l):=fun b o hb=>by
 rw[wo_out (fun hm=>by rw[hl b hm] at hb; cases hb)]; exact e b o hb
theorem wo_get {h:Heap}{l:List Nat}{q:Nat}{o:Obj}(e:wo h l q=some o):q ∉ l∧h q=some o:=by
 unfold wo at e
 split at e
 ·cases e
 ·rename_i hq; exact⟨hq,e⟩
theorem wo_keep {h h' h'':Heap}{l:List Nat}{b:Nat}(e:Ext (wo h l) h')(hb:h b=none)(k:Keep (some b) h' h''):Ext (wo h l) h'':=fun q o hq=>by
 refine k q o (e q o hq) fun hh=>?_
 cases hh
 rw[(wo_get hq).2] at hb; cases hb
theorem wo_upd {h h':Heap}{l:List Nat}{b:Nat}{o:Obj}(e:Ext (wo h l) h')(hb:b∈l):Ext (wo h l) (upd h' b o):=fun q x hq=>by
 rw[upd_ne (fun hh=>(wo_get hq).1 (by rw[hh]; exact hb))]; exact e q x hq
theorem ext_wo {h0 h h':Heap}{l:List Nat}(e0:Ext h0 h)(hl:∀ q∈l,h0 q=none)(e:Ext (wo h l) h'):Ext h0 h':=(wo_ext e0 hl).trans e
def stoTo (b:Book)(i:Nat):Nat:=storedB (b.take i)
theorem stoTo_s {b:Book}{i:Nat}(hi:i<b.length):stoTo b (i+1)=stoTo b i+b[i].2.ss.length:=by
 unfold stoTo storedB
 rw[List.take_succ_eq_append_getElem hi,List.map_append,List.sum_append_nat,List.map_cons,List.map_nil,List.sum_cons,List.sum_nil,Nat.add_zero]
theorem stored_le {m k:Nat}{b:Book}(h1:b.length≤m)(h2:∀ y∈b,y.2.ss.length≤k):storedB b≤m*k:=by
 unfold storedB
 have:∀ (l:Book),(∀ y∈l,y.2.ss.length≤k)→(l.map fun x=>x.2.ss.length).sum≤l.length*k:=by
  intro l hl
  induction l with
  | nil=>simp
  | cons a l ih =>
   have h3:=hl a (by simp)
   have h4:=ih fun y hy=>hl y (by simp[hy])
   simp only[List.map_cons,List.sum_cons,List.length_cons,Nat.add_mul]; omega
 exact Nat.le_trans (this b h2) (Nat.mul_le_mul_right _ h1)
theorem stoTo_le {b:Book}(i:Nat):stoTo b i≤storedB b:=by
 unfold stoTo storedB
 have:(b.map fun x=>x.2.ss.length).sum=((b.take i).map fun x=>x.2.ss.length).sum+((b.drop i).map fun x=>x.2.ss.length).sum:=by
  rw[← List.sum_append_nat,← List.map_append,List.take_append_drop]
 omega
def stoH (H:Hall)(i:Nat):Nat:=((List.range i).map fun s=>storedB (H.ss s).book).sum
theorem stoH_s (H:Hall)(i:Nat):stoH H (i+1)=stoH H i+storedB (H.ss i).book:=by
 unfold stoH
 rw[List.range_succ,List.map_append,List.sum_append_nat,List.map_cons,List.map_nil,List.sum_cons,List.sum_nil,Nat.add_zero]
theorem stoH_all (H:Hall):stoH H H.n=H.stored:=rfl
theorem stoH_le {m:Nat}{H:Hall}(x:HS m H):∀ i,i≤H.n→stoH H i≤i*(m*m)
 | 0,_=>by simp[stoH]
 | i+1,hi=>by
  have ih:=stoH_le x i (by omega)
  have b:=(x.st i (by omega)).bk
  have:=stored_le b.bl b.bn
  rw[stoH_s,Nat.add_mul]; omega
end Go.Den
namespace Go.Proofs.YtcnphhhcknhhaaaGreat
open Go Go.Den Go.MapKept
set_option linter.unusedSimpArgs false
set_option linter.unusedVariables false
set_option maxRecDepth 20000
theorem allX_at {b:Book}{Lv:List (List Value)}{F:Heap}(l2:El 4 EntR F Lv (b.map (·.2))){i:Nat}(hi:i<(allX b Lv).length):∃ (hb:i<b.length) (v:Value),(allX b Lv)[i]=#[.string b[i].1,.agg (v::presC b[i].2.told).toArray]∧Sl 4 SessR F v b[i].2.ss∧Sn v:=by
 have hb:i<b.length:=by simpa [allX] using hi
 have hL:i<Lv.length:=by rw[l2.len]; simpa using hb
 have he:=l2.el i hL (by simpa using hb)
 obtain⟨v,h1,h2,h3⟩:=he
 simp -implicitDefEqProofs only[List.getElem_map] at h1 h2
 refine⟨hb,v,?_,h2,h3⟩
 simp -implicitDefEqProofs only[allX,List.getElem_map,List.getElem_range]
 have e1:b.getD i (⟨#[]⟩,ent0)=b[i]:=by rw[List.getD_eq_getElem?_getD,List.getElem?_eq_getElem hb]; rfl
 have e2:Lv.getD i []=Lv[i]:=by rw[List.getD_eq_getElem?_getD,List.getElem?_eq_getElem hL]; rfl
 rw[e1,e2,h1]
def StoJ (hB:Heap)(v3:Nat)(b:Book)(i:Nat)(h':Heap):Prop:=Ext (wo hB [v3]) h'∧h' v3=some (.cells #[.int .i64 (stoTo b i)] qpZ (0,0))
def StoC (hB F:Heap)(v3:Nat)(b:Book)(l i:Nat)(s2:Env)(h':Heap):Prop:=StoJ hB v3 b i h'∧s2 3=ptr v3∧∃ (hi:i<b.length) (xb:Nat) (sv:Value),s2 5=ptr xb∧xb≠l∧h' xb=some (.cells (sv::presC b[i].2.told).toArray qoZ (0,0))∧Sl 4 SessR F sv b[i].2.ss
variable {K:KTy}
theorem stored_ok (b:Book)(hl:b.length≤100000)(hn:∀ y∈b,y.2.ss.length≤900000){F h:Heap}(eF:Ext F h){kw vw:Value}(x:BookR F kw vw b)(hk:∀ h',Ext h h'→K (.int .i64 (storedB b)) h'):callM P qbtZ #[.agg #[kw,vw]] h K:=by
 apply qsOZ
 unfold qnOZ
 refine nw_agg fun v1 h1 n1 e1 c1=>?_
 rw[zcInt]
 refine nw_intro fun v3 h3 n3 e3 c3=>?_
 have c1:=e3 _ _ c1
 have e0:=e1.trans e3
 have n3':h v3=none:=fresh_of e1 n3
 have o1:=x.1.one
 have o2:=x.2.1.one
 have ec3:upd h3 v3 (.cells #[.int .i64 0] qpZ (0,0))=h3:=(upd_of (fun _ _=>rfl) c3).symm
 simp -implicitDefEqProofs[ld_at c3,cel_of c3,stm_at c3,stm_upd,ld_same,cel_same,over]
 rw[ec3,seqM_eq]
 unfold qoBZ
 simp -implicitDefEqProofs[ld_at c1,cel_of c1,stm_at c1,stm_upd,ld_same,cel_same,over]
 refine all_ok b (eF.trans e0) x fun pA hB nA eA cA=>?_
 have nA3:v3≠pA:=ne_fresh c3 nA
 have c3:=eA _ _ c3
 have e0B:=e0.trans eA
 obtain⟨Lv,l1,l2⟩:=x.2.1.els EntR.one
 simp -implicitDefEqProofs only[List.length_map] at l1
 have hF3:F v3=none:=by
  cases hh:F v3 with
  | none=>rfl
  | some o=>rw[eF _ _ hh] at n3'; cases n3'
 have F1:Ext F (wo hB [v3]):=wo_ext (eF.trans e0B) (by simpa using hF3)
 have hsb:stoTo b b.length=storedB b:=by simp[stoTo]
 have hbound:storedB b≤90000000000:=Nat.le_trans (stored_le hl hn) (by decide)
 unfold qoAZ
 refine rf_go good mixed rfl (by kernel_rfl) (all_it b (hA:=wo hB [v3]) (p:=pA) (kw:=kw) (vw:=vw) (Lv:=Lv) (by rw[wo_out (by simpa using Ne.symm nA3)]; exact cA) (x.ext F1) (l1.ext F1) l2.size (by simpa using l2.len))
  (fun l b' i h'=>StoJ hB v3 b i h') (fun _ _ _ _=>False) (fun l b' i s2 h'=>StoC hB F v3 b l i s2 h') ?_ ?_ ?_ (fun _ _ _ _ _ _ _ h _=>h) ?_ ?_ ?_ ?_ ?_ (fun _ _ _ _ _ _ _ h=>h.elim) (fun _ _ _ _ _ _ _ _ h=>h.elim)
 ·intro l b' hl' hb'
  exact⟨fun q o hq=>(wo_get hq).2,by simpa [stoTo,storedB] using c3⟩
 ·intro l b' i h' J; exact J.1
 ·intro l b' hl' hb' i h' h'' J k
  exact⟨wo_keep J.1 hl' k,k _ _ J.2 (fun hh=>by cases hh; rw[hl'] at c3; cases c3)⟩
 ·rintro l b' i s2 ha hb hl' hb' ⟨J,s3,hi,xb,sv,s5,nx,cx,sx⟩ k
  exact⟨⟨wo_keep J.1 hl' k,k _ _ J.2 (fun hh=>by cases hh; rw[hl'] at c3; cases c3)⟩,s3,hi,xb,sv,s5,nx,k _ _ cx (fun hh=>nx (by cases hh; rfl)),sx⟩
 ·intro i hi; simp[allX]
 ·rintro i hi l b' h2 hl' hb' ⟨ol,hol⟩ ⟨ob,hob⟩ J
  rw[qsrZ]
  unfold qokZ
  rw[zcEnt]
  obtain⟨hib,sv,hx,hsv,hsn⟩:=allX_at l2 hi
  rw[hx]
  have hso:=hsv.one
  simp -implicitDefEqProofs
  refine nw_st rfl (by simp[presC]) (by simp[presC,hso.1]) fun xb h4 n4 e4 c4=>?_
  refine⟨⟨⟨J.1.trans e4,e4 _ _ J.2⟩,by simp,hib,xb,sv,by simp,fun hh=>(by subst hh; rw[hol] at n4; cases n4),?_,hsv⟩,by rw[hol,e4 _ _ hol],by rw[hob,e4 _ _ hob]⟩
  simpa using c4
 ·rintro i hi l b' s2 h3 hl' hb' ⟨ol,hol⟩ ⟨ob,hob⟩ ⟨J,s3,hib,xb,sv,s5,nx,cx,sx⟩
  rw[qssZ]
  unfold qolZ
  have cv:=J.2
  have hlen:=sx.len
  simp -implicitDefEqProofs only[presC] at cx
  have hw:IntKind.i64.wrap ((stoTo b i:Int)+b[i].2.ss.length)=(stoTo b (i+1):Nat):=by
   have h1:=stoTo_le (b:=b) (i+1)
   rw[stoTo_s hib] at h1 ⊢
   rw[wrap64_id (by omega) (by omega)]; omega
  have hl3:l≠v3:=fun hh=>by subst hh; rw[hl'] at c3; cases c3
  have hb3:b'≠v3:=fun hh=>by subst hh; rw[hb'] at c3; cases c3
  simp -implicitDefEqProofs[s3,s5,ld_at cv,cel_of cv,stm_at cv,ld_at cx,cel_of cx,stm_at cx,stm_upd,ld_same,cel_same,over,hlen,hw]
  refine⟨by rw[upd_ne hl3],by rw[upd_ne hb3],wo_upd J.1 (by simp),upd_same' _ _ _⟩
 ·intro l b' h' hl' hlb hb' hd J
  have hlx:(allX b Lv).length=b.length:=by simp[allX]
  rw[hlx] at J
  have cv:=J.2
  rw[hsb] at cv
  have nb3:v3≠b':=fun hh=>by subst hh; rw[hb'] at c3; cases c3
  simp -implicitDefEqProofs only[blkM_n,thenM_n]
  simp -implicitDefEqProofs[ld_at cv,cel_of cv,stm_at cv,stm_upd,ld_same,cel_same,over,hd,ld_skip nb3,cel_skip nb3]
  refine hk _ ?_
  exact ext_upd (o:=.deferred none) (fresh_of e0B hb') (ext_wo e0B (by simpa using n3') J.1)
theorem zcStripe:zc P qajZ=some #[.int .i64 0,.int .u64 0,.int .u64 0,.slice none 0 0,.slice none 0 0,.slice none 0 0,.slice none 0 0,.pointer none]:=by kernel_rfl
theorem hstored_ok {T : Tags} {h : Heap} {g : Tag} {p m : Nat} {H : Hall} (w : Wf T h) (x : HallR T h g p H) (hs : HS m H) (hm : m ≤ 100000) (hk : ∀ h', Ext h h' → K (.int .i64 H.stored) h') : callM P qhcZ #[ptr p] h K := by
  apply qrkZ
  unfold qhTZ
  rw [seqM_eq]
  unfold qkNZ
  obtain ⟨sv, av, Y, x⟩ := x
  have cp := x.hp
  simp -implicitDefEqProofs only [hallC] at cp
  have hlen := x.st.len
  have h8 := hs.n8.2
  have hmm : m * m ≤ 10000000000 := Nat.le_trans (Nat.mul_le_mul hm hm) (by decide)
  have hst : ∀ i, i ≤ H.n → stoH H i ≤ 80000000000 := fun i hi => Nat.le_trans (stoH_le hs i hi) (Nat.le_trans (Nat.mul_le_mul (Nat.le_trans hi h8) hmm) (by decide))
  simp -implicitDefEqProofs [ld_at cp, cel_of cp, stm_at cp, stm_upd, ld_same, cel_same, over, hlen]
  refine loop_on [9, 10] (fun s h' => Ext h h' ∧ ∃ i : Nat, i ≤ H.n ∧ s 11 = .int .i64 i ∧ s 3 = .int .i64 (stoH H i)) (fun s _ => (H.n - num (s 11)).toNat) ⟨Ext.refl h, 0, by omega, rfl, rfl⟩ ?_
  rintro s h1 hf ⟨e1, i, hi, s11, s3⟩
  have s9 : s 9 = sv := by simpa using hf 9 (by simp)
  have s10 : s 10 = .int .i64 H.n := by simpa using hf 10 (by simp)
  unfold qkMZ
  simp -implicitDefEqProofs only [s11, s10, bin_lss, ov_s, cd_b]
  refine ⟨fun hc => ?_, fun hc => ?_⟩
  rotate_left
  · have : i = H.n := by have : ¬ ((i : Int) < H.n) := by simpa using hc
                         omega
    subst this
    simp -implicitDefEqProofs [s3, stoH_all]
    exact hk _ e1
  have hlt : i < H.n := by have : ((i : Int) < H.n) := by simpa using hc
                           omega
  have hw : IntKind.i64.wrap ((i : Int) + 1) = (i + 1 : Nat) := by rw [wrap64_id (by omega) (by omega)]; omega
  have hw2 : IntKind.i64.wrap ((stoH H i : Int) + storedB (H.ss i).book) = (stoH H (i + 1) : Nat) := by
    have h1 := hst (i + 1) (by omega)
    rw [stoH_s] at h1 ⊢
    rw [wrap64_id (by omega) (by omega)]; omega
  have o1 : Only non T h T h1 := Only.of_ext w e1
  have x1 := x.own o1.k
  obtain ⟨b, ob, rb, hb1, tb, ia, l1, l2, l3, l4, l5, l6⟩ := x1.lds (s := i) (k := .i64) hlt
  have hsr := x1.sr i hlt
  have st := hs.st i hlt
  have u1 := hsr.1.1.one
  have u2 := hsr.1.2.1.one
  have u3 := hsr.2.1.1.one
  have u4 := hsr.2.1.2.1.one
  unfold qkLZ
  rw [s9, s11, ia, zcStripe]
  simp -implicitDefEqProofs only [strC] at l6
  simp -implicitDefEqProofs only [ov_s, l6]
  refine nw_st (by simp) (by simp) (by simp [u1.1, u2.1, u3.1, u4.1]) fun yb h2 n2 e2 c2 => ?_
  simp -implicitDefEqProofs only [cells_agg] at c2
  simp -implicitDefEqProofs [ld_at c2, cel_of c2, stm_at c2, stm_upd, ld_same, cel_same, over]
  refine stored_ok _ (by have := st.bk.bl; omega) (fun y hy => by have := st.bk.bn y hy; omega) ((fz_ext T h1).trans e2) hsr.2.1 fun h3 e3 => ?_
  unfold qkKZ
  simp -implicitDefEqProofs [s3, s9, s10, s11, hw, hw2, -Int.natCast_add]
  exact ⟨⟨(e1.trans e2).trans e3, i + 1, by omega, rfl, rfl⟩, by omega⟩
end Go.Proofs.YtcnphhhcknhhaaaGreat
namespace Go.Proofs.YtcnphhhcknhhaaaGreat
open Go Go.Den Go.MapKept
set_option linter.unusedSimpArgs false
set_option linter.unusedVariables false
set_option maxRecDepth 20000
def small:Cfg:=⟨3,2,16,4,1,100,0⟩
theorem bdSmall:bdV (binf P qvZ) [(0,.int .i64 3),(1,.int .i64 2),(2,.int .i64 16),(3,.int .i64 4),(4,.int .i64 1),(5,.int .u64 100)]=some (.agg (cfgC small).toArray):=by kernel_rfl
variable {K:KTy}
theorem small_ok {h:Heap}(hk:∀ h',Ext h h'→K (.agg (cfgC small).toArray) h'):callM P qfyZ #[] h K:=by
 apply qqbZ
 unfold qgPZ
 rw[zcCfg,bdSmall]
 simp -implicitDefEqProofs only[nwM_s]
 intro v1 n1
 simp -implicitDefEqProofs[stm_upd,ld_same,cel_same,over,cfgC]
 exact hk _ (Ext.upd n1 _)
theorem zcOp:zc P qwZ=some #[.int .i64 0,.string ⟨#[]⟩,.int .i64 0,.int .i64 0,.int .i64 0,.int .u64 0,.slice none 0 0]:=by kernel_rfl
end Go.Proofs.YtcnphhhcknhhaaaGreat
namespace Go.Proofs.YtcnphhhcknhhaaaGreat
open Go Go.Den Go.MapKept
set_option linter.unusedSimpArgs false
set_option linter.unusedVariables false
set_option maxRecDepth 20000
theorem g1:Gd [1]:=⟨0,[],rfl⟩
theorem g2:Gd [2]:=⟨1,[],rfl⟩
theorem d12:Off (pre [1]) [2]:=off_pre (g:=[]) (x:=[1]) (y:=[2]) (by simp) (by simp)
theorem d21:Off (pre [2]) [1]:=off_pre (g:=[]) (x:=[2]) (y:=[1]) (by simp) (by simp)
end Go.Proofs.YtcnphhhcknhhaaaGreat
namespace Go.Proofs.YtcnphhhcknhhaaaGreat
open Go Go.Den Go.MapKept
set_option linter.unusedSimpArgs false
set_option linter.unusedVariables false
set_option maxRecDepth 20000
def wrOp (x:OpD):OpD:={ x with kind:=1+x.kind % 3 }
theorem wrOp_w {x:OpD}(w:OpW x):OpW (wrOp x):=⟨(by show I64 (1+x.kind % 3); unfold I64; omega),w.i2,w.i3,w.i4,w.u1,w.s1⟩
theorem wrOp_k (x:OpD):(wrOp x).kind=1∨(wrOp x).kind=2∨(wrOp x).kind=3:=by
 show 1+x.kind % 3=1∨1+x.kind % 3=2∨1+x.kind % 3=3
 omega
variable {K:KTy}
theorem writing18_ok (x:OpD){h:Heap}{v:Value}(ho:One v)(hk:∀ h',Ext h h'→K (.agg (opC (wrOp x) v).toArray) h'):callM P qeSZ #[.agg (opC x v).toArray] h K:=by
 apply qoWZ
 unfold qfoZ
 refine nw_agg fun v1 h1 n1 e1 c1=>?_
 rw[zcOp]
 refine nw_intro fun v3 h3 n3 e3 c3=>?_
 have ne:=ne_fresh c1 n3
 have c1:=e3 _ _ c1
 simp -implicitDefEqProofs only[opC] at c1
 have m1:=tmod_rng x.kind (show (0:Int)<3 by omega)
 have m2:=Int.mul_tdiv_add_tmod x.kind 3
 have e2:(x.kind.tmod 3+3).tmod 3=x.kind % 3:=by rw[tmod_pos (by omega)]; omega
 have w1:IntKind.i64.wrap (x.kind.tmod 3+3)=x.kind.tmod 3+3:=wrap64_id (by omega) (by omega)
 have w2:IntKind.i64.wrap (1+x.kind % 3)=1+x.kind % 3:=wrap64_id (by omega) (by omega)
 simp -implicitDefEqProofs[ld_at c1,cel_of c1,stm_at c1,ld_at c3,cel_of c3,stm_at c3,stm_skip ne,stm_skip (Ne.symm ne),ld_skip ne,ld_skip (Ne.symm ne),cel_skip ne,cel_skip (Ne.symm ne),stm_upd,ld_same,cel_same,over,w1,e2,w2,ho.1,ho.2]
 refine kv (hk _ ?_) rfl
 exact ext_upd n1 (ext_upd (fresh_of e1 n3) (e1.trans e3))
end Go.Proofs.YtcnphhhcknhhaaaGreat
namespace Go.Proofs.YtcnphhhcknhhaaaGreat
open Go Go.Den Go.MapKept
set_option linter.unusedSimpArgs false
set_option linter.unusedVariables false
set_option maxRecDepth 20000
variable {K:KTy}
theorem now_ok {T:Tags}{h:Heap}{g:Tag}{p:Nat}{H:Hall}(x:HallR T h g p H)(hk:∀ h',Ext h h'→K (.agg (tmC H.t).toArray) h'):callM P qjxZ #[ptr p] h K:=by
 apply qsvZ
 unfold qkGZ
 rw[zcTime]
 refine nw_intro fun v1 h1 n1 e1 c1=>?_
 obtain⟨sv,av,Y,x⟩:=x
 have cp:=e1 _ _ x.hp
 simp -implicitDefEqProofs only[hallC] at cp
 simp -implicitDefEqProofs[ld_at c1,cel_of c1,stm_at c1,ld_at cp,cel_of cp,stm_at cp,stm_upd,ld_same,cel_same,over]
 exact kv (hk _ (ext_upd n1 e1)) (by simp[tmC])
theorem ext_of_only {U:Tag→Prop}{h:Heap}{T':Tags}{h':Heap}(o:Only U (fun _=>[]) h T' h')(u:¬ U []):Ext h h':=by
 have:=(o.ext u).trans (fz_ext _ _)
 rw[fz_nil] at this; exact this
def SwAJ (T0:Tags)(h0:Heap)(hp pp:Nat)(c:Cfg)(N B:Nat)(v:Value)(h':Heap):Prop :=
 ∃ (T':Tags) (k:Nat) (p:SwP) (H:Hall),Only (two (pre [2]) (pre [1])) T0 h0 T' h'∧HallR T' h' [1] hp H∧SwR T' h' [2] pp p∧SwA N k p H∧HS k H∧SwG N p∧H.t.seq=((k+4) / 7:Nat)∧H.c=c∧v = .int .i64 k∧k≤B
theorem two21:¬ two (pre [2]) (pre [1]) []:=by rintro (h | h)<;>simp[pre] at h
theorem sw_step {T0:Tags}{h0:Heap}{hp pp N B k:Nat}{c:Cfg}{T':Tags}{h':Heap}{p:SwP}{H:Hall}(hk3:k<B)(hB:B≤300)(o:Only (two (pre [2]) (pre [1])) T0 h0 T' h')(y:HallR T' h' [1] hp H)(x:SwR T' h' [2] pp p)(si:SwA N k p H)(hs:HS k H)(sg:SwG N p)(hq:H.t.seq=((k+4) / 7:Nat))(hc:H.c=c)
  {K:KTy} (hk:∀ h'',SwAJ T0 h0 hp pp c N B (.int .i64 (k+1:Nat)) h''→K (.bool (decide (k % 7=6))) h''):callM P qbrZ #[ptr pp,ptr hp,.int .i64 k] h' K:=by
 have sg':=sg
 rw[← si.hn] at sg
 obtain⟨s1,s2,s3⟩:=si.step (k:Int)
 have hr:=si.ro_le
 refine sstep_ok k o.wf g1 d12 d21 g2 x y hs (by omega) sg fun T2 h2 o2 x2 y2=>?_
 rw[s2]
 refine hk h2 ⟨T2,k+1,_,_,o.trans o2,y2,x2,s1,hs.sstep sg _,?_,?_,(sstep_n p H k).2.trans hc,rfl,by omega⟩
 ·have:=sg.step hs (k:Int) (by omega)
  rw[← si.hn]; exact this
 ·rw[s3]
  by_cases h2:k % 7=2
  ·rw[if_pos h2]
   show addU H.t.seq 1=_
   rw[hq]; unfold addU
   rw[if_neg (by omega)]; omega
  ·rw[if_neg h2,hq]; omega
def c2:Cfg:=⟨2,2,16,4,1,100,0⟩
theorem c2W:CfgW c2:=by constructor<;>simp[c2,I64,U64]
theorem cfg_nn {c:Cfg}(h:rightB c=true):((c.stripes.toNat:Nat):Int)=c.stripes∧0<c.stripes.toNat:=by
 simp -implicitDefEqProofs only[rightB,decide_eq_true_eq] at h; omega
theorem swAJ0 (B:Nat){T:Tags}{h:Heap}{hp pp:Nat}{c:Cfg}(cw:CfgW c)(hr:rightB c=true)(w:Wf T h)(y:HallR T h [1] hp (hall0 c c.stripes.toNat))(x:SwR T h [2] pp SwP.new):SwAJ T h hp pp c c.stripes.toNat B (.int .i64 0) h:=by
 have hn:=cfg_nn hr
 exact⟨T,0,SwP.new,_,Only.refl w,y,x,SwA.new rfl hn.2 (fun s _=>rfl),HS.new cw hr hn.1,SwG.new hn.2,rfl,rfl,rfl,by omega⟩
set_option maxHeartbeats 1000000 in
theorem awake18_ok {h:Heap}(hk:∀ h',Ext h h'→K (.bool true) h'):callM P qdmZ #[] h K:=by
 apply qpXZ
 unfold qgMZ
 refine small_ok fun h1 e1=>?_
 unfold qjdZ
 rw[zcCfg]
 simp -implicitDefEqProofs only[cfgC,small]
 refine nw_st rfl rfl (by simp) fun v3 h3 n3 e3 c3=>?_
 simp -implicitDefEqProofs only[cells_agg] at c3
 simp -implicitDefEqProofs[ld_at c3,cel_of c3,stm_at c3,stm_upd,ld_same,cel_same,over]
 have n3':h v3=none:=fresh_of e1 n3
 have e03:=ext_upd (o:=.cells #[.int .i64 2,.int .i64 2,.int .i64 16,.int .i64 4,.int .i64 1,.int .u64 100,.int .u64 0] qvZ (0,0)) n3' (e1.trans e3)
 generalize upd h3 v3 _=h4 at *
 have w1:=wf_nil h4
 refine hallNew_ok c2 c2W w1 g1 (fun hr T2 h5 q o2 y2=>?_) (fun hr=>by simp[rightB,c2] at hr)
 unfold qjcZ
 have enil:binV .eql 4 true (ptr q) (.pointer none)=some (.bool false):=rfl
 simp -implicitDefEqProofs[enil]
 unfold qjbZ
 refine snew_ok o2.wf g2 fun T3 h6 p o3 x3=>?_
 have y3:=y2.up o3 d21 g2.nil
 have eall:Ext h h6:=e03.trans (ext_of_only ((o2.mono fun _=>.inr).up o3 fun _=>.inl) two21)
 unfold qjaZ
 rw[seqM_eq]
 unfold qiYZ
 have o0:Only (two (pre [2]) (pre [1])) (fun _=>[]) h4 T3 h6:=(o2.mono fun _=>.inr).up o3 fun _=>.inl
 refine loop_on [2,4] (fun s h'=>SwAJ T3 h6 q p c2 2 14 (s 5) h') (fun s _=>(30-num (s 5)).toNat) (swAJ0 14 c2W hr o3.wf y3 x3) ?_
 rintro s h7 hf ⟨T4,k,r,H,o4,y4,x4,si,hs,sg,hq,hc,s5,hn⟩
 have s2:s 2=ptr q:=by simpa using hf 2 (by simp)
 have s4:s 4=ptr p:=by simpa using hf 4 (by simp)
 have hw:IntKind.i64.wrap ((k:Int)+1)=(k+1:Nat):=by rw[wrap64_id (by omega) (by omega)]; omega
 have hro:=si.ro
 unfold qiXZ
 by_cases h14:k<14
 ·have h30:(k:Int)<30:=by omega
  have hr0:r.rounds=0:=by rw[hro]; omega
  simp -implicitDefEqProofs[s5,s4,h30]
  refine srounds_ok x4 ?_
  simp -implicitDefEqProofs[hr0]
  unfold qiWZ
  simp -implicitDefEqProofs only[s2,s4,s5]
  refine sw_step (by omega) (by omega) o4 y4 x4 si hs sg hq hc fun h8 J=>?_
  unfold qiVZ
  simp -implicitDefEqProofs[s5,s2,s4,hw,-Int.natCast_add]
  exact⟨J,by omega⟩
 ·have:k=14:=by omega
  subst this
  have hr1:r.rounds=1:=hro
  simp -implicitDefEqProofs[s5,s4]
  refine srounds_ok x4 ?_
  simp -implicitDefEqProofs[hr1,s4,s5]
  unfold qiZZ
  simp -implicitDefEqProofs[s4,s5]
  refine sstripe_ok x4 ?_
  have hst:r.stripe=0:=si.st
  simp -implicitDefEqProofs[hst]
  exact hk _ (e03.trans (ext_of_only (o0.trans o4) two21))
end Go.Proofs.YtcnphhhcknhhaaaGreat
namespace Go.Den
open Go
set_option linter.unusedVariables false
set_option linter.unusedSimpArgs false
structure Idle (p:PR)(m:Mine)(c:Cfg):Prop where
 h:∀ s,¬ p.holds s
 e:p.em m c=m
theorem PR.done_w {p:WP}(h:p.done=true):7≤p.at_:=by simpa [WP.done] using h
theorem Idle.done {n i:Nat}{c:Cfg}{p:PR}{m:Mine}(g:PA n i c p)(hd:p.done=true)(h1:1≤n):Idle p m c:=by
 cases p with
 | w p =>
  have h7:=PR.done_w (p:=p) hd
  exact⟨fun s hs=>by have:=hs.2.2.1; omega,rfl⟩
 | r p =>
  have h8:p.ph=8:=by simpa [PR.done] using hd
  exact⟨fun s=>RP.nh (by omega) (by omega) (by omega) (by omega),rfl⟩
 | h p =>
  have hd':p.steps≤p.at_:=by simpa [PR.done,HP.done] using hd
  have hk:=g.1.k
  by_cases ho:p.one=true
  ·refine⟨fun s hs=>?_,?_⟩
   ·have:=hs.1; rw[ho] at this; cases this
   ·show p.em m c=m
    rw[HP.em_def,if_neg (by simp[ho])]
  ·have ho:p.one=false:=by simpa using ho
   have hb:badB p.x=false:=by simp[HP.one] at ho; exact ho.1
   have h9:p.x.kind≠9:=by simp[HP.one] at ho; exact ho.2
   by_cases h8:p.x.kind=8
   ·have:=(HP.poll_of hb h8).2
    refine⟨fun s hs=>?_,?_⟩
    ·have h2:=hs.2; rw[if_pos h8] at h2; omega
    ·show p.em m c=m
     rw[HP.em_def,if_neg (by simp[h8])]
   ·have:=(HP.kind_of hb h9 h8).2
    refine⟨fun s hs=>?_,?_⟩
    ·have h2:=hs.2; rw[if_neg h8] at h2; omega
    ·show p.em m c=m
     rw[HP.em_def,if_neg (by omega)]
theorem Idle.w {p:WP}(m:Mine)(c:Cfg)(h:p.at_=0):Idle (.w p) m c:=⟨fun s hs=>by have:=hs.2.1; omega,rfl⟩
def wd0 (c:Cfg)(n:Nat):Wd:=⟨hall0 c n,fun _=>none,fun _=>[]⟩
theorem LI.init {c:Cfg}{n:Nat}:LI (wd0 c n) (tbl0 c n):=by
 refine⟨rfl,rfl,rfl,fun s hs=>.inl ⟨rfl,rfl,rfl,rfl⟩,fun i p s _ h=>by simp[wd0] at h,fun i p h=>by simp[wd0] at h,⟨fun i hi=>?_,fun s i u hs hi hu=>?_⟩⟩
 ·have:allWs (tbl0 c n) i=[]:=by
   unfold allWs
   rw[List.flatMap_eq_nil_iff]
   intro s _
   rfl
  rw[this]; exact List.Perm.refl _
 ·simp[tbl0,feed0,wsOf] at hu
theorem TS.init {c:Cfg}(cw:CfgW c)(hr:rightB c=true){n:Nat}(hn:(n:Int)=c.stripes):TS 0 (tbl0 c n):=(HS.new cw hr hn).tbl
theorem LI.start {W:Wd}{M:Tbl}(x:LI W M){i:Nat}{p:PR}(hp:PA W.H.n i W.H.c p)(h0:Idle p (W.ms i) W.H.c)(hi:∀ q,W.ps i=some q→Idle q (W.ms i) W.H.c):LI { W with ps:=bset W.ps i (some p) } M:=by
 have hP:∀ j,bset W.ps i (some p) j=if j=i then some p else W.ps j:=fun j=>rfl
 refine⟨x.t,x.c,x.n,fun s hs=>?_,fun j q s hs hq hh=>?_,fun j q hq=>?_,?_⟩
 ·rcases x.st s hs with h | ⟨j,q,h1,h2,h3,h4⟩
  ·exact .inl h
  ·have hji:j≠i:=fun h=>by subst h; exact (hi q h1).h s h2
   exact .inr ⟨j,q,by show bset _ _ _ _=_; rw[hP,if_neg hji]; exact h1,h2,h3,h4⟩
 ·have hq:bset W.ps i (some p) j=some q:=hq
  rw[hP] at hq
  split at hq
  ·simp only[Option.some.injEq] at hq; subst hq; exact absurd hh (h0.h s)
  ·exact x.own j q s hs hq hh
 ·have hq:bset W.ps i (some p) j=some q:=hq
  rw[hP] at hq
  split at hq
  ·rename_i h; simp only[Option.some.injEq] at hq; subst hq; subst h; exact hp
  ·exact x.pa j q hq
 ·refine x.ws.same rfl rfl (fun _ _=>rfl) fun j hj=>?_
  unfold Wd.em
  show (match bset W.ps i (some p) j with | some p=>p.em (W.ms j) W.H.c | none=>W.ms j)=_
  rw[hP]
  by_cases h:j=i
  ·subst h
   rw[if_pos rfl]
   dsimp only
   rw[h0.e]
   cases hq:W.ps j with
   | none=>rfl
   | some q=>exact (hi q hq).e.symm
  ·rw[if_neg h]<;>rfl
theorem LI.other {W:Wd}{M M':Tbl}{H':Hall}(x:LI W M)(h1:H'.ss=W.H.ss)(h2:H'.c=W.H.c)(h3:H'.n=W.H.n)(t:M'.t=H'.t)(m1:M'.c=M.c)(m2:M'.n=M.n)(m3:M'.bk=M.bk)(m4:M'.fd=M.fd):LI { W with H:=H' } M':=by
 have hst:∀ s,M'.st s=M.st s:=fun s=>by simp[Tbl.st,m3,m4]
 refine⟨t,m1.trans (x.c.trans h2.symm),m2.trans (x.n.trans h3.symm),fun s hs=>?_,fun j q s hs hq hh=>?_,fun j q hq=>?_,?_⟩
 ·have hs:s<W.H.n:=by rw[← h3]; exact hs
  show Free (H'.ss s) _∨_
  rw[hst,h1]
  rcases x.st s hs with h | ⟨j,q,g1,g2,g3,g4⟩
  ·exact .inl h
  ·exact .inr ⟨j,q,g1,g2,g3,by show Held q (W.ms j) H'.c s _ _; rw[h2]; exact g4⟩
 ·show (H'.ss s).who=_
  rw[h1]; exact x.own j q s (by rw[← h3]; exact hs) hq hh
 ·show PA H'.n j H'.c q
  rw[h2,h3]; exact x.pa j q hq
 ·refine x.ws.same m2 m1 (fun s _=>by rw[m4]) fun j hj=>?_
  unfold Wd.em
  show (match W.ps j with | some p=>p.em (W.ms j) H'.c | none=>W.ms j)=_
  rw[h2]<;>rfl
theorem LI.pass {W:Wd}{M:Tbl}(x:LI W M)(who b:Int):LI { W with H:=W.H.pass who b } (M.tick b):=x.other rfl rfl rfl (by simp[Tbl.tick,Hall.pass,Hall.did,x.t]) rfl rfl rfl rfl
theorem LI.rest {W:Wd}{M:Tbl}(x:LI W M){s:Nat}(hs:s<W.H.n)(h:∀ i p,W.ps i=some p→¬ p.holds s):Free (W.H.ss s) (M.st s):=by
 rcases x.st s hs with h' | ⟨i,p,h1,h2,_⟩
 ·exact h'
 ·exact absurd h2 (h i p h1)
theorem LI.free_iff {W:Wd}{M:Tbl}(x:LI W M){s:Nat}(hs:s<W.H.n):(W.H.ss s).who=0↔∀ i p,W.ps i=some p→¬ p.holds s:=by
 constructor
 ·intro h i p hp hh
  have:=x.own i p s hs hp hh; omega
 ·intro h; exact (x.rest hs h).wh
end Go.Den
namespace Go.Proofs.YtcnphhhcknhhaaaGreat
open Go Go.Den Go.MapKept
set_option linter.unusedSimpArgs false
set_option linter.unusedVariables false
set_option maxRecDepth 20000
def UW (t:Tag):Prop:=pre [1] t∨pre [2] t
theorem UW.nil:¬ UW []:=by rintro (h | h)<;>simp[pre] at h
theorem UW.two (i:Nat){t:Tag}(h:two (pre [2,i]) (pre [1]) t):UW t:=h.elim (fun h=>.inr (pre_trans (g:=[2]) (s:=[i]) h)) .inl
theorem g2i (i:Nat):Gd [2,i]:=⟨1,[i],rfl⟩
theorem d12i (i:Nat):Off (pre [1]) [2,i]:=off_pre (g:=[]) (x:=[1]) (y:=[2,i]) (by simp) (by simp)
theorem d2i1 (i:Nat):Off (pre [2,i]) [1]:=off_pre (g:=[]) (x:=[2,i]) (y:=[1]) (by simp) (by simp)
theorem d2ij {i j:Nat}(h:i≠j):Off (pre [2,i]) [2,j]:=off_pre (g:=[2]) (x:=[i]) (y:=[j]) (by simpa using h) (by simpa using Ne.symm h)
theorem dtwo {i j:Nat}(h:i≠j):Off (two (pre [2,i]) (pre [1])) [2,j]:=fun t ht hh=>hh.elim (d2ij h t ht) (d12i j t ht)
def PRm (T:Tags)(h:Heap)(g:Tag)(q:Nat):PR→Prop
 | .w p=>WPR T h g q p
 | .r p=>RPR T h g q p
 | .h _=>False
theorem PRm.kp {U:Tag→Prop}{T T':Tags}{h h':Heap}{g:Tag}{q:Nat}{p:PR}(x:PRm T h g q p)(k:Kp U T h T' h')(o:Off U g)(n:¬ U []):PRm T' h' g q p:=by
 cases p with
 | w p=>exact WPR.kp x k o n
 | r p=>exact RPR.kp x k o n
 | h p=>exact x
structure WdM (T:Tags)(h:Heap)(hp:Nat)(A:Nat→Nat)(W:Wd):Prop where
 hl:HallR T h [1] hp W.H
 ps:∀ i p,W.ps i=some p→PRm T h [2,i] (A i) p
theorem WdM.up {U:Tag→Prop}{T T':Tags}{h h':Heap}{hp:Nat}{A:Nat→Nat}{W:Wd}(x:WdM T h hp A W)(o:Only U T h T' h')(f:∀ t,UW t→¬ U t)(n:¬ U []):WdM T' h' hp A W :=
 ⟨x.hl.up o (fun t ht=>f t (.inl ht)) n,fun i p hp=>(x.ps i p hp).kp o.k (fun t ht=>f t (.inr (pre_trans (g:=[2]) (s:=[i]) ht))) n⟩
structure WdK (k:Nat)(W:Wd)(M:Tbl):Prop where
 li:LI W M
 hs:HS k W.H
 ts:TS k M
theorem WdK.step {k:Nat}{W:Wd}{M:Tbl}(x:WdK k W M)(hk:k<100000){i:Nat}{p:PR}(hp:W.ps i=some p)(n:Int):WdK (k+1) (W.step i n) (p.tb W.H M) :=
 have y:=x.li.step x.hs hk x.ts hp n
 ⟨y.1,y.2.1,y.2.2⟩
theorem WdM.put {U:Tag→Prop}{T T':Tags}{h h':Heap}{hp i:Nat}{A:Nat→Nat}{W:Wd}{p:PR}(x:WdM T h hp A W)(o:Only U T h T' h')(u:∀ j,j≠i→Off U [2,j])(n:¬ U []){k:Int}(hp':W.ps i=some p)
  (y':HallR T' h' [1] hp (p.step (W.ms i) W.H k).2.2) (x':PRm T' h' [2,i] (A i) (p.step (W.ms i) W.H k).1):WdM T' h' hp A (W.step i k):=by
 refine⟨?_,fun j q hq=>?_⟩
 ·have:(W.step i k).H=(p.step (W.ms i) W.H k).2.2:=by simp only[Wd.step,hp']
  rw[this]; exact y'
 ·have hP:(W.step i k).ps j=if j=i then some (p.step (W.ms i) W.H k).1 else W.ps j:=by simp only[Wd.step,hp',bset]
  rw[hP] at hq
  split at hq
  ·rename_i hj; subst hj
   simp -implicitDefEqProofs only[Option.some.injEq] at hq; subst hq
   exact x'
  ·rename_i hj
   exact (x.ps j q hq).kp o.k (u j hj) n
variable {K:KTy}
theorem wdstep_w {T:Tags}{h:Heap}{hp k i:Nat}{A:Nat→Nat}{W:Wd}{M:Tbl}{p:WP}(n:Int)(w:Wf T h)(x:WdM T h hp A W)(y:WdK k W M)(hk:k<100000)(hp':W.ps i=some (.w p))
  (hK:∀ T' h',Only UW T h T' h'→WdM T' h' hp A (W.step i n)→K (.tuple #[]) h'):callM P qbsZ #[ptr (A i),ptr hp,.int .i64 n] h K:=by
 have hpa:=y.li.pa i _ hp'
 refine wstep_ok n w g1 (d12i i) (d2i1 i) (g2i i) (x.ps i _ hp') x.hl y.hs hk hpa.1 fun T' h' o x' y'=>?_
 exact hK T' h' (o.mono fun _=>UW.two i) (x.put o (fun j hj=>dtwo (Ne.symm hj)) (by rintro (h | h)<;>simp[pre] at h) hp' y' x')
theorem wdnew_w {T:Tags}{h:Heap}{hp k i:Nat}{A:Nat→Nat}{W:Wd}{M:Tbl}(hi:i≤900)(o:OpD)(ow:OpW o)(hl:o.users.length<1000000){v:Value}(hv:Sl 1 StrR (fz T h) v o.users)(w:Wf T h)(x:WdM T h hp A W)(y:WdK k W M)(hi':∀ q,W.ps i=some q→Idle q (W.ms i) W.H.c)
  (hK:∀ T' h' q,Only non T h T' h'→WdM T' h' hp (bset A i q) { W with ps:=bset W.ps i (some (.w (wp0 W.H i o))) }→WdK k { W with ps:=bset W.ps i (some (.w (wp0 W.H i o))) } M→K (ptr q) h'):callM P qhHZ #[ptr hp,.int .i64 i,.agg (opC o v).toArray] h K:=by
 have n8:=y.hs.n8
 have nn:=y.hs.nn
 refine wnew_ok i o ow w (g2i i) x.hl hv hl (by omega) fun T' h' q o' nq x'=>?_
 have hst:=stripeOf_lt (u:=o.user) (n:=W.H.c.stripes) (by omega)
 have hsn:(stripeOf o.user W.H.c.stripes).toNat<W.H.n:=by omega
 refine hK T' h' q o' ⟨x.hl.up o' (Off.non _) (not_non _),fun j p hj=>?_⟩ ⟨y.li.start ?_ (Idle.w _ _ rfl) hi',y.hs,y.ts⟩
 ·have hj:bset W.ps i (some (.w (wp0 W.H i o))) j=some p:=hj
  by_cases hji:j=i
  ·subst hji
   rw[bset_same] at hj ⊢
   simp -implicitDefEqProofs only[Option.some.injEq] at hj; subst hj
   exact x'
  ·rw[bset_ne hji] at hj ⊢
   exact (x.ps j p hj).kp o'.k (Off.non _) (not_non _)
 ·refine⟨sect_g hsn (by omega) fun z hz=>?_,rfl,by simp[wp0,sect],fun z hz=>?_⟩
  ·split at hz
   ·cases hz
   ·cases hz; exact ow
  ·have hz:(if badB o then WK.bad else .op o) = .op z:=hz
   split at hz
   ·cases hz
   ·cases hz; rfl
theorem wd0M {T:Tags}{h:Heap}{hp:Nat}{c:Cfg}{n:Nat}(x:HallR T h [1] hp (hall0 c n))(A:Nat→Nat):WdM T h hp A (wd0 c n):=⟨x,fun i p h=>by simp[wd0] at h⟩
theorem wd0K {c:Cfg}(cw:CfgW c)(hr:rightB c=true){n:Nat}(hn:(n:Int)=c.stripes):WdK 0 (wd0 c n) (tbl0 c n):=⟨LI.init,HS.new cw hr hn,TS.init cw hr hn⟩
end Go.Proofs.YtcnphhhcknhhaaaGreat
namespace Go.Proofs.YtcnphhhcknhhaaaGreat
open Go Go.Den Go.MapKept
set_option linter.unusedSimpArgs false
set_option linter.unusedVariables false
set_option maxRecDepth 20000
theorem take_eq_succ {α:Type}{xs ys:List α}{i:Nat}(h:xs.take i=ys.take i)(h1:i<xs.length)(h2:i<ys.length)(e:xs[i]=ys[i]):xs.take (i+1)=ys.take (i+1):=by
 rw[List.take_succ_eq_append_getElem h1,List.take_succ_eq_append_getElem h2,h,e]
end Go.Proofs.YtcnphhhcknhhaaaGreat
namespace Go.Den
open Go
set_option linter.unusedVariables false
set_option linter.unusedSimpArgs false
def AR (W:Wd)(i:Nat):Prop:=∀ j q,j≠i→W.ps j=some q→∀ s,¬ q.holds s
def wkOf (x:OpD):WK:=if badB x then .bad else .op x
theorem wkOf_bad (x:OpD):(wkOf x).isBad=badB x:=by unfold wkOf; split<;>simp_all [WK.isBad]
def wPl (x:OpD)(k:Nat):Bool:=if badB x then decide (0<k) else decide (2<k)
structure AW (i k:Nat)(W:Wd)(M M0:Tbl)(x:OpD)(p:WP):Prop where
 hp:W.ps i=some (.w p)
 ar:AR W i
 kk:p.k=wkOf x
 at_:p.at_=if badB x then (if k=0 then 0 else 7) else k
 m:M=if wPl x k then ((wkOf x).bef p.s M0).1 else M0
 po:WO p W.H (if wPl x k then ((wkOf x).bef p.s M0).2 else rep0)
theorem AR.step {W:Wd}{i:Nat}(x:AR W i)(n:Int):AR (W.step i n) i:=fun j q hj hq=>by
 unfold Wd.step at hq
 split at hq
 ·simp only[bset_ne hj] at hq; exact x j q hj hq
 ·exact x j q hj hq
theorem AW.en {i k:Nat}{W:Wd}{M M0:Tbl}{x:OpD}{p:WP}(a:AW i k W M M0 x p)(li:LI W M)(hk:k<7):p.enabled W.H=true↔(badB x=true→k=0):=by
 have hg:=(li.pa i _ a.hp).1
 have hat:=a.at_
 unfold WP.enabled WP.done WP.waits
 rw[a.kk,wkOf_bad]
 by_cases hb:badB x=true
 ·by_cases h0:k=0
  ·simp[hb,h0,hat]
  ·simp[hb,h0,hat]
 ·have hb:badB x=false:=by simpa using hb
  simp only[hb,Bool.false_eq_true,if_false] at hat
  simp only[hb,Bool.false_eq_true,false_or,false_implies,iff_true]
  by_cases h0:0<p.at_
  ·simp[h0]; omega
  ·have hf:(W.H.ss p.s).who=0:=(li.free_iff hg.s).2 fun j q hq hh=>by
    by_cases hj:j=i
    ·subst hj
     rw[a.hp] at hq; cases hq
     have:=hh.2.1; omega
    ·exact a.ar j q hj hq _ hh
   simp[h0,hf]; omega
theorem AW.step {i k m j:Nat}{W:Wd}{M M0:Tbl}{x:OpD}{p:WP}(a:AW i k W M M0 x p)(li:LI W M)(hs:HS m W.H)(ts:TS j M)(hk:k<7)(n:Int) :
  AW i (k+1) (W.step i n) ((PR.w p).tb W.H M) M0 x (p.step W.H n).1:=by
 have hen:=a.en li hk
 have hst:W.step i n=⟨(p.step W.H n).2,bset W.ps i (some (.w (p.step W.H n).1)),bset W.ms i (W.ms i)⟩:=by simp only[Wd.step,a.hp,PR.step]
 have hk3:=wstep_k p W.H n
 have po:=li.po_step hs ts a.hp n (r:=if wPl x k then ((wkOf x).bef p.s M0).2 else rep0) a.po
 have po:WO (p.step W.H n).1 (p.step W.H n).2 (if p.enabled W.H=true∧p.places=true then (p.k.bef p.s M).2 else (if wPl x k then ((wkOf x).bef p.s M0).2 else rep0)):=po
 have hm:=a.m
 have hat:=a.at_
 refine⟨by rw[hst]; exact bset_same _ _ _,a.ar.step n,by rw[hk3.1]; exact a.kk,?_,?_,?_⟩
 ·by_cases he:p.enabled W.H=true
  ·have hc:=hen.1 he
   by_cases hb:badB x=true
   ·have hkb:p.k.isBad=true:=by rw[a.kk,wkOf_bad]; exact hb
    simp[hb,WP.step,he,hkb]
   ·have hkb:p.k.isBad=false:=by rw[a.kk,wkOf_bad]; simpa using hb
    have e1:p.step W.H n=p.stp W.H n:=by simp[WP.step,he,hkb]
    rw[e1,stp_at p W.H n (enabled_at he),hat]
    simp[hb]
  ·have e1:p.step W.H n=(p,W.H):=by simp[WP.step,he]
   rw[e1,hat]
   have:badB x=true∧k≠0:=by
    rw[hen] at he
    by_cases hb:badB x=true
    ·exact⟨hb,fun h=>he fun _=>h⟩
    ·exact absurd (fun h=>absurd h hb) he
   simp[this]
 ·rw[hk3.2.2]
  simp only[PR.tb,PR.enabled,PR.places,PR.bef,WP.places,a.kk,wkOf_bad,Bool.or_eq_true,decide_eq_true_eq]
  by_cases hb:badB x=true
  ·by_cases h0:k=0
   ·rw[if_pos ⟨hen.2 fun _=>h0,.inl hb⟩,hm]; simp[wPl,hb,h0]
   ·rw[if_neg (fun h=>h0 (hen.1 h.1 hb)),hm]; simp[wPl,hb]; omega
  ·have hb:badB x=false:=by simpa using hb
   simp only[hb,Bool.false_eq_true,if_false] at hat
   by_cases h2:k=2
   ·rw[if_pos ⟨hen.2 (by simp[hb]),.inr (by omega)⟩,hm]; simp[wPl,hb,h2]
   ·rw[if_neg (by rw[hb,hat]; simp[h2]),hm]
    by_cases h3:2<k
    ·simp[wPl,hb,h3]; omega
    ·have:¬ 2<k+1:=by omega
     simp[wPl,hb,h3,this]
 ·have hWH:(W.step i n).H=(p.step W.H n).2:=by rw[hst]
  rw[hk3.2.2,hWH]
  simp only[WP.places,a.kk,wkOf_bad,Bool.or_eq_true,decide_eq_true_eq] at po
  by_cases hb:badB x=true
  ·by_cases h0:k=0
   ·rw[if_pos ⟨hen.2 fun _=>h0,.inl hb⟩,hm] at po; simpa [wPl,hb,h0] using po
   ·rw[if_neg (fun h=>h0 (hen.1 h.1 hb))] at po
    have:0<k:=by omega
    simpa [wPl,hb,this] using po
  ·have hb:badB x=false:=by simpa using hb
   simp only[hb,Bool.false_eq_true,if_false] at hat
   by_cases h2:k=2
   ·rw[if_pos ⟨hen.2 (by simp[hb]),.inr (by omega)⟩,hm] at po; simpa [wPl,hb,h2] using po
   ·rw[if_neg (by rw[hb,hat]; simp[h2])] at po
    by_cases h3:2<k
    ·have:2<k+1:=by omega
     simpa [wPl,hb,h3,this] using po
    ·have:¬ 2<k+1:=by omega
     simpa [wPl,hb,h3,this] using po
theorem AW.init {W:Wd}{i:Nat}(ar:AR W i)(M:Tbl)(x:OpD)(s:Nat):AW i 0 { W with ps:=bset W.ps i (some (.w (sect i s (wkOf x)))) } M M x (sect i s (wkOf x)) :=
 ⟨bset_same _ _ _,fun j q hj hq=>ar j q hj (by rw[← hq]; exact (bset_ne hj).symm),rfl,by simp[sect],by simp[wPl],⟨fun _=>.inl rfl,fun _ h=>by simp[sect] at h⟩⟩
theorem AW.done {i:Nat}{W:Wd}{M M0:Tbl}{x:OpD}{p:WP}(a:AW i 7 W M M0 x p):p.done=true∧(∀ j q,W.ps j=some q→∀ s,¬ q.holds s)∧M=((wkOf x).bef p.s M0).1∧repE p.err=((wkOf x).bef p.s M0).2:=by
 have hat:p.at_=7:=by have:=a.at_; split at this<;>simpa using this
 have hpl:wPl x 7=true:=by unfold wPl; split<;>simp
 refine⟨by simp[WP.done,hat],fun j q hq s hh=>?_,by have:=a.m; rwa [if_pos hpl] at this,?_⟩
 ·by_cases hj:j=i
  ·subst hj
   rw[a.hp] at hq; cases hq
   have:=hh.2.2.1; omega
  ·exact a.ar j q hj hq s hh
 ·have po:=a.po
  rw[if_pos hpl] at po
  by_cases hb:p.k.isBad=true
  ·rcases po.b hb with h | h
   ·omega
   ·rw[h.2.2,h.2.1]
  ·have:=po.g (by simpa using hb) (by omega)
   rw[if_neg (by omega)] at this
   exact this.symm
theorem bef_do {M:Tbl}{x:OpD}{s:Nat}(hk:x.kind=1∨x.kind=2∨x.kind=3){i:Nat}(hi:i<8):(wkOf x).bef s M=M.do_ i x:=by
 have hc:clientB (i:Int)=true:=by simp[clientB]; omega
 unfold wkOf Tbl.do_
 by_cases hb:badB x=true
 ·simp[hb,WK.bef]
 ·simp[hb,hc,hk,WK.bef]
structure SL (N k:Nat)(p:SwP)(W:Wd):Prop where
 hp:W.ps 8=some (.w p.now)
 sa:SwA N k p W.H
 ar:AR W 8
theorem SL.init {W:Wd}{N:Nat}{M:Tbl}(li:LI W M)(ar:∀ j q,W.ps j=some q→∀ s,¬ q.holds s)(hn:W.H.n=N)(n0:0<N):SL N 0 SwP.new { W with ps:=bset W.ps 8 (some (.w SwP.new.now)) } :=
 ⟨bset_same W.ps 8 (some (.w SwP.new.now)),SwA.new hn n0 fun s hs=>(li.free_iff (by omega)).2 fun i q hq=>ar i q hq s,fun j q hj hq=>ar j q (by rw[← hq]; exact (bset_ne hj).symm)⟩
theorem SL.start {W:Wd}{M:Tbl}(li:LI W M)(ar:∀ q,W.ps 8=some q→Idle q (W.ms 8) W.H.c){s:Nat}(hs:s<W.H.n):LI { W with ps:=bset W.ps 8 (some (.w (sect 8 s .sweep))) } M:=by
 refine li.start ⟨sect_g hs (by omega) (by simp),rfl,by simp[sect],by simp[sect]⟩ (Idle.w _ _ rfl) ar
theorem SL.step {N k m j:Nat}{p:SwP}{W:Wd}{M:Tbl}(x:SL N k p W)(li:LI W M)(hs:HS m W.H)(hm:m<100000)(ts:TS j M)(n:Int) :
  ∃ W',W'.H=(p.step W.H n).2.1∧SL N (k+1) (p.step W.H n).1 W'∧LI W' (if k % 7=2 then M.sweep (k / 7 % N:Nat) else M)∧HS (m+1) W'.H∧TS (j+1) (if k % 7=2 then M.sweep (k / 7 % N:Nat) else M):=by
 have sa:=x.sa
 obtain⟨s1,s2,s3⟩:=sa.step n
 have hen:=sa.en
 have hb:p.now.k.isBad=false:=by rw[sa.kk]; rfl
 obtain⟨l1,l2,l3⟩:=li.step hs hm ts x.hp n
 have htb:(PR.w p.now).tb W.H M=if k % 7=2 then M.sweep (k / 7 % N:Nat) else M:=by
  simp only[PR.tb,PR.enabled,PR.places,PR.bef,WP.places,sa.kk,WK.isBad,Bool.false_or,decide_eq_true_eq,sa.at_,hen,true_and,WK.bef,sa.e,sa.st]
 rw[htb] at l1 l3
 have hst:W.step 8 n=⟨(p.now.step W.H n).2,bset W.ps 8 (some (.w (p.now.step W.H n).1)),bset W.ms 8 (W.ms 8)⟩:=by simp only[Wd.step,x.hp,PR.step]
 have hH:(W.step 8 n).H=(p.step W.H n).2.1:=by
  rw[hst]; unfold SwP.step; dsimp only; split<;>rfl
 by_cases h6:(p.now.step W.H n).1.done=true
 ·have hnw:∃ s',s'<W.H.n∧(p.step W.H n).1.now=sect 8 s' .sweep:=by
   have hps:=sa.st
   have hn:=sa.hn
   have:=Nat.mod_lt (k / 7) sa.n0
   unfold SwP.step; dsimp only; rw[if_pos h6]
   unfold SwP.nxt; dsimp only
   split
   ·exact⟨0,by have:=sa.n0; omega,rfl⟩
   ·exact⟨p.stripe+1,by omega,rfl⟩
  obtain⟨s',hs',hnw⟩:=hnw
  have hWn:(W.step 8 n).H.n=W.H.n:=by rw[hst]; exact (wstep_n p.now W.H n).1
  refine⟨{ W.step 8 n with ps:=bset (W.step 8 n).ps 8 (some (.w (p.step W.H n).1.now)) },hH,⟨bset_same (W.step 8 n).ps 8 (some (.w (p.step W.H n).1.now)),by rw[show Wd.H _=_ from hH]; exact s1,fun jj q hj hq=>x.ar.step n jj q hj (by rw[← hq]; exact (bset_ne hj).symm)⟩,?_,l2,l3⟩
  rw[hnw]
  refine SL.start l1 (fun q hq=>?_) (by omega)
  have hq:some (PR.w (p.now.step W.H n).1)=some q:=by rw[← hq,hst]; exact (bset_same W.ps 8 _).symm
  cases hq
  refine Idle.done (n:=W.H.n) (i:=8) ?_ h6 hs.n8.1
  have:=l1.pa 8 (.w (p.now.step W.H n).1) (by rw[hst]; exact bset_same W.ps 8 _)
  rw[hWn] at this; exact this
 ·refine⟨W.step 8 n,hH,⟨?_,by rw[hH]; exact s1,x.ar.step n⟩,l1,l2,l3⟩
  rw[hst]
  unfold SwP.step; dsimp only; rw[if_neg h6]
  exact bset_same W.ps 8 _
end Go.Den
namespace Go.Proofs.YtcnphhhcknhhaaaGreat
open Go Go.Den Go.MapKept
set_option linter.unusedSimpArgs false
set_option linter.unusedVariables false
set_option maxRecDepth 20000
def WrO (W:Wd):Prop:=∀ j q,W.ps j=some q→(∃ p,q = .w p)∧∀ s,¬ q.holds s
structure RW (T0:Tags)(h0:Heap)(hp m N:Nat)(c:Cfg)(W:Wd)(M:Tbl)(T':Tags)(h':Heap):Prop where
 o:Only UW T0 h0 T' h'
 x:∃ A,WdM T' h' hp A W
 k:WdK m W M
 r:WrO W
 n:W.H.n=N
 c:W.H.c=c
theorem RW.hl {T0:Tags}{h0:Heap}{hp m N:Nat}{c:Cfg}{W:Wd}{M:Tbl}{T':Tags}{h':Heap}(y:RW T0 h0 hp m N c W M T' h'):HallR T' h' [1] hp W.H:=let ⟨_,x⟩:=y.x; x.hl
theorem RW.idle {T0:Tags}{h0:Heap}{hp m N:Nat}{c:Cfg}{W:Wd}{M:Tbl}{T':Tags}{h':Heap}(y:RW T0 h0 hp m N c W M T' h'){j:Nat}{q:PR}(h:W.ps j=some q)(ms:Mine):Idle q ms W.H.c:=by
 obtain⟨⟨p,rfl⟩,h2⟩:=y.r j q h
 exact⟨h2,rfl⟩
theorem RW.init {T:Tags}{h:Heap}{hp:Nat}{c:Cfg}(cw:CfgW c)(hr:rightB c=true)(w:Wf T h)(y:HallR T h [1] hp (hall0 c c.stripes.toNat)):RW T h hp 0 c.stripes.toNat c (wd0 c c.stripes.toNat) (tbl0 c c.stripes.toNat) T h :=
 ⟨Only.refl w,⟨fun _=>0,wd0M y _⟩,wd0K cw hr (cfg_nn hr).1,fun j q h=>by simp[wd0] at h,rfl,rfl⟩
structure AwI (T0:Tags)(h0:Heap)(hp q i k m N:Nat)(c:Cfg)(x:OpD)(M0:Tbl)(T':Tags)(h':Heap):Prop where
 o:Only UW T0 h0 T' h'
 e:∃ (W:Wd) (M:Tbl) (p:WP) (A:Nat→Nat),WdM T' h' hp A W∧A i=q∧WdK (m+k) W M∧AW i k W M M0 x p∧p.s=(stripeOf x.user c.stripes).toNat∧(∀ j q,W.ps j=some q→∃ p,q = .w p)∧W.H.n=N∧W.H.c=c
variable {K:KTy}
theorem aw_new {T0:Tags}{h0:Heap}{hp m N:Nat}{c:Cfg}{W:Wd}{M:Tbl}{T':Tags}{h':Heap}(y:RW T0 h0 hp m N c W M T' h'){i:Nat}(hi:i≤900)(x:OpD)(xw:OpW x)(hl:x.users.length<1000000){v:Value}(hv:Sl 1 StrR (fz T' h') v x.users)
  (hk:∀ T'' h'' q,AwI T0 h0 hp q i 0 m N c x M T'' h''→K (ptr q) h''):callM P qhHZ #[ptr hp,.int .i64 i,.agg (opC x v).toArray] h' K:=by
 obtain⟨A,xm⟩:=y.x
 refine wdnew_w hi x xw hl hv y.o.wf xm y.k (fun q hq=>y.idle hq _) fun T2 h2 q o2 x2 k2=>?_
 refine hk T2 h2 q ⟨y.o.up o2 non_up,_,M,wp0 W.H i x,bset A i q,x2,bset_same _ _ _,k2,?_,?_,fun j q hq=>?_,y.n,y.c⟩
 ·exact AW.init (fun j q hj hq=>(y.r j q hq).2) M x _
 ·show (stripeOf x.user W.H.c.stripes).toNat=_; rw[y.c]
 ·by_cases hj:j=i
  ·subst hj
   have hq:bset W.ps j _ j=some q:=hq
   rw[bset_same] at hq; cases hq; exact⟨_,rfl⟩
  ·have hq:bset W.ps i _ j=some q:=hq
   rw[bset_ne hj] at hq; exact (y.r j q hq).1
theorem aw_step {T0:Tags}{h0:Heap}{hp q i k m N:Nat}{c:Cfg}{x:OpD}{M0:Tbl}{T':Tags}{h':Heap}(y:AwI T0 h0 hp q i k m N c x M0 T' h')(hk7:k<7)(hm:m+k<100000)(n:Int)
  (hk:∀ T'' h'',AwI T0 h0 hp q i (k+1) m N c x M0 T'' h''→K (.tuple #[]) h''):callM P qbsZ #[ptr q,ptr hp,.int .i64 n] h' K:=by
 obtain⟨o,W,M,p,A,xm,rfl,wk,aw,hs,hw,hn,hc⟩:=y
 refine wdstep_w n o.wf xm wk hm aw.hp fun T2 h2 o2 x2=>?_
 have hst:W.step i n=⟨(p.step W.H n).2,bset W.ps i (some (.w (p.step W.H n).1)),bset W.ms i (W.ms i)⟩:=by simp only[Wd.step,aw.hp,PR.step]
 have hnc:=wstep_n p W.H n
 refine hk T2 h2 ⟨o.trans o2,_,_,_,A,x2,rfl,wk.step hm aw.hp n,aw.step wk.li wk.hs wk.ts hk7 n,by rw[(wstep_k p W.H n).2.2]; exact hs,fun j q hq=>?_,by rw[hst]; exact hnc.1.trans hn,by rw[hst]; exact hnc.2.trans hc⟩
 rw[hst] at hq
 by_cases hj:j=i
 ·subst hj
  have hq:bset W.ps j _ j=some q:=hq
  rw[bset_same] at hq; cases hq; exact⟨_,rfl⟩
 ·have hq:bset W.ps i _ j=some q:=hq
  rw[bset_ne hj] at hq; exact hw j q hq
theorem aw_done {T0:Tags}{h0:Heap}{hp q i m N:Nat}{c:Cfg}{x:OpD}{M0:Tbl}{T':Tags}{h':Heap}(y:AwI T0 h0 hp q i 7 m N c x M0 T' h') :
  ∃ W p,RW T0 h0 hp (m+7) N c W ((wkOf x).bef (stripeOf x.user c.stripes).toNat M0).1 T' h'∧WPR T' h' [2,i] q p∧p.done=true∧repE p.err=((wkOf x).bef (stripeOf x.user c.stripes).toNat M0).2:=by
 obtain⟨o,W,M,p,A,xm,rfl,wk,aw,hs,hw,hn,hc⟩:=y
 obtain⟨d1,d2,d3,d4⟩:=aw.done
 rw[hs] at d3 d4
 subst d3
 exact⟨W,p,⟨o,⟨A,xm⟩,wk,fun j q hq=>⟨hw j q hq,d2 j q hq⟩,hn,hc⟩,xm.ps i _ aw.hp,d1,d4⟩
theorem rw_pass {T0:Tags}{h0:Heap}{hp m N:Nat}{c:Cfg}{W:Wd}{M:Tbl}{T':Tags}{h':Heap}(y:RW T0 h0 hp m N c W M T' h')(hm:m<100000)(who by_:Int)(hb:U64 by_)
  (hk:∀ T'' h'' W',RW T0 h0 hp (m+1) N c W' (M.tick by_) T'' h''→K (.tuple #[]) h''):callM P qfvZ #[ptr hp,.int .i64 who,.int .u64 by_] h' K:=by
 obtain⟨A,xm⟩:=y.x
 refine hpass_ok who by_ hb y.o.wf g1 xm.hl y.k.hs.tn (by have:=y.k.hs.ac; omega) fun T2 h2 o2 y2=>?_
 refine hk T2 h2 { W with H:=W.H.pass who by_ } ⟨y.o.trans (o2.mono fun _=>.inl),⟨A,y2,fun j p hp=>(xm.ps j p hp).kp o2.k (d12i j) (by simp[pre])⟩,⟨y.k.li.pass who by_,y.k.hs.pass who by_ hb,(y.k.ts.tick by_ hb).mono (by omega)⟩,y.r,y.n,y.c⟩
def U3 (t:Tag):Prop:=UW t∨pre [3] t
theorem U3.nil:¬ U3 []:=by rintro (h | h); exact UW.nil h; simp[pre] at h
theorem g3:Gd [3]:=⟨2,[],rfl⟩
theorem d13:Off (pre [1]) [3]:=off_pre (g:=[]) (x:=[1]) (y:=[3]) (by simp) (by simp)
theorem d31:Off (pre [3]) [1]:=off_pre (g:=[]) (x:=[3]) (y:=[1]) (by simp) (by simp)
structure SqI (T0:Tags)(h0:Heap)(hp pp k m N:Nat)(c:Cfg)(M:Tbl)(T':Tags)(h':Heap):Prop where
 o:Only U3 T0 h0 T' h'
 e:∃ (W:Wd) (p:SwP),HallR T' h' [1] hp W.H∧SwR T' h' [3] pp p∧SL N k p W∧WdK m W M∧SwG N p∧W.H.c=c
theorem sq_init {T0:Tags}{h0:Heap}{hp pp m N:Nat}{c:Cfg}{W:Wd}{M:Tbl}{T':Tags}{h':Heap}(y:RW T0 h0 hp m N c W M T' h')(n0:0<N)(x:SwR T' h' [3] pp SwP.new):SqI T0 h0 hp pp 0 m N c M T' h':=by
 have hn:=y.n
 subst hn
 exact⟨y.o.mono fun _=>.inl,{ W with ps:=bset W.ps 8 (some (.w SwP.new.now)) },SwP.new,y.hl,x,SL.init y.k.li (fun j q hq=>(y.r j q hq).2) rfl n0,⟨SL.start y.k.li (fun q hq=>y.idle hq _) n0,y.k.hs,y.k.ts⟩,SwG.new n0,y.c⟩
theorem sq_step {T0:Tags}{h0:Heap}{hp pp k m N:Nat}{c:Cfg}{M:Tbl}{T':Tags}{h':Heap}(y:SqI T0 h0 hp pp k m N c M T' h')(hm:m<100000)(hk0:k<100000)(n:Int)
  (hk:∀ T'' h'',SqI T0 h0 hp pp (k+1) (m+1) N c (if k % 7=2 then M.sweep (k / 7 % N:Nat) else M) T'' h''→K (.bool (decide (k % 7=6))) h''):callM P qbrZ #[ptr pp,ptr hp,.int .i64 n] h' K:=by
 obtain⟨o,W,p,hl,sw,sl,wk,sg,hc⟩:=y
 have hn:=sl.sa.hn
 have sg':SwG W.H.n p:=by rw[hn]; exact sg
 refine sstep_ok n o.wf g1 d13 d31 g3 sw hl wk.hs hm sg' fun T2 h2 o2 x2 y2=>?_
 obtain⟨W',w1,w2,w3,w4,w5⟩:=sl.step wk.li wk.hs hm wk.ts n
 rw[(sl.sa.step n).2.1]
 have hr:=sl.sa.ro
 have hr':p.rounds≤k:=by rw[hr]; exact Nat.le_trans (Nat.div_le_self _ _) (Nat.div_le_self _ _)
 refine hk T2 h2 ⟨o.trans (o2.mono fun t ht=>ht.elim .inr fun h=>.inl (.inl h)),W',_,by rw[w1]; exact y2,x2,w2,⟨w3,w4,w5⟩,?_,by rw[w1]; exact (sstep_n p W.H n).2.trans hc⟩
 have:=sg'.step wk.hs n (by omega)
 rw[hn] at this; exact this
theorem SqI.rest {T0:Tags}{h0:Heap}{hp pp k m N:Nat}{c:Cfg}{M:Tbl}{T':Tags}{h':Heap}(y:SqI T0 h0 hp pp k m N c M T' h')(h7:k % 7=0):∃ W p,HallR T' h' [1] hp W.H∧SwR T' h' [3] pp p∧WdK m W M∧W.H.n=N∧W.H.c=c∧(∀ s,s<N→Free (W.H.ss s) (M.st s))∧p.rounds=k / 7 / N:=by
 obtain⟨o,W,p,hl,sw,sl,wk,sg,hc⟩:=y
 have hn:=sl.sa.hn
 refine⟨W,p,hl,sw,wk,hn,hc,fun s hs=>wk.li.rest (by omega) fun j q hq=>?_,sl.sa.ro⟩
 by_cases hj:j=8
 ·subst hj
  rw[sl.hp] at hq; cases hq
  intro hh
  have:=sl.sa.at_
  have:=hh.2.1; omega
 ·exact sl.ar j q hj hq s
theorem RW.base {U:Tag→Prop}{T0:Tags}{h0:Heap}{hp m N:Nat}{c:Cfg}{W:Wd}{M:Tbl}{T' T'':Tags}{h' h'':Heap}(y:RW T0 h0 hp m N c W M T' h')(o:Only U T' h' T'' h'')(f:∀ t,UW t→¬ U t)(n:¬ U []):RW T'' h'' hp m N c W M T'' h'':=by
 obtain⟨A,x⟩:=y.x
 exact⟨Only.refl o.wf,⟨A,x.up o f n⟩,y.k,y.r,y.n,y.c⟩
theorem d3UW:∀ t,UW t→¬ pre [3] t:=fun t ht h=>ht.elim (fun h1=>off_pre (g:=[]) (x:=[1]) (y:=[3]) (by simp) (by simp) t h h1) (fun h2=>off_pre (g:=[]) (x:=[2]) (y:=[3]) (by simp) (by simp) t h h2)
def fewB (c:Cfg)(xs:List OpD)(l:Nat):Bool:=decide (xs.length≤7) && decide (l≤300) && rightB c && xs.all shortB
theorem opsAt {F:Heap}{v:Value}{xs:List OpD}(x:Sl 7 OpR F v xs){i:Nat}(hi:i<xs.length):∃ b p u,iaV (some (none,7)) v (.int .i64 i)=some (.pointer (some ⟨b,p,none⟩))∧(∀ h',Ext F h'→ldV (some (some 7)) (.pointer (some ⟨b,p,none⟩)) h'=some (.agg (opC xs[i] u).toArray))∧Sl 1 StrR F u xs[i].users∧OpW xs[i]:=by
 obtain⟨b,o,c,i1,i2,i3⟩:=x.at (k:=.i64) (i:=i) (by omega) (by omega)
 obtain⟨u,h1,h2,h3⟩:=i3
 simp -implicitDefEqProofs only[Int.toNat_natCast] at h1 h2 h3
 exact⟨b,o,u,i1,fun h' e=>by rw[ldV_n (cels_ext e i2),h1],h2,h3⟩
set_option maxHeartbeats 1000000 in
theorem few18_ok (c : Cfg) (xs : List OpD) (l : Nat) {h : Heap} {v tv : Value} (x : Sl 7 OpR h v xs) (hl : lnV 7 tv = some (.int .i64 l)) (hk : ∀ h', Ext h h' → K (.bool (fewB c xs l)) h') : callM P qhdZ #[.agg (cfgC c).toArray, v, tv] h K := by
  apply qrlZ
  unfold qhUZ
  have hlen := x.len
  refine nw_agg fun v1 h1 n1 e1 c1 => ?_
  have og : ldV (some (some 7)) (ptr v1) h1 = some (.agg (cfgC c).toArray) := by simp [ld_at c1, cfgC]
  by_cases h7 : xs.length ≤ 7
  rotate_left
  · have h7' : (7 : Int) < xs.length := by omega
    simp -implicitDefEqProofs [hlen, h7']
    refine kb (hk _ e1) (by simp [fewB, h7])
  have h7' : ¬ (7 : Int) < xs.length := by omega
  by_cases h3 : l ≤ 300
  rotate_left
  · have h3' : (300 : Int) < l := by omega
    simp -implicitDefEqProofs [hlen, hl, h7', h3']
    refine kb (hk _ e1) (by simp [fewB, h3])
  have h3' : ¬ (300 : Int) < l := by omega
  simp -implicitDefEqProofs [hlen, hl, h7', h3', og]
  refine refRight_ok c fun h2 e2 => ?_
  have e0 := e1.trans e2
  cases hr : rightB c with
  | false =>
    simp -implicitDefEqProofs
    refine kb (hk _ e0) (by simp [fewB, hr])
  | true =>
  simp -implicitDefEqProofs
  unfold qkUZ
  rw [seqM_eq]
  unfold qkTZ
  refine loop_on [1] (fun s h' => Ext h h' ∧ ∃ i : Nat, i ≤ xs.length ∧ s 7 = .int .i64 i ∧ s 6 = .bool false ∧ (xs.take i).all shortB = true) (fun s _ => (xs.length - num (s 7)).toNat) ⟨e0, 0, by omega, rfl, rfl, by simp⟩ ?_
  rintro s h4 hf ⟨e4, i, hi, s7, s6, hall⟩
  have s1 : s 1 = v := by simpa using hf 1 (by simp)
  unfold qkSZ
  simp -implicitDefEqProofs only [s1, hlen, s7, bin_lss, ov_s, cd_b]
  refine ⟨fun hc => ?_, fun hc => ?_⟩
  · have hlt : i < xs.length := by have : ((i : Int) < xs.length) := by simpa using hc
                                   omega
    have hw : IntKind.i64.wrap ((i : Int) + 1) = (i + 1 : Nat) := by rw [wrap64_id (by omega) (by omega)]; omega
    obtain ⟨b, p, u, i1, i2, i3, i4⟩ := opsAt x hlt
    unfold qkRZ
    simp -implicitDefEqProofs only [s1, s7, i1, i2 _ e4, ov_s]
    refine short_ok xs[i] (i3.ext (@StrR.ext) e4) fun h5 e5 => ?_
    unfold qkQZ
    cases hs : shortB xs[i] with
    | false =>
      simp -implicitDefEqProofs
      unfold qkOZ
      simp -implicitDefEqProofs
      have : xs.all shortB = false := by
        cases hh : xs.all shortB with
        | false => rfl
        | true => rw [List.all_eq_true] at hh; rw [hh _ (List.getElem_mem hlt)] at hs; cases hs
      refine kb (hk _ (e4.trans e5)) (by simp [fewB, this])
    | true =>
      simp -implicitDefEqProofs
      unfold qkPZ
      simp -implicitDefEqProofs [s1, s6, s7, hw, -Int.natCast_add]
      exact ⟨⟨e4.trans e5, i + 1, by omega, rfl, List.all_eq_true.1 (all_succ hlt hall hs)⟩, by omega⟩
  · have : i = xs.length := by have : ¬ ((i : Int) < xs.length) := by simpa using hc
                               omega
    subst this
    rw [List.take_of_length_le (Nat.le_refl _)] at hall
    simp -implicitDefEqProofs
    refine kb (hk _ e4) (by simp [fewB, h7, h3, hr, hall])
end Go.Proofs.YtcnphhhcknhhaaaGreat
namespace Go.Proofs.YtcnphhhcknhhaaaGreat
open Go Go.Den Go.MapKept
set_option linter.unusedSimpArgs false
set_option linter.unusedVariables false
set_option maxRecDepth 20000
def mdC (c:Cfg)(t:Tm)(bv fv:Value):List Value:=[.int .i64 c.stripes,.int .i64 c.sessions,.int .i64 c.queue,.int .i64 c.watches,.int .i64 c.retries,.int .u64 c.epochs,.int .u64 c.start,.int .u64 t.now,.int .u64 t.seq,.bool t.closed,bv,fv]
structure MdX (T:Tags)(h:Heap)(g:Tag)(p:Nat)(M:Tbl)(bv fv:Value)(K V:Nat→Value)(F:Nat→Nat):Prop where
 hp:h p=some (.cells (mdC M.c M.t bv fv).toArray qakZ (0,0))
 tp:T p=g++[0]
 bk:Rw T h (g++[1]) 2 qaZ bv M.n (seqF M.n fun i=>[K i,V i])
 fd:Rw T h (g++[2]) 1 qdOZ fv M.n (seqF M.n fun i=>[ptr (F i)])
 br:∀ s,s<M.n→BookR (fz T h) (K s) (V s) (M.bk s)
 fr:∀ s,s<M.n→FeedR T h (g++[3,s]) (F s) (M.fd s)
def MdR (T:Tags)(h:Heap)(g:Tag)(p:Nat)(M:Tbl):Prop:=∃ bv fv K V F,MdX T h g p M bv fv K V F
theorem MdX.kp {U:Tag→Prop}{T T':Tags}{h h':Heap}{g:Tag}{p:Nat}{M:Tbl}{bv fv:Value}{K V:Nat→Value}{F:Nat→Nat}(x:MdX T h g p M bv fv K V F)(k:Kp U T h T' h')(o:Off U g)(n:¬ U []):MdX T' h' g p M bv fv K V F :=
 ⟨(k.at x.hp x.tp (o.at [0])).1,(k.at x.hp x.tp (o.at [0])).2,x.bk.kp k (o.at [1]),x.fd.kp k (o.at [2]),fun s hs=>(x.br s hs).ext (k.ext n),fun s hs=>(x.fr s hs).kp k (o.app [3,s]) n⟩
theorem MdR.kp {U:Tag→Prop}{T T':Tags}{h h':Heap}{g:Tag}{p:Nat}{M:Tbl}(x:MdR T h g p M)(k:Kp U T h T' h')(o:Off U g)(n:¬ U []):MdR T' h' g p M:=by
 obtain⟨bv,fv,K,V,F,x⟩:=x
 exact⟨bv,fv,K,V,F,x.kp k o n⟩
theorem MdR.up {U:Tag→Prop}{T T':Tags}{h h':Heap}{g:Tag}{p:Nat}{M:Tbl}(x:MdR T h g p M)(k:Only U T h T' h')(o:Off U g)(n:¬ U []):MdR T' h' g p M:=x.kp k.k o n
theorem MdX.st {T:Tags}{h:Heap}{g:Tag}{p:Nat}{M M':Tbl}{bv fv:Value}{K V:Nat→Value}{F:Nat→Nat}(x:MdX T h g p M bv fv K V F)(w:Wf T h)(gg:Gd g){c:Array Value}(hc:c=(mdC M'.c M'.t bv fv).toArray)(h3:M'.n=M.n)(h4:M'.bk=M.bk)(h5:M'.fd=M.fd) :
  Only (fun t=>t=g++[0]) T h T (upd h p (.cells c qakZ (0,0)))∧MdX T (upd h p (.cells c qakZ (0,0))) g p M' bv fv K V F:=by
 have o:Only (fun t=>t=g++[0]) T h T (upd h p (.cells c qakZ (0,0))):=Only.upd w x.hp x.tp
 refine⟨o,by rw[upd_same',hc],x.tp,?_,?_,fun s hs=>?_,fun s hs=>?_⟩
 ·rw[h3]; exact x.bk.kp o.k (ne_tag (by simp))
 ·rw[h3]; exact x.fd.kp o.k (ne_tag (by simp))
 ·rw[h4]; exact (x.br s (by rw[← h3]; exact hs)).ext (o.ext (by simp))
 ·rw[h5]; exact (x.fr s (by rw[← h3]; exact hs)).kp o.k (off_eq (by simp)) (by simp)
theorem MdX.ldb {T:Tags}{h:Heap}{g:Tag}{p:Nat}{M:Tbl}{bv fv:Value}{K V:Nat→Value}{F:Nat→Nat}(x:MdX T h g p M bv fv K V F){s:Nat}(hs:s<M.n):∃ b,rowOf bv=some b∧iaV (some (none,2)) bv (.int .i64 s)=some (.pointer (some ⟨b,s*2,none⟩))∧ldV (some (some 2)) (.pointer (some ⟨b,s*2,none⟩)) h=some (.agg #[K s,V s]):=by
 obtain⟨b,h1,h2⟩:=x.bk.1.ia (k:=.i64) hs
 refine⟨b,h1,h2,?_⟩
 have hc:cels h b (s*2) 2=some [K s,V s]:=by
  rw[x.bk.1.cels h1 (by have:(s+1)*2≤M.n*2:=Nat.mul_le_mul_right _ hs; omega)]
  exact congrArg some (seqF_at (F:=fun i=>[K i,V i]) (fun _ _=>rfl) hs)
 rw[ldV_n hc]
theorem MdX.ldf {T:Tags}{h:Heap}{g:Tag}{p:Nat}{M:Tbl}{bv fv:Value}{K V:Nat→Value}{F:Nat→Nat}(x:MdX T h g p M bv fv K V F){s:Nat}(hs:s<M.n):∃ b,iaV (some (none,1)) fv (.int .i64 s)=some (.pointer (some ⟨b,s,none⟩))∧cel h b s=some (ptr (F s)):=by
 obtain⟨b,h1,h2⟩:=x.fd.1.ia (k:=.i64) hs
 rw[Nat.mul_one] at h2
 refine⟨b,h2,?_⟩
 have hc:cels h b s 1=some [ptr (F s)]:=by
  rw[x.fd.1.cels h1 (by omega)]
  have:=seqF_at (F:=fun i=>[ptr (F i)]) (sz:=1) (n:=M.n) (fun _ _=>rfl) hs
  rw[Nat.mul_one] at this
  exact congrArg some this
 have:=(cels_get hc).2 0 (by simp)
 simpa using this
theorem MdX.stb {T:Tags}{h:Heap}{g:Tag}{p:Nat}{M:Tbl}{bv fv:Value}{K V:Nat→Value}{F:Nat→Nat}(x:MdX T h g p M bv fv K V F)(w:Wf T h){s b:Nat}(hs:s<M.n)(hb:rowOf bv=some b){k v:Value}{B:Book}(hB:BookR (fz T h) k v B){Q:Heap→Prop}
  (hk:∀ h',Only (fun t=>t=g++[1]) T h T h'→MdX T h' g p { M with bk:=bset M.bk s B } bv fv (bset K s k) (bset V s v) F→Q h'):stM (some 2) (.pointer (some ⟨b,s*2,none⟩)) (.agg #[k,v]) h Q:=by
 have tb:=x.bk.2 b hb
 have u1:=hB.1.one
 have u2:=hB.2.1.one
 refine x.bk.1.st hb (m:=2) (by simp) (by have:(s+1)*2≤M.n*2:=Nat.mul_le_mul_right _ hs; omega) (by simp[u1.1,u2.1]) fun h' hk' hrow=>?_
 obtain⟨ob,hob⟩:=x.bk.1.lt b hb
 obtain⟨ob',hob'⟩:=hrow.lt b hb
 have e:h'=upd h b ob':=upd_of hk' hob'
 have o1:Only (fun t=>t=g++[1]) T h T h':=by rw[e]; exact Only.upd w hob tb
 refine hk h' o1 ⟨(o1.k.at x.hp x.tp (ne_tag (by simp))).1,x.tp,⟨?_,x.bk.2⟩,x.fd.kp o1.k (ne_tag (by simp)),fun i hi=>?_,fun i hi=>(x.fr i hi).kp o1.k (off_eq (by simp)) (by simp)⟩
 ·have hsp:=seqF_spl (F:=fun i=>[K i,V i]) (sz:=2) (n:=M.n) (off:=0) (l:=[k,v]) (fun i _=>rfl) hs (by simp)
  rw[Nat.add_zero] at hsp
  have:seqF M.n (fset (fun i=>[K i,V i]) s (spl [K s,V s] 0 [k,v]))=seqF M.n fun i=>[bset K s k i,bset V s v i]:=by
   refine seqF_congr fun i hi=>?_
   simp -implicitDefEqProofs only[fset,bset]
   by_cases his:i=s
   ·subst his; simp[spl]
   ·simp -implicitDefEqProofs[his]
  rw[show (Value.agg #[k,v]).cells.toList=[k,v] from by simp] at hrow
  rw[hsp,this] at hrow
  exact hrow
 ·by_cases his:i=s
  ·subst his
   show BookR _ (bset K i k i) (bset V i v i) (bset M.bk i B i)
   rw[bset_same,bset_same,bset_same]
   exact hB.ext (o1.ext (by simp))
  ·show BookR _ (bset K s k i) (bset V s v i) (bset M.bk s B i)
   rw[bset_ne his,bset_ne his,bset_ne his]
   exact (x.br i hi).ext (o1.ext (by simp))
theorem MdX.fed {T T':Tags}{h h':Heap}{g:Tag}{p:Nat}{M:Tbl}{bv fv:Value}{K V:Nat→Value}{F:Nat→Nat}(x:MdX T h g p M bv fv K V F){s:Nat}{f:Feed}(o:Only (pre (g++[3,s])) T h T' h')(gg:Gd g)(r:FeedR T' h' (g++[3,s]) (F s) f) :
  MdX T' h' g p (M.fed s f) bv fv K V F:=by
 have b:=o.k.at x.hp x.tp (not_pre (by simp))
 have n:¬ pre (g++[3,s]) []:=(gg.app _).nil
 refine⟨b.1,b.2,x.bk.kp o.k (not_pre (by simp)),x.fd.kp o.k (not_pre (by simp)),fun i hi=>(x.br i hi).ext (o.ext n),fun i hi=>?_⟩
 show FeedR T' h' _ _ (bset M.fd s f i)
 by_cases his:i=s
 ·subst his; rw[bset_same]; exact r
 ·rw[bset_ne his]; exact (x.fr i hi).kp o.k (off_pre (by simp; omega) (by simp; omega)) n
section
variable {T:Tags}{h:Heap}{g:Tag}{p m:Nat}{M:Tbl}{K:KTy}
theorem mtime_ok (w:Wf T h)(x:MdR T h g p M)(hk:∀ h',Ext h h'→K (.agg (tmC M.t).toArray) h'):callM P qhgZ #[ptr p] h K:=by
 apply qroZ
 unfold qieZ
 rw[zcTime]
 refine nw_intro fun v1 h1 n1 e1 c1=>?_
 obtain⟨bv,fv,Kk,V,F,x⟩:=x
 have cp:=e1 _ _ x.hp
 simp -implicitDefEqProofs only[mdC] at cp
 simp -implicitDefEqProofs[ld_at c1,cel_of c1,stm_at c1,ld_at cp,cel_of cp,stm_at cp,stm_upd,ld_same,cel_same,over]
 exact kv (hk _ (ext_upd n1 e1)) (by simp[tmC])
theorem mstripe_ok (u:ByteArray)(hu:u.size≤maxLen)(x:MdR T h g p M)(hc:M.c.stripes≤8)(hk:K (.int .i64 (stripeOf u M.c.stripes)) h):callM P qaxZ #[ptr p,.string u] h K:=by
 apply qqjZ
 unfold qgUZ
 obtain⟨bv,fv,Kk,V,F,x⟩:=x
 have cp:=x.hp
 simp -implicitDefEqProofs only[mdC] at cp
 simp -implicitDefEqProofs[ld_at cp,cel_of cp,stm_at cp,stm_upd,ld_same,cel_same,over]
 exact stripe_ok u _ (by omega) hu hk
theorem mtick_ok (by_:Int)(hb:U64 by_)(w:Wf T h)(gg:Gd g)(x:MdR T h g p M)(ht:U64 M.t.now)(hk:∀ T' h',Only (pre g) T h T' h'→MdR T' h' g p (M.tick by_)→K (.tuple #[]) h'):callM P qhfZ #[ptr p,.int .u64 by_] h K:=by
 apply qrnZ
 unfold qhWZ
 obtain⟨bv,fv,Kk,V,F,x⟩:=x
 have cp:=x.hp
 simp -implicitDefEqProofs only[mdC] at cp
 have hld:ldV (some (some 3)) (.pointer (some ⟨p,7,none⟩)) h=some (.agg (tmC M.t).toArray):=by simp[ld_at cp,tmC]
 simp -implicitDefEqProofs only[ncV_p,faV_p,ov_s,Nat.zero_add,hld]
 refine tickPass_ok M.t ht hb fun h1 e1=>?_
 have o1:Only non T h T h1:=Only.of_ext w e1
 have x1:=x.kp o1.k (Off.non _) (not_non _)
 have cp:=x1.hp
 simp -implicitDefEqProofs only[mdC] at cp
 obtain⟨o2,x2⟩:=x1.st (M':=M.tick by_) o1.wf gg rfl rfl rfl rfl
 simp -implicitDefEqProofs[ld_at cp,cel_of cp,stm_at cp,stm_upd,ld_same,cel_same,over,tmC]
 exact hk T _ ((o1.mono fun _=>non_up _).up o2 fun t=>eq_pre) ⟨bv,fv,Kk,V,F,x2⟩
theorem mtake_ok (w:Wf T h)(gg:Gd g){bv fv:Value}{Kk V:Nat→Value}{F:Nat→Nat}(x:MdX T h g p M bv fv Kk V F)(ht:U64 M.t.seq)(hk:∀ h',Only (fun t=>t=g++[0]) T h T h'→MdX T h' g p M.take bv fv Kk V F→K (.int .u64 M.take.t.seq) h'):callM P qemZ #[ptr p] h K:=by
 apply qrzZ
 unfold qiiZ
 have cp:=x.hp
 simp -implicitDefEqProofs only[mdC] at cp
 have hld:ldV (some (some 3)) (.pointer (some ⟨p,7,none⟩)) h=some (.agg (tmC M.t).toArray):=by simp[ld_at cp,tmC]
 simp -implicitDefEqProofs only[ncV_p,faV_p,ov_s,Nat.zero_add,hld]
 refine tickTake_ok M.t ht fun h1 e1=>?_
 have o1:Only non T h T h1:=Only.of_ext w e1
 have x1:=x.kp o1.k (Off.non _) (not_non _)
 have cp:=x1.hp
 simp -implicitDefEqProofs only[mdC] at cp
 obtain⟨o2,x2⟩:=x1.st (M':=M.take) o1.wf gg rfl rfl rfl rfl
 simp -implicitDefEqProofs[ld_at cp,cel_of cp,stm_at cp,stm_upd,ld_same,cel_same,over,tmC]
 exact hk _ ((o1.mono non_up).trans o2) x2
theorem mbook_tell {s b:Nat}{bv fv k v cv:Value}{Kk V:Nat→Value}{F:Nat→Nat}(w:Wf T h)(gg:Gd g)(x:MdX T h g p M bv fv Kk V F)(hs:s<M.n)(rb:rowOf bv=some b){B:Book}{l:List Chg}{seq:Int}
  (hb:BookR (fz T h) k v B) (hc:Sl 7 ChgR (fz T h) cv l) (hl:l.length<1000000) (fg:FdG (M.fd s)) {Q:Heap→Prop}
  (hk:∀ h3,Only (fun t=>t=g++[1]) T h T h3→(∃ fb,iaV (some (none,1)) fv (.int .i64 s)=some (.pointer (some ⟨fb,s,none⟩))∧cel h3 fb s=some (ptr (F s)))→h3 p=some (.cells (mdC M.c M.t bv fv).toArray qakZ (0,0))→(∀ K':Value→Heap→Prop,(∀ T' h',Only (pre g) T h T' h'→MdR T' h' g p { M with bk:=bset M.bk s B,fd:=bset M.fd s ((M.fd s).tell l seq) }→K' (.tuple #[]) h')→callM P qalZ #[ptr (F s),cv,.int .u64 seq] h3 K')→Q h3) :
  stM (some 2) (.pointer (some ⟨b,s*2,none⟩)) (.agg #[k,v]) h Q:=by
 refine x.stb w hs rb hb fun h3 o3 x3=>?_
 obtain⟨fb,i1,i2⟩:=x3.ldf (s:=s) hs
 refine hk h3 o3 ⟨fb,i1,i2⟩ x3.hp fun K' hk'=>?_
 have hf:=x3.fr s hs
 refine tell_ok l seq o3.wf (gg.app [3,s]) hf fg (hc.ext (R:=ChgR) (@ChgR.ext) (o3.ext (by simp))) hl fun T4 h4 o4 r4=>?_
 have x4:=x3.fed o4 gg (f:=(M.fd s).tell l seq) r4
 exact hk' T4 h4 ((o3.mono fun t=>eq_pre).up o4 fun t=>pre_trans) ⟨bv,fv,_,_,F,x4⟩
theorem mstored_ok (w : Wf T h) (x : MdR T h g p M) (hs : TS m M) (hm : m ≤ 100000) (hk : ∀ h', Ext h h' → K (.int .i64 M.stored) h') : callM P qfAZ #[ptr p] h K := by
  apply qqdZ
  unfold qgSZ
  rw [seqM_eq]
  unfold qjoZ
  obtain ⟨bv, fv, Kk, V, F, x⟩ := x
  have cp := x.hp
  simp -implicitDefEqProofs only [mdC] at cp
  have hlen := x.bk.len
  have h8 : M.n ≤ 8 := by have := hs.nn; have := hs.rt; simp [rightB] at this; omega
  have hmm : m * m ≤ 10000000000 := Nat.le_trans (Nat.mul_le_mul hm hm) (by decide)
  obtain ⟨sto, hsto⟩ : ∃ sto : Nat → Nat, sto = fun i => ((List.range i).map fun s => storedB (M.bk s)).sum := ⟨_, rfl⟩
  have sto_s : ∀ i, sto (i + 1) = sto i + storedB (M.bk i) := fun i => by rw [hsto]; simp only [List.range_succ, List.map_append, List.sum_append]; simp
  have sto_0 : sto 0 = 0 := by rw [hsto]; rfl
  have sto_n : sto M.n = M.stored := by rw [hsto]; rfl
  have hst : ∀ i, i ≤ M.n → sto i ≤ i * 10000000000 := by
    intro i
    induction i with
    | zero => intro _; rw [sto_0]; exact Nat.zero_le _
    | succ i ih =>
      intro hi
      have h1 := ih (by omega)
      have h2 := stored_le (hs.bk i (by omega)).bl (hs.bk i (by omega)).bn
      rw [sto_s, Nat.succ_mul]; omega
  simp -implicitDefEqProofs [ld_at cp, cel_of cp, stm_at cp, stm_upd, ld_same, cel_same, over, hlen]
  refine loop_on [9, 10] (fun s h' => Ext h h' ∧ ∃ i : Nat, i ≤ M.n ∧ s 11 = .int .i64 i ∧ s 3 = .int .i64 (sto i)) (fun s _ => (M.n - num (s 11)).toNat) ⟨Ext.refl h, 0, by omega, rfl, by rw [sto_0]; rfl⟩ ?_
  rintro s h1 hf ⟨e1, i, hi, s11, s3⟩
  have s9 : s 9 = bv := by simpa using hf 9 (by simp)
  have s10 : s 10 = .int .i64 M.n := by simpa using hf 10 (by simp)
  unfold qjnZ
  simp -implicitDefEqProofs only [s11, s10, bin_lss, ov_s, cd_b]
  refine ⟨fun hc => ?_, fun hc => ?_⟩
  rotate_left
  · have : i = M.n := by have : ¬ ((i : Int) < M.n) := by simpa using hc
                         omega
    subst this
    simp -implicitDefEqProofs [s3, sto_n]
    exact hk _ e1
  have hlt : i < M.n := by have : ((i : Int) < M.n) := by simpa using hc
                           omega
  have hw : IntKind.i64.wrap ((i : Int) + 1) = (i + 1 : Nat) := by rw [wrap64_id (by omega) (by omega)]; omega
  have hw2 : IntKind.i64.wrap ((sto i : Int) + storedB (M.bk i)) = (sto (i + 1) : Nat) := by
    have h1 := hst (i + 1) (by omega)
    rw [sto_s] at h1 ⊢
    rw [wrap64_id (by omega) (by omega)]; omega
  have o1 : Only non T h T h1 := Only.of_ext w e1
  have x1 := x.kp o1.k (Off.non _) (not_non _)
  obtain ⟨b, rb, ia, l1⟩ := x1.ldb (s := i) hlt
  have hbr := x1.br i hlt
  have st := hs.bk i hlt
  have u1 := hbr.1.one
  have u2 := hbr.2.1.one
  unfold qjmZ
  rw [s9, s11, ia, zcMap]
  simp -implicitDefEqProofs only [ov_s, l1]
  refine nw_st (by simp) (by simp) (by simp [u1.1, u2.1]) fun yb h2 n2 e2 c2 => ?_
  simp -implicitDefEqProofs only [cells_agg] at c2
  simp -implicitDefEqProofs [ld_at c2, cel_of c2, stm_at c2, stm_upd, ld_same, cel_same, over]
  refine stored_ok _ (by have := st.bl; omega) (fun y hy => by have := st.bn y hy; omega) ((fz_ext T h1).trans e2) hbr fun h3 e3 => ?_
  unfold qjlZ
  simp -implicitDefEqProofs [s3, s9, s10, s11, hw, hw2, -Int.natCast_add]
  exact ⟨⟨(e1.trans e2).trans e3, i + 1, by omega, rfl, rfl⟩, by omega⟩
end
end Go.Proofs.YtcnphhhcknhhaaaGreat
namespace Go.Proofs.YtcnphhhcknhhaaaGreat
open Go Go.Den Go.MapKept
set_option linter.unusedSimpArgs false
set_option linter.unusedVariables false
set_option maxRecDepth 20000
theorem unSlBook:P.underlying qbMZ=some (.slice qaZ):=by kernel_rfl
theorem apBook:apC P qaZ=some (2,48,2):=by kernel_rfl
theorem bsFeedP:bsI P qbaZ=some (qdOZ,1,#[.pointer none]):=by kernel_rfl
theorem unSlFeedP:P.underlying qbaZ=some (.slice qdOZ):=by kernel_rfl
theorem apFeedP:apC P qdOZ=some (1,8,1):=by kernel_rfl
theorem bdModel (c:Cfg)(n m:Int)(b:Bool)(a:Option Addr)(i j:Nat):bdV (binf P qakZ) [(0,.agg (cfgC c).toArray),(1,.agg #[.int .u64 n,.int .u64 m,.bool b]),(2,.slice a i j)] =
 some (.agg #[.int .i64 c.stripes,.int .i64 c.sessions,.int .i64 c.queue,.int .i64 c.watches,.int .i64 c.retries,.int .u64 c.epochs,.int .u64 c.start,.int .u64 n,.int .u64 m,.bool b,.slice a i j,.slice none 0 0]):=by kernel_rfl
theorem bdTime1 (n:Int):bdV (binf P qtZ) [(0,.int .u64 n)]=some (.agg #[.int .u64 n,.int .u64 0,.bool false]):=by kernel_rfl
theorem made_at (z:Array Value)(n i:Nat)(hi:i<n)(hz:0<z.size):(madeCells z n)[i]?=z[i % z.size]?:=by
 have:i % z.size<z.size:=Nat.mod_lt _ hz
 simp -implicitDefEqProofs[madeCells,hi,this]
theorem made_seq {e:TypeId}{h:Heap}{b n:Nat}(hn:n≤maxLen)(hb:h b=some (.cells (madeCells #[.slice none 0 0,.slice none 0 0] (n*2)) e (0,0))):Row 2 e h (.slice (some ⟨b,0,none⟩) n n) n (seqF n fun _=>[.slice none 0 0,.slice none 0 0]):=by
 have hsz:(madeCells #[Value.slice none 0 0,.slice none 0 0] (n*2)).size=n*2:=by simp[madeCells]
 refine⟨by rw[seqF_len (sz:=2) (fun _ _=>rfl)],.inr ⟨b,n,_,rfl,hb,Nat.le_refl _,hn,by simpa using hsz,?_⟩⟩
 rw[List.take_of_length_le (by simp[hsz])]
 have hl:(seqF n fun _=>[Value.slice none 0 0,.slice none 0 0]).length=n*2:=seqF_len (sz:=2) (fun _ _=>rfl)
 apply List.ext_getElem?
 intro i
 by_cases hi:i<n*2
 ·have h1:=seqF_get (F:=fun _=>[Value.slice none 0 0,.slice none 0 0]) (n:=n) (sz:=2) (fun _ _=>rfl) (i:=i / 2) (j:=i % 2) (by omega) (by omega)
  rw[show i / 2*2+i % 2=i by omega] at h1
  rw[h1,Array.getElem?_toList,made_at _ _ _ hi (by simp)]
  simp -implicitDefEqProofs
 ·rw[List.getElem?_eq_none (by simp[hsz]; omega),List.getElem?_eq_none (by omega)]
def MdNewI (T:Tags)(h:Heap)(g:Tag)(p:Nat)(c:Cfg)(n:Nat)(bv:Value)(v:Value)(h':Heap):Prop :=
 ∃ (T':Tags) (i:Nat) (fv:Value) (F:Nat→Nat),Only (pre g) T h T' h'∧h' p=some (.cells (mdC c ⟨c.start,0,false⟩ bv fv).toArray qakZ (0,0))∧T' p=g++[0] ∧
  Rw T' h' (g++[1]) 2 qaZ bv n (seqF n fun _=>[.slice none 0 0,.slice none 0 0])∧Rw T' h' (g++[2]) 1 qdOZ fv i (seqF i fun k=>[ptr (F k)])∧(∀ k,k<i→FeedR T' h' (g++[3,k]) (F k) (feed0 c.queue))∧i≤n∧v = .int .i64 i
variable {K:KTy}
set_option maxHeartbeats 2000000 in
theorem mnew_ok (c : Cfg) (cw : CfgW c) {T : Tags} {h : Heap} (w : Wf T h) {g : Tag} (gg : Gd g)
    (hk1 : rightB c = true → ∀ T' h' p, Only (pre g) T h T' h' → MdR T' h' g p (tbl0 c c.stripes.toNat) → K (.tuple #[ptr p, .int .i64 0]) h')
    (hk2 : rightB c = false → ∀ h', Ext h h' → K (.tuple #[.pointer none, .int .i64 1]) h') : callM P qocZ #[.agg (cfgC c).toArray] h K := by
  apply qtgZ
  unfold qoXZ
  refine nw_agg fun v1 h1 n1 e1 c1 => ?_
  have og : ∀ h', h' v1 = some (.cells (cfgC c).toArray qvZ (0, 0)) → ldV (some (some 7)) (ptr v1) h' = some (.agg (cfgC c).toArray) := fun h' hc => by simp [ld_at hc, cfgC]
  have os : ∀ h', h' v1 = some (.cells (cfgC c).toArray qvZ (0, 0)) → cel h' v1 0 = some (.int .i64 c.stripes) ∧ cel h' v1 6 = some (.int .u64 c.start) ∧ cel h' v1 2 = some (.int .i64 c.queue) := fun h' hc => by simp [cel_of hc, cfgC]
  simp -implicitDefEqProofs only [og _ c1, ov_s]
  refine modRight_ok c fun h2 e2 => ?_
  have c1 := e2 _ _ c1
  have e0 := e1.trans e2
  unfold qqIZ
  simp -implicitDefEqProofs only [unV_n, ov_s, cd_b]
  refine ⟨fun hr => hk2 (by simpa using hr) _ e0, fun hr => ?_⟩
  have hr : rightB c = true := by simpa using hr
  have hn : 1 ≤ c.stripes ∧ c.stripes ≤ 8 := by simp [rightB] at hr; omega
  obtain ⟨N, hN⟩ : ∃ N : Nat, c.stripes = N := ⟨c.stripes.toNat, by omega⟩
  have hNt : c.stripes.toNat = N := by omega
  unfold qqHZ
  simp -implicitDefEqProofs [og _ c1, os _ c1, bdTime1, hN]
  refine makeSlice_vv (n := N) unSlBook apBook zcMap (by omega) (by omega) (by unfold maxLen; omega) fun sb h3 n3 e3 c3 => ?_
  have c12 := c1
  have c1 := e3 _ _ c1
  have e0 := e0.trans e3
  have w2 := w.ext (e1.trans e2)
  have o3 : Only (pre g) T h2 (tset T sb (g ++ [1])) h3 := Only.enew _ w2 e3 n3 c3
  have t3 : (tset T sb (g ++ [1])) sb = g ++ [1] := tset_same _ _ _
  have o03 : Only (pre g) T h (tset T sb (g ++ [1])) h3 := ((Only.of_ext (U := non) w (e1.trans e2)).mono non_up).trans o3
  have b1 : h2 v1 = _ ∧ T v1 = [] := ⟨(show h2 v1 = some (.cells (cfgC c).toArray qvZ (0, 0)) from by
    exact c12), w v1 n1⟩
  have c1 := c1
  generalize tset T sb (g ++ [1]) = T3 at *
  unfold qqGZ
  simp -implicitDefEqProofs [og _ c1, os _ c1]
  rw [bdModel]
  simp -implicitDefEqProofs
  refine nw_tag o3.wf (g ++ [0]) fun p T4 h4 n4 o4 t4 c4 => ?_
  have b3 : h3 sb = _ ∧ T3 sb = g ++ [1] := ⟨c3, t3⟩
  have b3 := o4.see b3 (not_non _)
  have b1 : h3 v1 = _ ∧ T3 v1 = [] := ⟨c1, (o3.k.at c12 (w v1 n1) gg.nil).2⟩
  have b1 := o4.see b1 (not_non _)
  have c1 := b1.1
  rw [seqM_eq]
  unfold qqFZ
  simp -implicitDefEqProofs [os _ c1, hN]
  have hbv : Rw T4 h4 (g ++ [1]) 2 qaZ (.slice (some ⟨sb, 0, none⟩) N N) N (seqF N fun _ => [.slice none 0 0, .slice none 0 0]) := ⟨made_seq (by unfold maxLen; omega) b3.1, fun b hb => by simp [rowOf] at hb; subst hb; exact b3.2⟩
  refine loop_on [1, 4, 18] (fun s h' => MdNewI T4 h4 g p c N (.slice (some ⟨sb, 0, none⟩) N N) (s 19) h') (fun s _ => (N - num (s 19)).toNat) ⟨T4, 0, .slice none 0 0, fun _ => 0, Only.refl o4.wf, by simpa [mdC] using c4, t4, hbv, Rw.nil _ _ _ _ _, fun k hk => by omega, by omega, rfl⟩ ?_
  rintro s h5 hf ⟨T5, i, fv, F, o5, cp, tp, rb, rf, fr, hi, s19⟩
  have s1 : s 1 = ptr v1 := by simpa using hf 1 (by simp)
  have s4 : s 4 = ptr p := by simpa using hf 4 (by simp)
  have s18 : s 18 = .int .i64 N := by simpa using hf 18 (by simp)
  have b1 := o5.see b1 gg.nil
  have c1 := b1.1
  unfold qqEZ
  simp -implicitDefEqProofs only [s19, s18, bin_lss, ov_s, cd_b]
  refine ⟨fun hc => ?_, fun hc => ?_⟩
  rotate_left
  · have : i = N := by have : ¬ ((i : Int) < N) := by simpa using hc
                       omega
    subst this
    simp -implicitDefEqProofs [s4]
    refine hk1 hr T5 h5 p (((o03.trans (o4.mono non_up)).trans o5)) ⟨.slice (some ⟨sb, 0, none⟩) i i, fv, fun _ => .slice none 0 0, fun _ => .slice none 0 0, F, ?_⟩
    rw [hNt]
    exact ⟨cp, tp, rb, rf, fun s hs => BookR.nil _, fun s hs => fr s hs⟩
  have hlt : i < N := by have : ((i : Int) < N) := by simpa using hc
                         omega
  simp -implicitDefEqProofs only [mdC] at cp
  have bp : h5 p = _ ∧ T5 p = _ := ⟨cp, tp⟩
  unfold qqDZ
  simp -implicitDefEqProofs [s1, s4, ld_at cp, cel_of cp, stm_at cp, stm_upd, ld_same, cel_same, over, os _ c1]
  refine feedNew_ok _ o5.wf (gg.app [3, i]) fun T6 h6 fp o6 r6 => ?_
  have bp := o6.see bp (not_pre (by simp))
  have cp := bp.1
  unfold qqCZ
  simp -implicitDefEqProofs [ld_at cp, cel_of cp, stm_at cp, stm_upd, ld_same, cel_same, over]
  refine bs_one bsFeedP (by simp) (by omega) fun nb h7 n7 e7 c7 => ?_
  have o7 : Only non T6 h6 T6 h7 := Only.of_ext o6.wf e7
  have bp := o7.see bp (not_non _)
  have cp := bp.1
  have r7 := r6.kp o7.k (Off.non _) (not_non _)
  refine ⟨by simp [ld_at cp, cel_of cp, stm_at cp, stm_upd, ld_same, cel_same, over], ?_⟩
  have rf7 := (rf.kp o6.k (not_pre (by simp))).kp o7.k (not_non _)
  have rb7 := (rb.kp o6.k (not_pre (by simp))).kp o7.k (not_non _)
  refine Rw.app1 (m := 1) (news := _) unSlFeedP apFeedP (by omega) o7.wf rf7 (cels_one c7 (by simp)) (by simp) (by unfold maxLen; omega) (by omega) fun fv' T8 h8 o8 rf8 => ?_
  have bp := o8.see bp (ne_tag (by simp))
  have cp := bp.1
  have ho := rf8.one
  have hw : IntKind.i64.wrap ((i : Int) + 1) = i + 1 := wrap64_id (by omega) (by omega)
  simp -implicitDefEqProofs [ld_at cp, cel_of cp, stm_at cp, stm_upd, ld_same, cel_same, over, ho.1, ho.2, s18, s19, s1, s4, hw]
  refine ⟨?_, by omega⟩
  have o9 := fun o' => Only.upd (U := fun t => t = g ++ [0]) (o' := o') o8.wf bp.1 bp.2
  have f9 := (o9 (.cells (mdC c ⟨c.start, 0, false⟩ (.slice (some ⟨sb, 0, none⟩) N N) fv').toArray qakZ (0, 0))).k
  have a8 : ∀ k, Off (fun t => t = g ++ [2]) (g ++ [3, k]) := fun k => off_eq (by simp)
  have a9 : ∀ k, Off (fun t => t = g ++ [0]) (g ++ [3, k]) := fun k => off_eq (by simp)
  refine ⟨T8, i + 1, fv', fun k => if k = i then fp else F k, (((o5.up o6 fun t => pre_trans).up o7 non_up).up o8 fun t e => e ▸ pre_app _ _).up (o9 _) fun t e => e ▸ pre_app _ _, upd_same' _ _ _, bp.2, (rb7.kp o8.k (ne_tag (by simp))).kp f9 (ne_tag (by simp)), ?_, fun k hk => ?_, by omega, by simp⟩
  · have := rf8.kp f9 (ne_tag (by simp))
    rw [seqF_succ]
    have e1 : seqF i (fun k => [ptr (if k = i then fp else F k)]) = seqF i fun k => [ptr (F k)] := seqF_congr fun k hk => by rw [if_neg (by omega)]
    have e2 : (fun k => if k = i then fp else F k) i = fp := if_pos rfl
    rw [e1, e2]
    simpa [mdC] using this
  · by_cases hki : k = i
    · subst hki
      simp -implicitDefEqProofs only [if_true]
      exact (r7.kp o8.k (a8 _) (by simp)).kp f9 (a9 _) (by simp)
    · simp -implicitDefEqProofs only [if_neg hki]
      exact ((((fr k (by omega)).kp o6.k (off_pre (by simp; omega) (by simp; omega)) ((gg.app _).nil)).kp o7.k (Off.non _) (not_non _)).kp o8.k (a8 _) (by simp)).kp f9 (a9 _) (by simp)
theorem tgRep86:tagg P 86=some (some 4):=by kernel_rfl
set_option maxHeartbeats 4000000 in
theorem mwrite_ok (o:OpD)(ow:OpW o){uv:Value}(ou:One uv){T:Tags}{h:Heap}{g:Tag}{p m:Nat}{M:Tbl}(w:Wf T h)(gg:Gd g)(x:MdR T h g p M)(hs:TS m M)(hm:m<100000)
  (hk:∀ T' h',Only (pre g) T h T' h'→MdR T' h' g p (M.write o).1→K (.agg (repC (M.write o).2.err).toArray) h'):callM P qgIZ #[ptr p,.agg (opC o uv).toArray] h K:=by
 have n8:1≤M.c.stripes∧M.c.stripes≤8:=by have:=hs.rt; simp[rightB] at this; omega
 have nn:=hs.nn
 apply qqWZ
 unfold qhwZ
 refine nw_agg fun v1 h0 n0 e0 c0=>?_
 have w0:=w.ext e0
 rw[zcRep]
 refine nw_tag w0 lc fun v3 T1 h1 n1 o1 t3 c3=>?_
 have o01:Only non T h T1 h1:=(Only.of_ext (U:=non) w e0).trans o1
 have b0:h0 v1=_∧T v1=[]:=⟨c0,w v1 n0⟩
 have b0:=o1.see b0 (not_non _)
 have b3:h1 v3=_∧T1 v3=lc:=⟨c3,t3⟩
 obtain⟨bv,fv,Kk,V,F,x1⟩:=x.up o01 (Off.non _) (not_non _)
 refine mtake_ok o1.wf gg x1 hs.ts fun h2 o2 x2=>?_
 have b0:=o2.see b0 (by simp)
 have b3:=o2.see b3 (lc_ne g gg [0])
 have oh:Only (pre g) T h T1 h2:=(o01.mono non_up).up o2 fun _=>eq_pre
 have cp:=x2.hp
 simp -implicitDefEqProofs only[mdC] at cp
 have c3':=b3.1
 have n3:h v3=none:=by
  cases hh:h v3 with
  | none=>rfl
  | some ob=>rw[e0 _ _ hh] at n1; cases n1
 unfold qkmZ
 cases htc:M.t.closed with
 | true =>
  have e:M.write o=(M.take,repE 5):=by simp[Tbl.write,htc]
  rw[e] at hk
  have htc':M.take.t.closed=true:=htc
  rw[htc'] at cp
  simp -implicitDefEqProofs[ld_at cp,cel_of cp,stm_at cp,stm_upd,ld_same,cel_same,over]
  unfold qkfZ
  rw[bdRepE]
  simp -implicitDefEqProofs[ld_at c3',cel_of c3',stm_at c3',stm_upd,ld_same,cel_same,over]
  have x3:MdR T1 (upd h2 v3 (.cells #[.int .i64 5,.slice none 0 0,.slice none 0 0,.bool false] qcZ (0,0))) g p M.take:=⟨bv,fv,Kk,V,F,x2.kp (Only.lst o2.wf b3).k gg.off (by simp)⟩
  exact hk T1 _ (oh.own n3 b3.1) x3
 | false =>
 obtain⟨s,hs'⟩:∃ s:Nat,M.stripe o.user=s:=⟨_,rfl⟩
 have hst:=stripeOf_lt (u:=o.user) (n:=M.c.stripes) n8.1
 have hsn:s<M.n:=by rw[← hs']; unfold Tbl.stripe; omega
 have hse:stripeOf o.user M.c.stripes=(s:Int):=by rw[← hs']; unfold Tbl.stripe; omega
 obtain⟨r,hr⟩:∃ r,writeB (M.bk s) o M.t.now M.c.sessions=r:=⟨_,rfl⟩
 have e:M.write o=({ M.take with bk:=bset M.bk s r.1,fd:=bset M.fd s ((M.fd s).tell r.2.1 M.take.t.seq) },repE r.2.2):=by
  simp -implicitDefEqProofs only[Tbl.write,htc,Bool.false_eq_true,if_false,hs',Tbl.writeAt,← hr]
  rfl
 rw[e] at hk
 have htc':M.take.t.closed=false:=htc
 rw[htc'] at cp
 simp -implicitDefEqProofs[ld_at cp,cel_of cp,stm_at cp,stm_upd,ld_same,cel_same,over]
 unfold qklZ
 have c0':=b0.1
 have c0u:cel h2 v1 1=some (.string o.user):=by simp[cel_of c0',opC]
 simp -implicitDefEqProofs[c0u]
 refine mstripe_ok o.user ow.s1 ⟨bv,fv,Kk,V,F,x2⟩ n8.2 ?_
 rw[show M.take.c.stripes=M.c.stripes from rfl,hse]
 unfold qkkZ
 rw[seqM_eq]
 unfold qkjZ
 obtain⟨b,rb,ia,l1⟩:=x2.ldb (s:=s) hsn
 have hbr:=x2.br s hsn
 have hlen:r.2.1.length≤1:=by rw[← hr]; exact settle_chg _ _ _ _
 have bm:=hs.bk s hsn
 have fg:=(hs.fd s hsn).g hm
 have oa:ldV (some (some 7)) (ptr v1) h2=some (.agg (opC o uv).toArray):=by simp[ld_at c0',opC]
 have fin:∀ (h5:Heap) (s6:Env) (k v cv:Value) (vb:Nat),Ext h2 h5→BookR (fz T1 h5) k v r.1→Sl 7 ChgR (fz T1 h5) cv r.2.1→h5 vb=some (.cells #[k,v] qaZ (0,0))→s6 0=ptr p→s6 4=ptr v3→s6 5 = .int .u64 M.take.t.seq→s6 6 = .int .i64 s→s6 7=ptr vb→s6 8=cv→s6 9 = .int .i64 r.2.2→qfDZ s6 h5 K []:=by
  intro h5 s6 k v cv vb e5 hb hc cvb s0 s4 s5 s6' s7 s8 s9
  have o5:Only non T1 h2 T1 h5:=Only.of_ext o2.wf e5
  have x5:=x2.kp o5.k (Off.non _) (not_non _)
  have b35:=o5.see b3 (not_non _)
  have cp5:=x5.hp
  simp -implicitDefEqProofs only[mdC] at cp5
  unfold qfDZ
  simp -implicitDefEqProofs[s0,s7,s6',ld_at cp5,cel_of cp5,stm_at cp5,ld_at cvb,cel_of cvb,stm_at cvb,stm_upd,ld_same,cel_same,over,ia]
  refine mbook_tell (seq:=M.take.t.seq) o5.wf gg x5 hsn rb hb hc (by omega) fg fun h6 o6 ⟨fb,f1,f2⟩ cp6 hT=>?_
  have b36:=o6.see b35 (lc_ne g gg [1])
  simp -implicitDefEqProofs only[mdC] at cp6
  simp -implicitDefEqProofs[ld_at cp6,cel_of cp6,stm_at cp6,stm_upd,ld_same,cel_same,over,f1,f2,s0,s6',s8,s5]
  refine hT _ fun T7 h7 o7 x7=>?_
  have ne3:¬ pre g lc:=fun hh=>gg.off lc hh rfl
  have b37:=o7.see b35 ne3
  have c37:=b37.1
  unfold qjrZ
  simp -implicitDefEqProofs[s9,bdRepE,s4,ld_at c37,cel_of c37,stm_at c37,stm_upd,ld_same,cel_same,over,tgRep86]
  have o27:Only (pre g) T h T7 h7:=(oh.up o5 non_up).trans o7
  refine hk T7 _ (o27.own n3 b37.1) (x7.kp (Only.lst o7.wf b37).k gg.off (by simp))
 have ht0:M.take.t.now=M.t.now:=rfl
 have c0s:M.take.c.sessions=M.c.sessions:=rfl
 simp -implicitDefEqProofs[ld_at cp,cel_of cp,stm_at cp,stm_upd,ld_same,cel_same,over,ia,l1,oa,ht0,c0s]
 refine⟨?_,?_⟩
 ·unfold qkhZ
  refine bwrite_ok _ bm.bw o ow ou hs.tn M.c.sessions o2.wf hbr (by have:=bm.bl; omega) ?_ fun h5 k v cv e5 hb hc=>?_
  ·have:=bm.ent o.user
   show (entOf (M.bk s) o.user).ss.length<_
   omega
  have hb:BookR (fz T1 h5) k v r.1:=by rw[← hr]; exact hb
  have hc:Sl 7 ChgR (fz T1 h5) cv r.2.1:=by rw[← hr]; exact hc
  have hrr:(writeB (M.take.bk s) o M.t.now M.c.sessions).2.2=r.2.2:=by rw[← hr]; rfl
  unfold qkgZ
  have p1:=hb.1.one
  have p2:=hb.2.1.one
  simp -implicitDefEqProofs only[exV_0,exV_1,exV_2,ov_s,zcMap,hrr]
  refine nw_st (by simp) (by simp) (by simp[p1.1,p2.1]) fun vb h6 n6 e6 c6=>?_
  simp -implicitDefEqProofs only[cells_agg] at c6
  try simp only[thenM_n]
  refine fin h6 _ k v cv vb (e5.trans e6) (hb.ext (fz_of_ext e6)) (hc.ext (R:=ChgR) (@ChgR.ext) (fz_of_ext e6)) c6 ?_ ?_ ?_ ?_ ?_ ?_ ?_<;>simp[hr]
 ·unfold qkiZ
  rw[zcMap]
  refine nw_intro fun vb h5 n5 e5 c5=>?_
  have o5:Only non T1 h2 T1 h5:=Only.of_ext o2.wf e5
  have x5:=x2.kp o5.k (Off.non _) (not_non _)
  obtain⟨b',rb',ia',l1'⟩:=x5.ldb (s:=s) hsn
  have hbb:b'=b:=by rw[rb] at rb'; cases rb'; rfl
  subst hbb
  have c1:=e5 _ _ c0'
  have cp:=x5.hp
  simp -implicitDefEqProofs only[mdC] at cp
  have oa:ldV (some (some 7)) (ptr v1) h5=some (.agg (opC o uv).toArray):=by simp[ld_at c1,opC]
  refine⟨by simp[ld_at cp,cel_of cp,stm_at cp,stm_upd,ld_same,cel_same,over],l1',oa,by simp[ld_at cp,cel_of cp,stm_at cp,stm_upd,ld_same,cel_same,over,ht0],by simp[ld_at cp,cel_of cp,stm_at cp,stm_upd,ld_same,cel_same,over,c0s],?_⟩
  have wt:Wf (tset T1 vb lc) h5:=wf_loc o5.wf c5
  refine bwrite_ok _ bm.bw o ow ou hs.tn M.c.sessions wt (hbr.ext (fz_in n5 e5)) (by have:=bm.bl; omega) ?_ fun h6 k v cv e6 hb hc=>?_
  ·have:=bm.ent o.user
   show (entOf (M.bk s) o.user).ss.length<_
   omega
  have hb:BookR (fz (tset T1 vb lc) h6) k v r.1:=by rw[← hr]; exact hb
  have hc:Sl 7 ChgR (fz (tset T1 vb lc) h6) cv r.2.1:=by rw[← hr]; exact hc
  have hrr:(writeB (M.take.bk s) o M.t.now M.c.sessions).2.2=r.2.2:=by rw[← hr]; rfl
  have p1:=hb.1.one
  have p2:=hb.2.1.one
  have c6:=e6 _ _ c5
  try simp only[hrr]
  simp -implicitDefEqProofs[ld_at c6,cel_of c6,stm_at c6,stm_upd,ld_same,cel_same,over,p1.1,p2.1]
  try simp only[thenM_n]
  refine fin _ _ k v cv vb (ext_upd n5 (e5.trans e6)) (hb.ext fz_loc) (hc.ext (R:=ChgR) (@ChgR.ext) fz_loc) (upd_same' _ _ _) ?_ ?_ ?_ ?_ ?_ ?_ ?_<;>simp[hr]
end Go.Proofs.YtcnphhhcknhhaaaGreat
namespace Go.Den
open Go
set_option linter.unusedVariables false
set_option linter.unusedSimpArgs false
theorem Tbl.sweep_at {M:Tbl}{s:Nat}(hs:s<M.n):(M.sweep s).t.now=M.t.now∧(M.sweep s).t.closed=M.t.closed∧(M.sweep s).c=M.c∧(M.sweep s).n=M.n∧∀ s',(M.sweep s).bk s'=if s'=s then (sweepB (M.bk s) M.t.now).1 else M.bk s':=by
 have hc:(0:Int)≤s∧(s:Int)<M.n:=by omega
 simp only[Tbl.sweep,if_pos hc,Int.toNat_natCast]
 exact⟨rfl,rfl,rfl,rfl,fun s'=>by simp only[Tbl.sweepAt,Tbl.take,bset]⟩
end Go.Den
namespace Go.Proofs.YtcnphhhcknhhaaaGreat
open Go Go.Den Go.MapKept
set_option linter.unusedSimpArgs false
set_option linter.unusedVariables false
set_option maxRecDepth 20000
theorem evNe (p q:Evt){x y:Operand}{K:Value→Prop}:pvM P (do eqGuard .neq quZ x y (.agg (evC p).toArray) (.agg (evC q).toArray); binOp .neq quZ (.agg (evC p).toArray) (.agg (evC q).toArray)) K=K (.bool (!decide (p=q))):=by
 simp -implicitDefEqProofs only[evC,presC,List.cons_append,List.nil_append]
 rw[pv_neq (d:=5) (b:=(p.user.toList == q.user.toList) && (((p.old.st == q.old.st) && ((p.old.pr == q.old.pr) && ((p.old.lv == q.old.lv) && true))) && (((p.new.st == q.new.st) && ((p.new.pr == q.new.pr) && ((p.new.lv == q.new.lv) && true))) && ((p.seq == q.seq) && true)))) (by kernel_rfl) (by omega) (by kernel_rfl)]
 have:((p.user.toList == q.user.toList) && (((p.old.st == q.old.st) && ((p.old.pr == q.old.pr) && ((p.old.lv == q.old.lv) && true))) && (((p.new.st == q.new.st) && ((p.new.pr == q.new.pr) && ((p.new.lv == q.new.lv) && true))) && ((p.seq == q.seq) && true))))=decide (p=q):=by
  rw[str_beq,Bool.eq_iff_iff]
  obtain⟨u,⟨a,b,c⟩,⟨d,e,f⟩,s⟩:=p
  obtain⟨u',⟨a',b',c'⟩,⟨d',e',f'⟩,s'⟩:=q
  simp -implicitDefEqProofs[and_assoc]
 rw[this]
theorem ev_ld {F:Heap}{v:Value}{l:List Evt}(x:Sl 8 EvR F v l){i:Nat}(hi:i<l.length){k:IntKind}:∃ b p,iaV (some (none,8)) v (.int k i)=some (.pointer (some ⟨b,p,none⟩))∧∀ h',Ext F h'→cels h' b p 8=some (evC l[i]):=by
 obtain⟨b,p,c,h1,h2,h3⟩:=x.at (k:=k) (i:=i) (by omega) (by omega)
 refine⟨b,p,h1,fun h' e=>?_⟩
 have hc:c=evC l[i]:=h3
 subst hc
 exact cels_ext e h2
theorem pres_ld {F:Heap}{v:Value}{l:List Pres}(x:Sl 3 PresR F v l){i:Nat}(hi:i<l.length){k:IntKind}:∃ b p,iaV (some (none,3)) v (.int k i)=some (.pointer (some ⟨b,p,none⟩))∧∀ h',Ext F h'→cels h' b p 3=some (presC l[i]):=by
 obtain⟨b,p,c,h1,h2,h3⟩:=x.at (k:=k) (i:=i) (by omega) (by omega)
 refine⟨b,p,h1,fun h' e=>?_⟩
 have hc:c=presC l[i]:=h3
 subst hc
 exact cels_ext e h2
variable {K:KTy}
set_option maxHeartbeats 1000000 in
theorem evSame_ok (xs ys : List Evt) {h : Heap} {v u : Value} (x : Sl 8 EvR h v xs) (y : Sl 8 EvR h u ys) (hl : xs.length < 1000000) (hk : K (.bool (decide (xs = ys))) h) : callM P qgHZ #[v, u] h K := by
  apply qqUZ
  unfold qhuZ
  have lx := x.len
  have ly := y.len
  by_cases hlen : xs.length = ys.length
  rotate_left
  · have hne : xs ≠ ys := fun e => hlen (by rw [e])
    have hi : ¬ (xs.length : Int) = ys.length := by omega
    simp -implicitDefEqProofs [lx, ly, hi]
    rw [decide_eq_false hne] at hk; exact hk
  · have hi : (xs.length : Int) = ys.length := by omega
    simp -implicitDefEqProofs [lx, ly, hi]
    unfold qkeZ
    rw [seqM_eq]
    unfold qkdZ
    refine loop_on [0, 1, 4] (fun s h' => h' = h ∧ ∃ i : Nat, i ≤ xs.length ∧ s 5 = .int .i64 i ∧ xs.take i = ys.take i) (fun s _ => (xs.length - num (s 5)).toNat) ⟨rfl, 0, by omega, rfl, by simp⟩ ?_
    rintro s h1 hf ⟨rfl, i, hi, s5, hT⟩
    have s0 : s 0 = v := by simpa using hf 0 (by simp)
    have s1 : s 1 = u := by simpa using hf 1 (by simp)
    have s4 : s 4 = .bool false := by simpa using hf 4 (by simp)
    unfold qkcZ
    simp -implicitDefEqProofs only [s5, s0, lx, bin_lss, ov_s, cd_b]
    refine ⟨fun hc => ?_, fun hc => ?_⟩
    · have hlt : i < xs.length := by have : ((i : Int) < xs.length) := by simpa using hc
                                     omega
      have hly : i < ys.length := by omega
      have hw : IntKind.i64.wrap ((i : Int) + 1) = (i + 1 : Nat) := by rw [wrap64_id (by omega) (by omega)]; omega
      obtain ⟨b, p, i1, i2⟩ := ev_ld x (k := .i64) hlt
      obtain ⟨b', p', j1, j2⟩ := ev_ld y (k := .i64) hly
      unfold qkbZ
      simp -implicitDefEqProofs only [s0, s1, s5, i1, j1, ov_s, ldV_n (i2 _ (Ext.refl _)), ldV_n (j2 _ (Ext.refl _)), evNe, cd_b]
      refine ⟨fun hd => ?_, fun hd => ?_⟩
      · have hne : xs[i] ≠ ys[i] := by simpa using hd
        have hne' : xs ≠ ys := fun e => hne (by subst e; rfl)
        unfold qjZZ
        simp -implicitDefEqProofs [s4]
        rw [decide_eq_false hne'] at hk; exact hk
      · have he : xs[i] = ys[i] := by simpa using hd
        unfold qkaZ
        simp -implicitDefEqProofs [s0, s1, s4, s5, hw, -Int.natCast_add]
        exact ⟨⟨i + 1, by omega, rfl, take_eq_succ hT hlt hly he⟩, by omega⟩
    · have : i = xs.length := by have : ¬ ((i : Int) < xs.length) := by simpa using hc
                                 omega
      subst this
      have he : xs = ys := by
        rw [List.take_of_length_le (Nat.le_refl _), List.take_of_length_le (by omega)] at hT; exact hT
      simp -implicitDefEqProofs
      rw [decide_eq_true he] at hk; exact hk
deriving instance DecidableEq for Reply
def rplC (r:Reply)(vv ev:Value):List Value:=[.int .i64 r.err,vv,ev,.bool r.lost]
structure RpX (h:Heap)(r:Reply)(vv ev:Value):Prop where
 v:Sl 3 PresR h vv r.vals
 e:Sl 8 EvR h ev r.evs
theorem RpX.ext {h h':Heap}{r:Reply}{vv ev:Value}(x:RpX h r vv ev)(e:Ext h h'):RpX h' r vv ev:=⟨x.v.ext (@PresR.ext) e,x.e.ext (@EvR.ext) e⟩
theorem RpX.no (h:Heap){r:Reply}(h1:r.vals=[])(h2:r.evs=[]):RpX h r (.slice none 0 0) (.slice none 0 0):=⟨.inl ⟨h1,_,_,rfl⟩,.inl ⟨h2,_,_,rfl⟩⟩
theorem rep_eq (a b:Reply):a=b↔a.err=b.err∧a.lost=b.lost∧a.vals=b.vals∧a.evs=b.evs:=by
 cases a; cases b; simp only[Reply.mk.injEq]; constructor<;>(rintro⟨h1,h2,h3,h4⟩; exact⟨h1,by assumption,by assumption,by assumption⟩)
set_option maxHeartbeats 4000000 in
theorem repSame_ok (a b:Reply){h:Heap}{va ea vb eb:Value}(x:RpX h a va ea)(y:RpX h b vb eb)(h1:a.vals.length<1000000)(h2:a.evs.length<1000000)(hk:∀ h',Ext h h'→K (.bool (decide (a=b))) h'):callM P qgEZ #[.agg (rplC a va ea).toArray,.agg (rplC b vb eb).toArray] h K:=by
 apply qqRZ
 unfold qhoZ
 refine nw_agg fun v1 g1 n1 e1 c1=>?_
 refine nw_agg fun v3 g3 n3 e3 c3=>?_
 have c1:=e3 _ _ c1
 have e0:=e1.trans e3
 have lx:=x.v.len
 have ly:=y.v.len
 have lex:=x.e.len
 have ley:=y.e.len
 have c1:g3 v1=some (.cells #[.int .i64 a.err,va,ea,.bool a.lost] qcZ (0,0)):=c1
 have c3:g3 v3=some (.cells #[.int .i64 b.err,vb,eb,.bool b.lost] qcZ (0,0)):=c3
 have ne:a≠b↔¬ (a.err=b.err∧a.lost=b.lost∧a.vals=b.vals∧a.evs=b.evs):=not_congr (rep_eq a b)
 by_cases q1:a.err=b.err
 rotate_left
 ·have:a≠b:=ne.2 fun hh=>q1 hh.1
  simp -implicitDefEqProofs[ld_at c1,cel_of c1,stm_at c1,ld_at c3,cel_of c3,stm_at c3,stm_upd,ld_same,cel_same,over,q1]
  exact kb (hk _ e0) (by simp[this])
 by_cases q2:a.lost=b.lost
 rotate_left
 ·have:a≠b:=ne.2 fun hh=>q2 hh.2.1
  have hbq:(a.lost == b.lost)=false:=by simpa using q2
  simp -implicitDefEqProofs[ld_at c1,cel_of c1,stm_at c1,ld_at c3,cel_of c3,stm_at c3,stm_upd,ld_same,cel_same,over,q1,hbq]
  exact kb (hk _ e0) (by simp[this])
 by_cases q3:a.vals.length=b.vals.length
 rotate_left
 ·have:a≠b:=ne.2 fun hh=>q3 (by rw[hh.2.2.1])
  have q3':¬ (a.vals.length:Int)=b.vals.length:=by omega
  simp -implicitDefEqProofs[ld_at c1,cel_of c1,stm_at c1,ld_at c3,cel_of c3,stm_at c3,stm_upd,ld_same,cel_same,over,q1,q2,lx,ly,q3']
  exact kb (hk _ e0) (by simp[this])
 simp -implicitDefEqProofs[ld_at c1,cel_of c1,stm_at c1,ld_at c3,cel_of c3,stm_at c3,stm_upd,ld_same,cel_same,over,q1,q2,lx,ly,q3]
 refine evSame_ok a.evs b.evs (x.e.ext (@EvR.ext) e0) (y.e.ext (@EvR.ext) e0) h2 ?_
 by_cases q4:a.evs=b.evs
 rotate_left
 ·have:a≠b:=ne.2 fun hh=>q4 hh.2.2.2
  simp -implicitDefEqProofs[q4]
  exact kb (hk _ e0) (by simp[this])
 simp -implicitDefEqProofs[q4]
 unfold qjRZ
 rw[seqM_eq]
 unfold qjQZ
 have hab:a=b↔a.vals=b.vals:=⟨fun e=>by rw[e],fun e=>(rep_eq a b).2 ⟨q1,q2,e,q4⟩⟩
 refine loop_on [2,3,4] (fun s h'=>h'=g3∧∃ i:Nat,i≤a.vals.length∧s 5 = .int .i64 i∧a.vals.take i=b.vals.take i) (fun s _=>(a.vals.length-num (s 5)).toNat) ⟨rfl,0,by omega,rfl,by simp⟩ ?_
 rintro s h3 hf ⟨rfl,i,hi,s5,hT⟩
 have s2:s 2=ptr v1:=by simpa using hf 2 (by simp)
 have s3:s 3=ptr v3:=by simpa using hf 3 (by simp)
 have s4:s 4 = .bool false:=by simpa using hf 4 (by simp)
 unfold qjPZ
 by_cases hlt:i<a.vals.length
 ·have hlt':(i:Int)<a.vals.length:=by omega
  have hly:i<b.vals.length:=by omega
  have hw:IntKind.i64.wrap ((i:Int)+1)=(i+1:Nat):=by rw[wrap64_id (by omega) (by omega)]; omega
  obtain⟨p1,p2,i1,i2⟩:=pres_ld x.v (k:=.i64) hlt
  obtain⟨p1',p2',j1,j2⟩:=pres_ld y.v (k:=.i64) hly
  simp -implicitDefEqProofs[s2,s5,ld_at c1,cel_of c1,stm_at c1,stm_upd,ld_same,cel_same,over,lx,hlt']
  unfold qjOZ
  simp -implicitDefEqProofs[s2,s3,s5,ld_at c1,cel_of c1,stm_at c1,ld_at c3,cel_of c3,stm_at c3,stm_upd,ld_same,cel_same,over,i1,j1,ldV_n (i2 _ e0),ldV_n (j2 _ e0)]
  simp -implicitDefEqProofs only[presC,presNe]
  by_cases he:a.vals[i]=b.vals[i]
  ·simp -implicitDefEqProofs[he]
   unfold qjNZ
   simp -implicitDefEqProofs[s2,s3,s4,s5,hw,-Int.natCast_add]
   exact⟨⟨i+1,by omega,rfl,take_eq_succ hT hlt hly he⟩,by omega⟩
  ·have:a≠b:=fun e=>he (by simp only[e])
   simp -implicitDefEqProofs[he]
   unfold qjMZ
   simp -implicitDefEqProofs[s4]
   exact kb (hk _ e0) (by simp[this])
 ·have:i=a.vals.length:=by omega
  subst this
  have he:a.vals=b.vals:=by
   rw[List.take_of_length_le (Nat.le_refl _),List.take_of_length_le (by omega)] at hT; exact hT
  simp -implicitDefEqProofs[s2,s5,ld_at c1,cel_of c1,stm_at c1,stm_upd,ld_same,cel_same,over,lx]
  exact kb (hk _ e0) (by simp[hab.2 he])
theorem mdoW_ok (o:OpD)(ow:OpW o)(hkd:o.kind=1∨o.kind=2∨o.kind=3)(hl:o.users.length<1000000){who:Nat}(hw:who<8){T:Tags}{h:Heap}{uv:Value}(hu:Sl 1 StrR (fz T h) uv o.users){g:Tag}{p m:Nat}{M:Tbl}(w:Wf T h)(gg:Gd g)(x:MdR T h g p M)(hs:TS m M)(hm:m<100000)
  (hk:∀ T' h',Only (pre g) T h T' h'→MdR T' h' g p (M.do_ who o).1→K (.agg (repC (M.do_ who o).2.err).toArray) h'):callM P qbQZ #[ptr p,.int .i64 who,.agg (opC o uv).toArray] h K:=by
 have hc:clientB (who:Int)=true:=by simp[clientB]; omega
 apply qofZ
 unfold qgRZ
 refine nw_agg fun v1 h0 n0 e0 c0=>?_
 have w0:=w.ext e0
 rw[zcRep]
 refine nw_tag w0 lc fun v3 T1 h1 n1 o1 t3 c3=>?_
 have o01:Only non T h T1 h1:=(Only.of_ext (U:=non) w e0).trans o1
 have b0:h0 v1=_∧T v1=[]:=⟨c0,w v1 n0⟩
 have b0:=o1.see b0 (not_non _)
 have b3:h1 v3=_∧T1 v3=lc:=⟨c3,t3⟩
 have x1:=x.up o01 (Off.non _) (not_non _)
 have n3:h v3=none:=by
  cases hh:h v3 with
  | none=>rfl
  | some ob=>rw[e0 _ _ hh] at n1; cases n1
 have oa:∀ h',h' v1=some (.cells (opC o uv).toArray qwZ (0,0))→ldV (some (some 7)) (ptr v1) h'=some (.agg (opC o uv).toArray):=fun h' hc=>by simp[ld_at hc,opC]
 have ok:∀ h',h' v1=some (.cells (opC o uv).toArray qwZ (0,0))→cel h' v1 0=some (.int .i64 o.kind):=fun h' hc=>by simp[cel_of hc,opC]
 simp -implicitDefEqProofs only[oa _ b0.1,ov_s]
 refine modBad_ok o ow (hu.ext (@StrR.ext) ((o01.ext (not_non _)).trans (fz_ext _ _))) hl fun h2 e2=>?_
 have o2:Only non T1 h1 T1 h2:=Only.of_ext o1.wf e2
 have o02:Only non T h T1 h2:=o01.trans o2
 have b0:=o2.see b0 (not_non _)
 have b3:=o2.see b3 (not_non _)
 have x2:=x1.up o2 (Off.non _) (not_non _)
 have c3':=b3.1
 unfold qidZ
 cases hb:badB o with
 | true =>
  have e:M.do_ who o=(M,repE 1):=by simp[Tbl.do_,hb]
  rw[e] at hk
  simp -implicitDefEqProofs
  unfold qffZ
  rw[bdRepE]
  simp -implicitDefEqProofs[ld_at c3',cel_of c3',stm_at c3',stm_upd,ld_same,cel_same,over]
  exact hk T1 _ ((o02.mono non_up).own n3 b3.1) (x2.kp (Only.lst o2.wf b3).k gg.off (by simp))
 | false =>
 have e:M.do_ who o=M.write o:=by simp[Tbl.do_,hb,hc,hkd]
 rw[e] at hk
 simp -implicitDefEqProofs
 refine within_ok _ _ _ ?_
 have hw':(0:Int)≤who∧(who:Int)≤7:=by omega
 simp -implicitDefEqProofs[hw']
 unfold qicZ
 rw[seqM_eq]
 unfold qibZ
 simp -implicitDefEqProofs[ok _ b0.1]
 rw[seqM_eq]
 have fin:∀ (s:Env),s 0=ptr p→s 5=ptr v1→s 6=ptr v3→s 20 = .bool true→∀ Q,(∀ T' h',Only (pre g) T h T' h'→MdR T' h' g p (M.write o).1→∀ s',s' 6=ptr v3→(h' v3=some (.cells (repC (M.write o).2.err).toArray qcZ (0,0)))→Q .ret [] s' h')→qcqZ s h2 Q []:=by
  intro s s0 s5 s6 s20 Q hQ
  unfold qcqZ
  simp -implicitDefEqProofs[s20]
  unfold qhsZ
  simp -implicitDefEqProofs only[s0,s5,oa _ b0.1,ov_s]
  refine mwrite_ok o ow hu.one o2.wf gg x2 hs hm fun T4 h4 o4 x4=>?_
  have b34:=o4.see b3 (fun hh=>gg.off lc hh rfl)
  have c34:=b34.1
  simp -implicitDefEqProofs[s6,ld_at c34,cel_of c34,stm_at c34,stm_upd,ld_same,cel_same,over,repC]
  refine hQ T4 _ (((o02.mono non_up).trans o4).own n3 b34.1) (x4.kp (Only.lst o4.wf b34).k gg.off (by simp)) _ (by simp[s6]) ?_
  rw[upd_same']; rfl
 have fin':∀ T' h',Only (pre g) T h T' h'→MdR T' h' g p (M.write o).1→∀ s':Env,s' 6=ptr v3→(h' v3=some (.cells (repC (M.write o).2.err).toArray qcZ (0,0)))→(retM P [.cell 6 86] K) .ret [] s' h':=by
  intro T' h' o' x' s' s6 c'
  simp -implicitDefEqProofs only[repC] at c'
  simp -implicitDefEqProofs[s6,ld_at c',cel_of c',stm_at c',stm_upd,ld_same,cel_same,over,tgRep86]
  exact hk T' h' o' x'
 unfold qiaZ
 rcases hkd with hk1 | hk1 | hk1
 ·simp -implicitDefEqProofs[hk1]
  unfold qhXZ
  simp -implicitDefEqProofs
  exact fin _ (by simp) (by simp) (by simp) (by simp) _ fun T' h' o' x' s' q6 c'=>by simpa using fin' T' h' o' x' s' q6 c'
 ·simp -implicitDefEqProofs[hk1]
  unfold qfgZ
  simp -implicitDefEqProofs[hk1]
  unfold qhYZ
  simp -implicitDefEqProofs
  exact fin _ (by simp) (by simp) (by simp) (by simp) _ fun T' h' o' x' s' q6 c'=>by simpa using fin' T' h' o' x' s' q6 c'
 ·simp -implicitDefEqProofs[hk1]
  unfold qfgZ
  simp -implicitDefEqProofs[hk1]
  unfold qhZZ
  simp -implicitDefEqProofs[hk1]
  exact fin _ (by simp) (by simp) (by simp) (by simp) _ fun T' h' o' x' s' q6 c'=>by simpa using fin' T' h' o' x' s' q6 c'
end Go.Proofs.YtcnphhhcknhhaaaGreat
namespace Go.Proofs.YtcnphhhcknhhaaaGreat
open Go Go.Den Go.MapKept
set_option linter.unusedSimpArgs false
set_option linter.unusedVariables false
set_option maxRecDepth 20000
theorem g4:Gd [4]:=⟨3,[],rfl⟩
theorem dUW4:Off UW [4]:=fun t ht hh=>hh.elim (off_pre (g:=[]) (x:=[1]) (y:=[4]) (by simp) (by simp) t ht) (off_pre (g:=[]) (x:=[2]) (y:=[4]) (by simp) (by simp) t ht)
theorem d4UW:∀ t,UW t→¬ pre [4] t:=fun t ht h=>dUW4 t h ht
def U5 (t:Tag):Prop:=UW t∨pre [4] t
theorem U5.nil:¬ U5 []:=by rintro (h | h); exact UW.nil h; simp[pre] at h
def Two (hp mp m N:Nat)(c:Cfg)(W:Wd)(M:Tbl)(T:Tags)(h:Heap):Prop:=RW T h hp m N c W M T h∧MdR T h [4] mp M
theorem Two.ext {hp mp m N:Nat}{c:Cfg}{W:Wd}{M:Tbl}{T:Tags}{h h':Heap}(x:Two hp mp m N c W M T h)(e:Ext h h'):Two hp mp m N c W M T h' :=
 have o:=Only.of_ext (U:=non) x.1.o.wf e
 ⟨x.1.base o (fun _ _ h=>h) (not_non _),x.2.kp o.k (Off.non _) (not_non _)⟩
end Go.Proofs.YtcnphhhcknhhaaaGreat
namespace Go.Proofs.YtcnphhhcknhhaaaGreat
open Go Go.Den Go.MapKept
set_option linter.unusedSimpArgs false
set_option linter.unusedVariables false
set_option maxRecDepth 20000
variable {K:KTy}
set_option maxHeartbeats 2000000 in
theorem msweep_ok {s:Nat}{T:Tags}{h:Heap}{g:Tag}{p m:Nat}{M:Tbl}(w:Wf T h)(gg:Gd g)(x:MdR T h g p M)(hsn:s<M.n)(hs:TS m M)(hm:m<100000)
  (hk:∀ T' h',Only (pre g) T h T' h'→MdR T' h' g p (M.sweep s)→K (.tuple #[]) h'):callM P qgFZ #[ptr p,.int .i64 s] h K:=by
 have n8:M.n≤8:=by have:=hs.nn; have:=hs.rt; simp[rightB] at this; omega
 have e:M.sweep s=M.take.sweepAt s M.take.t:=by
  have hc:(0:Int)≤s∧(s:Int)<M.n:=by omega
  simp -implicitDefEqProofs only[Tbl.sweep,if_pos hc,Int.toNat_natCast]
 rw[e] at hk
 apply qqSZ
 unfold qhpZ
 obtain⟨bv,fv,Kk,V,F,x⟩:=x
 have cp:=x.hp
 simp -implicitDefEqProofs only[mdC] at cp
 have hlen:=x.bk.len
 have h0:¬ (s:Int)<0:=by omega
 have h1:¬ (M.n:Int)≤s:=by omega
 simp -implicitDefEqProofs[ld_at cp,cel_of cp,stm_at cp,stm_upd,ld_same,cel_same,over,hlen,h0,h1]
 unfold qjUZ
 refine mtake_ok w gg x hs.ts fun h2 o2 x2=>?_
 have cp:=x2.hp
 simp -implicitDefEqProofs only[mdC] at cp
 obtain⟨b,rb,ia,l1⟩:=x2.ldb (s:=s) hsn
 have hbr:=x2.br s hsn
 have bm:=hs.bk s hsn
 have fg:=(hs.fd s hsn).g hm
 have ht0:M.take.t.now=M.t.now:=rfl
 have hlen2:(sweepB (M.bk s) M.t.now).2.length<100000:=Nat.lt_of_le_of_lt (sweep_chg (M.bk s) M.t.now (M.bk s).length) (by have:=bm.bl; omega)
 unfold qjTZ
 simp -implicitDefEqProofs[ld_at cp,cel_of cp,stm_at cp,stm_upd,ld_same,cel_same,over,ia,l1,ht0]
 refine bsweep_ok _ bm.bw (by have:=bm.bl; omega) bm.bs (fun y hy=>by have:=bm.bn y hy; omega) M.t.now o2.wf hbr fun h5 k v cv e5 hb hc=>?_
 have o5:Only non T h2 T h5:=Only.of_ext o2.wf e5
 have x5:=x2.kp o5.k (Off.non _) (not_non _)
 have cp5:=x5.hp
 simp -implicitDefEqProofs only[mdC] at cp5
 have p1:=hb.1.one
 have p2:=hb.2.1.one
 unfold qjSZ
 simp -implicitDefEqProofs[ld_at cp5,cel_of cp5,stm_at cp5,stm_upd,ld_same,cel_same,over,ia]
 refine mbook_tell (seq:=M.take.t.seq) o5.wf gg x5 hsn rb hb hc (by show (sweepB (M.bk s) M.t.now).2.length<_; omega) fg fun h6 o6 ⟨fb,f1,f2⟩ cp6 hT=>?_
 simp -implicitDefEqProofs only[mdC] at cp6
 simp -implicitDefEqProofs[ld_at cp6,cel_of cp6,stm_at cp6,stm_upd,ld_same,cel_same,over,f1,f2]
 refine hT _ fun T7 h7 o7 x7=>?_
 exact hk T7 h7 (((o2.mono fun _=>eq_pre).up o5 non_up).trans o7) x7
end Go.Proofs.YtcnphhhcknhhaaaGreat
namespace Go.Proofs.YtcnphhhcknhhaaaGreat
open Go Go.Den Go.MapKept
set_option linter.unusedSimpArgs false
set_option linter.unusedVariables false
set_option maxRecDepth 20000
theorem u32_id {a:Int}(h0:0≤a)(h1:a<4294967296):IntKind.u32.wrap a=a:=by
 unfold IntKind.wrap
 simp -implicitDefEqProofs[IntKind.bits,IntKind.signed]
 omega
theorem pow8 {w:Nat}(hw:w<8):(2:Int) ^ w≤128∧0<(2:Int) ^ w:=by
 have:w=0∨w=1∨w=2∨w=3∨w=4∨w=5∨w=6∨w=7:=by omega
 rcases this with rfl | rfl | rfl | rfl | rfl | rfl | rfl | rfl<;>decide
theorem b_shl {w:Nat}(hw:w<8):binV .shl 2 true (.int .u32 1) (.int .i64 w)=some (.int .u32 (2 ^ w)):=by
 have h:=pow8 hw
 have h0:¬ (w:Int)<0:=by omega
 have hm:min w 32=w:=by omega
 simp -implicitDefEqProofs only[binV,intV,if_neg h0,Int.toNat_natCast,IntKind.bits,hm,Int.one_mul]
 rw[u32_id (by omega) (by omega)]
theorem b_or {m:Int}{w:Nat}(hw:w<8):binV .or 2 false (.int .u32 m) (.int .u32 (2 ^ w))=some (.int .u32 (mor m w)):=by
 have:=mor_rng m w
 simp -implicitDefEqProofs only[binV,intV,if_true,bitV,IntKind.bits]
 show some (Value.int .u32 (IntKind.u32.wrap ((BitVec.ofInt 32 m ||| BitVec.ofInt 32 (2 ^ w)).toNat:Int)))=_
 have e:((BitVec.ofInt 32 m ||| BitVec.ofInt 32 (2 ^ w)).toNat:Int)=mor m w:=by simp[mor]
 rw[e,u32_id this.1 this.2]
theorem b_clr {m:Int}{w:Nat}(hw:w<8):binV .andNot 2 false (.int .u32 m) (.int .u32 (2 ^ w))=some (.int .u32 (mclr m w)):=by
 have:=mclr_rng m w
 simp -implicitDefEqProofs only[binV,intV,if_true,bitV,IntKind.bits]
 show some (Value.int .u32 (IntKind.u32.wrap ((BitVec.ofInt 32 m &&& ~~~BitVec.ofInt 32 (2 ^ w)).toNat:Int)))=_
 have e:((BitVec.ofInt 32 m &&& ~~~BitVec.ofInt 32 (2 ^ w)).toNat:Int)=mclr m w:=by simp[mclr]
 rw[e,u32_id this.1 this.2]
theorem FeedX.stw {T:Tags}{h:Heap}{g:Tag}{p:Nat}{f:Feed}{kw vw k v:Value}{q:Nat→Nat}(x:FeedX T h g p f kw vw q)(w:Wf T h)(gg:Gd g){ws:List (ByteArray × Int)}(y:WsR (fz T h) k v ws){c:Array Value}(hc:c=(feedC k v fun j=>ptr (q j)).toArray) :
  Only (fun t=>t=g++[0]) T h T (upd h p (.cells c qagZ (0,0)))∧FeedX T (upd h p (.cells c qagZ (0,0))) g p { f with ws:=ws } k v q:=by
 have o:Only (fun t=>t=g++[0]) T h T (upd h p (.cells c qagZ (0,0))):=Only.upd w x.hp x.tp
 have e:=o.ext (by simp)
 exact⟨o,by rw[upd_same',hc],x.tp,y.1.ext (@StrR.ext) e,y.2.1.ext (@MaskR.ext) e,fun j hj=>(x.xq j hj).kp o.k (off_eq (by simp)),y.2.2.1,y.2.2.2⟩
variable {K:KTy}
theorem fwatch_ok (who:Int)(u:ByteArray)(hu:u.size≤maxLen){T:Tags}{h:Heap}{g:Tag}{p:Nat}{f:Feed}(w:Wf T h)(gg:Gd g)(x:FeedR T h g p f)(fg:FdG f)(hl:f.ws.length<999999)
  (hk:∀ T' h',Only (pre g) T h T' h'→FeedR T' h' g p (f.watch who u)→K (.tuple #[]) h'):callM P qfbZ #[ptr p,.int .i64 who,.string u] h K:=by
 apply qsaZ
 unfold qiLZ
 refine client_ok who ?_
 unfold qmLZ
 cases hc:clientB who with
 | false =>
  simp -implicitDefEqProofs
  have e:f.watch who u=f:=by simp[Feed.watch,hc]
  rw[e] at hk
  exact hk T h (Only.refl w) x
 | true =>
 have e:f.watch who u={ f with ws:=putB f.ws u (mor (valL 0 f.ws u) who) }:=by simp[Feed.watch,hc]
 rw[e] at hk
 obtain⟨n,rfl⟩:∃ n:Nat,who=n:=⟨who.toNat,by simp[clientB] at hc; omega⟩
 have hn:n<8:=by simp[clientB] at hc; omega
 simp -implicitDefEqProofs
 unfold qmKZ
 obtain⟨kw,vw,q,x⟩:∃ kw vw q,FeedX T h g p f kw vw q:=by
  obtain⟨kw,vw,q,a1,a2,a3,a4,a5,a6,a7⟩:=x
  exact⟨kw,vw,q,a1,a2,a3,a4,a5,a6,a7⟩
 have cp:=x.hp
 have hws:WsR (fz T h) kw vw f.ws:=⟨x.x1,x.x2,x.s1,x.s2⟩
 have ldw:∀ h',h' p=some (.cells (feedC kw vw fun j=>ptr (q j)).toArray qagZ (0,0))→ldV (some (some 2)) (.pointer (some ⟨p,0,none⟩)) h'=some (.agg #[kw,vw]):=fun h' c=>by simp[ld_at c,feedC,feedG,List.range_succ]
 simp -implicitDefEqProofs[ldw _ cp]
 refine mget_ok f.ws fg.so u (fz_ext T h) hws (by omega) fun h1 e1=>?_
 have o1:Only non T h T h1:=Only.of_ext w e1
 have x1:=x.kp o1.k (Off.non _) (not_non _)
 unfold qmJZ
 simp -implicitDefEqProofs[ldw _ x1.hp,b_shl hn,b_or hn]
 refine mwith_ok f.ws fg.so u hu _ o1.wf ⟨x1.x1,x1.x2,x1.s1,x1.s2⟩ (by omega) fun h2 k v e2 y2=>?_
 have o2:Only non T h1 T h2:=Only.of_ext o1.wf e2
 have x2:=x1.kp o2.k (Off.non _) (not_non _)
 have cp2:=x2.hp
 have p1:=y2.1.one
 have p2:=y2.2.1.one
 obtain⟨o3,x3⟩:=x2.stw o2.wf gg y2 (c:=(feedC k v fun j=>ptr (q j)).toArray) rfl
 simp -implicitDefEqProofs only[feedC,feedG,List.range_succ] at cp2 o3 x3
 simp at cp2 o3 x3
 simp -implicitDefEqProofs[ld_at cp2,cel_of cp2,stm_at cp2,stm_upd,ld_same,cel_same,over,p1.1,p1.2,p2.1,p2.2]
 exact hk T _ (((o1.trans o2).mono fun _=>non_up _).up o3 fun t=>eq_pre) x3.r
theorem funwatch_ok (who:Int)(u:ByteArray)(hu:u.size≤maxLen){T:Tags}{h:Heap}{g:Tag}{p:Nat}{f:Feed}(w:Wf T h)(gg:Gd g)(x:FeedR T h g p f)(fg:FdG f)(hl:f.ws.length<999999)
  (hk:∀ T' h',Only (pre g) T h T' h'→FeedR T' h' g p (f.unwatch who u)→K (.tuple #[]) h'):callM P qdGZ #[ptr p,.int .i64 who,.string u] h K:=by
 apply qqYZ
 unfold qhyZ
 obtain⟨kw,vw,q,x⟩:∃ kw vw q,FeedX T h g p f kw vw q:=by
  obtain⟨kw,vw,q,a1,a2,a3,a4,a5,a6,a7⟩:=x
  exact⟨kw,vw,q,a1,a2,a3,a4,a5,a6,a7⟩
 have cp:=x.hp
 have hws:WsR (fz T h) kw vw f.ws:=⟨x.x1,x.x2,x.s1,x.s2⟩
 have ldw:∀ h',h' p=some (.cells (feedC kw vw fun j=>ptr (q j)).toArray qagZ (0,0))→ldV (some (some 2)) (.pointer (some ⟨p,0,none⟩)) h'=some (.agg #[kw,vw]):=fun h' c=>by simp[ld_at c,feedC,feedG,List.range_succ]
 simp -implicitDefEqProofs[ldw _ cp]
 refine mget_ok f.ws fg.so u (fz_ext T h) hws (by omega) fun h1 e1=>?_
 have o1:Only non T h T h1:=Only.of_ext w e1
 have x1:=x.kp o1.k (Off.non _) (not_non _)
 have p1':Only (pre g) T h T h1:=o1.mono fun _=>non_up _
 unfold qkzZ
 simp -implicitDefEqProofs
 refine client_ok who ?_
 unfold qkyZ
 cases hc:clientB who with
 | false =>
  have e:f.unwatch who u=f:=by simp[Feed.unwatch,hc]
  rw[e] at hk
  simp -implicitDefEqProofs
  exact hk T h1 p1' x1.r
 | true =>
 obtain⟨n,rfl⟩:∃ n:Nat,who=n:=⟨who.toNat,by simp[clientB] at hc; omega⟩
 have hn:n<8:=by simp[clientB] at hc; omega
 by_cases hm:valL 0 f.ws u=0
 ·have e:f.unwatch n u=f:=by simp[Feed.unwatch,hm]
  rw[e] at hk
  simp -implicitDefEqProofs[hm]
  exact hk T h1 p1' x1.r
 simp -implicitDefEqProofs[hm]
 unfold qkxZ
 simp -implicitDefEqProofs[b_shl hn,b_clr hn]
 by_cases hz:mclr (valL 0 f.ws u) n=0
 ·have e:f.unwatch n u={ f with ws:=delB f.ws u }:=by simp[Feed.unwatch,hc,hm,hz]
  rw[e] at hk
  simp -implicitDefEqProofs[hz]
  unfold qkvZ
  simp -implicitDefEqProofs[ldw _ x1.hp]
  refine mwithout_ok f.ws fg.so u o1.wf ⟨x1.x1,x1.x2,x1.s1,x1.s2⟩ (by omega) fun h2 k v e2 y2=>?_
  have o2:Only non T h1 T h2:=Only.of_ext o1.wf e2
  have x2:=x1.kp o2.k (Off.non _) (not_non _)
  have cp2:=x2.hp
  have p1:=y2.1.one
  have p2:=y2.2.1.one
  obtain⟨o3,x3⟩:=x2.stw o2.wf gg y2 (c:=(feedC k v fun j=>ptr (q j)).toArray) rfl
  simp -implicitDefEqProofs only[feedC,feedG,List.range_succ] at cp2 o3 x3
  simp at cp2 o3 x3
  simp -implicitDefEqProofs[ld_at cp2,cel_of cp2,stm_at cp2,stm_upd,ld_same,cel_same,over,p1.1,p1.2,p2.1,p2.2]
  exact hk T _ (((o1.trans o2).mono fun _=>non_up _).up o3 fun t=>eq_pre) x3.r
 ·have e:f.unwatch n u={ f with ws:=putB f.ws u (mclr (valL 0 f.ws u) n) }:=by simp[Feed.unwatch,hc,hm,hz]
  rw[e] at hk
  simp -implicitDefEqProofs[hz]
  unfold qkwZ
  simp -implicitDefEqProofs[ldw _ x1.hp]
  refine mwith_ok f.ws fg.so u hu _ o1.wf ⟨x1.x1,x1.x2,x1.s1,x1.s2⟩ (by omega) fun h2 k v e2 y2=>?_
  have o2:Only non T h1 T h2:=Only.of_ext o1.wf e2
  have x2:=x1.kp o2.k (Off.non _) (not_non _)
  have cp2:=x2.hp
  have p1:=y2.1.one
  have p2:=y2.2.1.one
  obtain⟨o3,x3⟩:=x2.stw o2.wf gg y2 (c:=(feedC k v fun j=>ptr (q j)).toArray) rfl
  simp -implicitDefEqProofs only[feedC,feedG,List.range_succ] at cp2 o3 x3
  simp at cp2 o3 x3
  simp -implicitDefEqProofs[ld_at cp2,cel_of cp2,stm_at cp2,stm_upd,ld_same,cel_same,over,p1.1,p1.2,p2.1,p2.2]
  exact hk T _ (((o1.trans o2).mono fun _=>non_up _).up o3 fun t=>eq_pre) x3.r
theorem hwatch_ok (who:Int){s:Nat}(u:ByteArray)(hu:u.size≤maxLen)(on:Bool){T:Tags}{h:Heap}{g:Tag}{p m:Nat}{H:Hall}(w:Wf T h)(gg:Gd g)(x:HallR T h g p H)(hs:s<H.n)(hh:HS m H)(hm:m<100000)
  (hk:∀ T' h',Only (pre g) T h T' h'→HallR T' h' g p (H.watch who s u on)→K (.tuple #[]) h'):callM P qeYZ #[ptr p,.int .i64 who,.int .i64 s,.string u,.bool on] h K:=by
 apply qrVZ
 unfold qiGZ
 obtain⟨sv,av,Y,x⟩:=x
 refine hwr_ok who w gg x hs hh.n8.2 (by have:=hh.ac; omega) fun T2 h2 av2 b o2 x2 rb=>?_
 obtain⟨b',ob,rb',hb1,tb,ia,l1,l2,l3,l4,l5,l6⟩:=x2.lds (s:=s) (k:=.i64) hs
 have hbb:b'=b:=by rw[rb] at rb'; cases rb'; rfl
 subst hbb
 have hf:=(x2.sr s hs).2.2
 have fd:=(hh.st s hs).fd
 have fg:=fd.g hm
 have hl:((H.wr who s).ss s).feed.ws.length<999999:=by have:=fd.len; show (H.ss s).feed.ws.length<_; omega
 have oh:Only (pre g) T h T2 h2:=o2.mono fun _=>U02.pre
 unfold qmBZ
 simp -implicitDefEqProofs[l5]
 cases on with
 | true =>
  simp -implicitDefEqProofs
  refine fwatch_ok who u hu o2.wf (gg.app [3,s]) hf fg hl fun T4 h4 o4 r4=>?_
  exact hk T4 h4 (oh.up o4 fun t=>pre_trans) ⟨sv,av2,_,x2.fed hs o4 gg r4⟩
 | false =>
  simp -implicitDefEqProofs
  refine funwatch_ok who u hu o2.wf (gg.app [3,s]) hf fg hl fun T4 h4 o4 r4=>?_
  exact hk T4 h4 (oh.up o4 fun t=>pre_trans) ⟨sv,av2,_,x2.fed hs o4 gg r4⟩
end Go.Proofs.YtcnphhhcknhhaaaGreat
namespace Go.Proofs.YtcnphhhcknhhaaaGreat
open Go Go.Den Go.MapKept
set_option linter.unusedSimpArgs false
set_option linter.unusedVariables false
set_option maxRecDepth 20000
def evX (l:List Evt):List (Array Value):=l.map fun e=>#[.agg (evC e).toArray]
theorem zcEv:zc P quZ=some #[.string ⟨#[]⟩,.int .i64 0,.int .i64 0,.int .i64 0,.int .i64 0,.int .i64 0,.int .i64 0,.int .u64 0]:=by kernel_rfl
theorem rall_it (r : Ring) {hA : Heap} {b p : Nat} {lv : Value} (cb : hA b = some (.cells #[ptr p] qPZ (0, 0))) (cp : hA p = some (.cells (ringC r lv).toArray qzZ (0, 0))) (x : Sl 8 EvR hA lv r.l) (hl : r.l.length < 1000000) :
    It P qchZ #[ptr b] (evX r.l) hA := by
  intro yv I S h K hx hs h0 hround hK1 hK2
  apply qnlZ
  unfold qcBZ
  have cb0 := hx _ _ h0 _ _ cb
  have cp0 := hx _ _ h0 _ _ cp
  simp -implicitDefEqProofs only [ringC] at cp0
  have hlen := x.len
  simp -implicitDefEqProofs [ld_at cb0, cel_of cb0, stm_at cb0, ld_at cp0, cel_of cp0, stm_at cp0, stm_upd, ld_same, cel_same, over, hlen]
  refine loop_on [0, 8, 9] (fun s h' => ∃ k : Nat, k ≤ r.l.length ∧ s 10 = .int .i64 k ∧ I k h') (fun s _ => (r.l.length - num (s 10)).toNat) ⟨0, by omega, rfl, h0⟩ ?_
  rintro s h1 hf ⟨k, hk, s10, hI⟩
  have s0 : s 0 = yv := by simpa using hf 0 (by simp)
  have s8 : s 8 = lv := by simpa using hf 8 (by simp)
  have s9 : s 9 = .int .i64 r.l.length := by simpa using hf 9 (by simp)
  unfold qfnZ
  simp -implicitDefEqProofs only [s9, s10, bin_lss, ov_s, cd_b]
  refine ⟨fun hc => ?_, fun hc => ?_⟩
  rotate_left
  · have : k = r.l.length := by have : ¬ ((k : Int) < r.l.length) := by simpa using hc
                                omega
    subst this
    simp -implicitDefEqProofs
    exact hK1 _ _ (by simpa [evX] using hI)
  have hlt : k < r.l.length := by have : ((k : Int) < r.l.length) := by simpa using hc
                                  omega
  have hw : IntKind.i64.wrap ((k : Int) + 1) = k + 1 := wrap64_id (by omega) (by omega)
  have eA := hx _ _ hI
  obtain ⟨eb, eo, i1, i2⟩ := ev_ld x (k := .i64) hlt
  unfold qfmZ
  simp -implicitDefEqProofs only [s8, s10, i1, ov_s, ldV_n (i2 _ eA), zcEv]
  refine nw_st rfl (by simp [evC, presC]) (by simp [evC, presC]) fun vb h3 n3 e3 c3 => ?_
  have c3 : h3 vb = some (.cells (evC r.l[k]).toArray quZ (0, 0)) := by simpa using c3
  have hld : ldV (some (some 8)) (ptr vb) h3 = some (.agg (evC r.l[k]).toArray) := by simp [ld_at c3, evC, presC]
  simp -implicitDefEqProofs only [hld, ov_s, s0]
  have hj : k < (evX r.l).length := by simpa [evX] using hlt
  have hr := hround k hj h3
  have hx' : (evX r.l)[k] = #[.agg (evC r.l[k]).toArray] := by simp [evX]
  rw [hx'] at hr
  refine hr _ (hs _ _ _ hI e3) (fun h4 hI4 => ?_) (fun h4 hS => ?_)
  · unfold qbPZ qflZ
    simp -implicitDefEqProofs [s10, hw, s0, s8, s9]
    exact ⟨⟨k + 1, by omega, by simp, hI4⟩, by omega⟩
  · unfold qbPZ
    simp -implicitDefEqProofs
    exact hK2 _ _ hS
def DrJ (hB:Heap)(v1:Nat)(l:List Evt)(q b' i:Nat)(h':Heap):Prop :=
 ∃ ov,h' v1=some (.cells #[ov] qkZ (0,0))∧Row 8 quZ h' ov i ((l.take i).flatMap evC)∧Ext (wo hB [v1]) h'∧∀ r,rowOf ov=some r→r≠v1∧r≠q∧r≠b'∧hB r=none
def DrC (hB:Heap)(v1:Nat)(l:List Evt)(q b' i:Nat)(s2:Env)(h':Heap):Prop:=DrJ hB v1 l q b' i h'∧s2 4=ptr v1∧∃ (hi:i<l.length) (xb:Nat),s2 5=ptr xb∧xb≠q∧xb≠v1∧h' xb=some (.cells (evC l[i]).toArray quZ (0,0))
theorem DrJ.keep {hB:Heap}{v1:Nat}{l:List Evt}{q b' i:Nat}{h' h'':Heap}(J:DrJ hB v1 l q b' i h')(hl':hB q=none)(h3:hB v1≠none)(k:Keep (some q) h' h''):DrJ hB v1 l q b' i h'':=by
 obtain⟨ov,c,r,e,n⟩:=J
 refine⟨ov,k _ _ c (fun hh=>by cases hh; exact h3 hl'),r.of_at fun g hg=>?_,wo_keep e hl' k,n⟩
 obtain⟨o,ho⟩:=r.lt g hg
 rw[ho]; exact k _ _ ho (fun hh=>(n g hg).2.1 (by cases hh; rfl))
theorem zcSlEv:zc P qkZ=some #[.slice none 0 0]:=by kernel_rfl
variable {K:KTy}
set_option maxHeartbeats 2000000 in
theorem rdrain_ok {T:Tags}{h:Heap}{g:Tag}{p:Nat}{r:Ring}(w:Wf T h)(gg:Gd g)(x:RingR T h g p r)(hl:r.l.length<1000000)
  (hk:∀ T' h' v,Only (pre g) T h T' h'→RingR T' h' g p ⟨r.room,[],false⟩→Sl 8 EvR (fz T' h') v r.l→K (.tuple #[v,.bool r.lost]) h'):callM P qBZ #[ptr p] h K:=by
 apply qnGZ
 unfold qcQZ
 rw[zcSlEv]
 refine nw_intro fun v1 h1 n1 e1 c1=>?_
 obtain⟨lv,cp,tp,rl⟩:=x
 have cp1:=e1 _ _ cp
 have xs:Sl 8 EvR h lv r.l:=Row.slE (enc:=evC) (R:=EvR) (fun e=>by simp[evC,presC]) (fun _=>rfl) rl.1
 have n1p:p≠v1:=fun hh=>by subst hh; rw[cp] at n1; cases n1
 rw[seqM_eq]
 unfold qfsZ
 apply qoaZ
 unfold qdIZ
 simp -implicitDefEqProofs only[nwM_s,Value.cells]
 intro bA nA
 have eA:Ext h1 (upd h1 bA _):=Ext.upd nA (.cells #[ptr p] qPZ (0,0))
 have cA:=upd_same' h1 bA (.cells #[ptr p] qPZ (0,0))
 generalize upd h1 bA _=hB at *
 have nA1:v1≠bA:=ne_fresh c1 nA
 have c1:=eA _ _ c1
 have cp2:=eA _ _ cp1
 have e0B:=e1.trans eA
 have h1B:hB v1≠none:=by rw[c1]; simp
 have F1:Ext h (wo hB [v1]):=wo_ext e0B (by simpa using n1)
 have hlx:(evX r.l).length=r.l.length:=by simp[evX]
 simp -implicitDefEqProofs only[ov_s]
 unfold qfrZ
 refine rf_go good mixed rfl (by kernel_rfl) (rall_it r (hA:=wo hB [v1]) (b:=bA) (p:=p) (lv:=lv) (by rw[wo_out (by simpa using Ne.symm nA1)]; exact cA) (by rw[wo_out (by simpa using n1p)]; exact cp2) (xs.ext (@EvR.ext) F1) hl)
  (fun q b' i h'=>DrJ hB v1 r.l q b' i h') (fun _ _ _ _=>False) (fun q b' i s2 h'=>DrC hB v1 r.l q b' i s2 h') ?_ ?_ ?_ (fun _ _ _ _ _ _ _ h _=>h) ?_ ?_ ?_ ?_ ?_ (fun _ _ _ _ _ _ _ h=>h.elim) (fun _ _ _ _ _ _ _ _ h=>h.elim)
 ·intro q b' hq hb'
  exact⟨_,c1,by simpa using (Rf.nil (sz:=8) (e:=quZ) (Ext.refl hB)).row,fun k o hk=>(wo_get hk).2,fun k hk=>by simp[rowOf] at hk⟩
 ·intro q b' i h' J; obtain⟨ov,_,_,e,_⟩:=J; exact e
 ·intro q b' hq hb' i h' h'' J k
  exact J.keep hq h1B k
 ·rintro q b' i s2 ha hb hq hb' ⟨J,s4,hi,xb,s5,nx,nx1,cx⟩ k
  exact⟨J.keep hq h1B k,s4,hi,xb,s5,nx,nx1,k _ _ cx (fun hh=>nx (by cases hh; rfl))⟩
 ·intro i hi; simp[evX]
 ·rintro i hi q b' h2 hq hb' ⟨ol,hol⟩ ⟨ob,hob⟩ J
  rw[qlwZ]
  unfold qfjZ
  rw[zcEv]
  have hib:i<r.l.length:=by omega
  have hxi:(evX r.l)[i]=#[.agg (evC r.l[i]).toArray]:=by simp[evX]
  rw[hxi]
  simp -implicitDefEqProofs
  refine nw_st rfl (by simp[evC,presC]) (by simp[evC,presC]) fun xb h4 n4 e4 c4=>?_
  have nx:xb≠q:=fun hh=>by subst hh; rw[hol] at n4; cases n4
  obtain⟨ov,cv,rr,e,nr⟩:=J
  refine⟨⟨⟨ov,e4 _ _ cv,rr.ext e4,e.trans e4,nr⟩,by simp,hib,xb,by simp,nx,fun hh=>(by subst hh; rw[cv] at n4; cases n4),by simpa using c4⟩,by rw[hol,e4 _ _ hol],by rw[hob,e4 _ _ hob]⟩
 ·rintro i hi q b' s2 h3 hq hb' ⟨ol,hol⟩ ⟨ob,hob⟩ ⟨⟨ov,cv,rr,e,nr⟩,s4,hib,xb,s5,nx,nx1,cx⟩
  rw[qlxZ]
  unfold qfkZ
  have hld:ldV (some (some 8)) (ptr xb) h3=some (.agg (evC r.l[i]).toArray):=by simp[ld_at cx,evC,presC]
  simp -implicitDefEqProofs[s4,s5,ld_at cv,cel_of cv,stm_at cv,stm_upd,ld_same,cel_same,over,hld]
  refine app_one (x:=.agg (evC r.l[i]).toArray) bsEv unSlEv apEv (by omega) (by simp[evC,presC]) (by simp[evC,presC]) rr (by unfold maxLen; omega) (by omega) (by omega) fun a ov' h4 r4 k4 ha=>?_
  have hl3:q≠v1:=fun hh=>by subst hh; rw[hq] at c1; cases c1
  have hb3:b'≠v1:=fun hh=>by subst hh; rw[hb'] at c1; cases c1
  have cv4:h4 v1=some (.cells #[ov] qkZ (0,0)):=k4 _ _ cv (fun hh=>(nr v1 hh.symm).1 rfl)
  have hol4:h4 q=some ol:=k4 _ _ hol (fun hh=>(nr q hh.symm).2.1 rfl)
  have hob4:h4 b'=some ob:=k4 _ _ hob (fun hh=>(nr b' hh.symm).2.2.1 rfl)
  have nr':∀ k,rowOf ov'=some k→k≠v1∧k≠q∧k≠b'∧hB k=none:=fun k hk=>by
   rcases ha with ha | ⟨j,ha,hj⟩
   ·exact nr k (by rw[← ha]; exact hk)
   ·rw[ha] at hk; cases hk
    refine⟨fun hh=>?_,fun hh=>?_,fun hh=>?_,?_⟩
    ·subst hh; rw[cv] at hj; cases hj
    ·subst hh; rw[hol] at hj; cases hj
    ·subst hh; rw[hob] at hj; cases hj
    ·by_cases hg3:k=v1
     ·subst hg3; rw[cv] at hj; cases hj
     ·cases hh:hB k with
      | none=>rfl
      | some o =>
       have:=e k o (by rw[wo_out (by simpa using hg3)]; exact hh)
       rw[this] at hj; cases hj
  have okv:ov'.cells=#[ov']:=r4.one.2
  simp -implicitDefEqProofs[ld_at cv4,cel_of cv4,stm_at cv4,stm_upd,ld_same,cel_same,over,okv,r4.one.1]
  refine⟨by rw[upd_ne hl3,hol4,hol],by rw[upd_ne hb3,hob4,hob],ov',upd_same' _ _ _,?_,wo_upd ?_ (by simp),nr'⟩
  ·have:r.l.take (i+1)=r.l.take i++[r.l[i]]:=by rw[List.take_succ_eq_append_getElem hib]
   rw[this,List.flatMap_append]
   exact (by simpa using r4:Row 8 quZ h4 ov' (i+1) _).of_at fun k hk=>upd_ne (nr' k hk).1
  ·intro k o hk
   have hkB:=wo_get hk
   have:=e k o hk
   exact k4 k o this fun hh=>by rw[(nr k hh.symm).2.2.2] at hkB; cases hkB.2
 ·intro q b' h' hq hne hb' hd J
  rw[hlx] at J
  obtain⟨ov,cv,rr,e,nr⟩:=J
  rw[List.take_of_length_le (Nat.le_refl _)] at rr
  have cp3:=e _ _ (show wo hB [v1] p=_ by rw[wo_out (by simpa using n1p)]; exact cp2)
  have nb1:v1≠b':=fun hh=>by subst hh; rw[hb'] at c1; cases c1
  have nbp:p≠b':=fun hh=>by subst hh; rw[hb'] at cp2; cases cp2
  simp -implicitDefEqProofs only[ringC] at cp3
  simp -implicitDefEqProofs only[blkM_n,thenM_n]
  unfold qftZ
  simp -implicitDefEqProofs[ld_at cp3,cel_of cp3,stm_at cp3,ld_at cv,cel_of cv,stm_at cv,stm_skip n1p,stm_skip (Ne.symm n1p),ld_skip n1p,ld_skip (Ne.symm n1p),cel_skip n1p,cel_skip (Ne.symm n1p),stm_upd,ld_same,cel_same,over,hd,ld_skip nb1,cel_skip nb1,upd_ne (Ne.symm nbp)]
  obtain⟨X,hX⟩:∃ X,X=Obj.cells #[Value.int .i64 r.room,.slice none 0 0,.bool false] qzZ (0,0):=⟨_,rfl⟩
  rw[← hX]
  have ec:upd (upd h' p X) b' (.deferred none)=upd (upd h' b' (.deferred none)) p X:=by
   funext k
   by_cases h1:k=b'
   ·subst h1; rw[upd_same',upd_ne (Ne.symm nbp),upd_same']
   ·rw[upd_ne h1]
    by_cases h2:k=p
    ·subst h2; rw[upd_same',upd_same']
    ·rw[upd_ne h2,upd_ne h2,upd_ne h1]
  rw[ec]
  have E1:Ext h (upd h' b' (.deferred none)):=ext_upd (fresh_of e0B hb') (ext_wo e0B (by simpa using n1) e)
  have o1:Only non T h T (upd h' b' (.deferred none)):=Only.of_ext w E1
  have o2:Only (fun t=>t=g++[0]) T (upd h' b' (.deferred none)) T (upd (upd h' b' (.deferred none)) p X):=Only.upd o1.wf (E1 _ _ cp) tp
  have nrh:∀ k,rowOf ov=some k→h k=none:=fun k hk=>fresh_of e0B (nr k hk).2.2.2
  refine hk T _ ov ((o1.mono fun _=>non_up _).up o2 fun t=>eq_pre) ⟨.slice none 0 0,by rw[upd_same',hX]; rfl,tp,Rw.nil _ _ _ _ _⟩ ?_
  have r2:Row 8 quZ (upd (upd h' b' (.deferred none)) p X) ov r.l.length (r.l.flatMap evC):=rr.of_at fun j hj=>by
   have hjp:j≠p:=fun hh=>by have:=nrh j hj; rw[hh,cp] at this; cases this
   rw[upd_ne hjp,upd_ne (nr j hj).2.2.1]
  exact Row.slE (enc:=evC) (R:=EvR) (fun e=>by simp[evC,presC]) (fun _=>rfl) (r2.fz w nrh)
end Go.Proofs.YtcnphhhcknhhaaaGreat
namespace Go.Proofs.YtcnphhhcknhhaaaGreat
open Go Go.Den Go.MapKept
set_option linter.unusedSimpArgs false
set_option linter.unusedVariables false
set_option maxRecDepth 20000
variable {K:KTy}
theorem fdrain_ok (who:Int){T:Tags}{h:Heap}{g:Tag}{p:Nat}{f:Feed}(w:Wf T h)(gg:Gd g)(x:FeedR T h g p f)(hl:∀ j,j<8→(f.qs j).l.length<1000000)
  (hk:∀ T' h' v,Only (pre g) T h T' h'→FeedR T' h' g p (f.drain who)→Sl 8 EvR (fz T' h') v (f.told who)→K (.tuple #[v,.bool (f.lost who)]) h'):callM P qfcZ #[ptr p,.int .i64 who] h K:=by
 apply qsbZ
 unfold qiMZ
 refine client_ok who ?_
 unfold qmNZ
 cases hc:clientB who with
 | false =>
  simp -implicitDefEqProofs
  have e1:f.drain who=f:=by simp[Feed.drain,hc]
  have e2:f.told who=[]:=by simp[Feed.told,hc]
  have e3:f.lost who=false:=by simp[Feed.lost,hc]
  rw[e1,e2,e3] at hk
  exact hk T h _ (Only.refl w) x (.inl ⟨rfl,_,_,rfl⟩)
 | true =>
 obtain⟨n,rfl⟩:∃ n:Nat,who=n:=⟨who.toNat,by simp[clientB] at hc; omega⟩
 have hn:n<8:=by simp[clientB] at hc; omega
 have e1:f.drain n={ f with qs:=qset f.qs n ⟨(f.qs n).room,[],false⟩ }:=by simp[Feed.drain,hc]
 have e2:f.told n=(f.qs n).l:=by simp[Feed.told,hc]
 have e3:f.lost n=(f.qs n).lost:=by simp[Feed.lost,hc]
 rw[e1,e2,e3] at hk
 obtain⟨kw,vw,q,cp,tp,a3,a4,a5,a6,a7⟩:=x
 simp -implicitDefEqProofs
 unfold qmMZ
 have hcel:cel h p (2+n)=some (ptr (q n)):=by
  rw[cel_of cp]
  have:n=0∨n=1∨n=2∨n=3∨n=4∨n=5∨n=6∨n=7:=by omega
  rcases this with rfl | rfl | rfl | rfl | rfl | rfl | rfl | rfl<;>simp[feedC,feedG,List.range_succ]
 simp -implicitDefEqProofs[ia_arr hn,hcel]
 refine rdrain_ok w (gg.app [1,n]) (a5 n hn) (hl n hn) fun T2 h2 v o2 r2 s2=>?_
 simp -implicitDefEqProofs
 have b:=o2.k.at cp tp (not_pre (by simp))
 have nn:¬ pre (g++[1,n]) []:=(gg.app _).nil
 refine hk T2 h2 v (o2.mono fun t=>pre_trans) ⟨kw,vw,q,b.1,b.2,a3.ext (@StrR.ext) (o2.ext nn),a4.ext (@MaskR.ext) (o2.ext nn),fun j hj=>?_,a6,a7⟩ s2
 show RingR T2 h2 _ _ (qset f.qs n _ j)
 by_cases hjn:j=n
 ·subst hjn; simp[qset]; exact r2
 ·simp -implicitDefEqProofs[qset,hjn]; exact (a5 j hj).kp o2.k (off_pre (by simp; omega) (by simp; omega))
theorem hdrain_ok (who:Int){s:Nat}{T:Tags}{h:Heap}{g:Tag}{p m:Nat}{H:Hall}(w:Wf T h)(gg:Gd g)(x:HallR T h g p H)(hs:s<H.n)(hh:HS m H)(hm:m<100000)(hl:∀ j,j<8→((H.ss s).feed.qs j).l.length<1000000)
  (hk:∀ T' h' v,Only (pre g) T h T' h'→HallR T' h' g p (H.drain who s)→Sl 8 EvR (fz T' h') v ((H.ss s).feed.told who)→K (.tuple #[v,.bool ((H.ss s).feed.lost who)]) h'):callM P qhKZ #[ptr p,.int .i64 who,.int .i64 s] h K:=by
 apply qrWZ
 unfold qiHZ
 obtain⟨sv,av,Y,x⟩:=x
 refine hwr_ok who w gg x hs hh.n8.2 (by have:=hh.ac; omega) fun T2 h2 av2 b o2 x2 rb=>?_
 obtain⟨b',ob,rb',hb1,tb,ia,l1,l2,l3,l4,l5,l6⟩:=x2.lds (s:=s) (k:=.i64) hs
 have hbb:b'=b:=by rw[rb] at rb'; cases rb'; rfl
 subst hbb
 have hf:=(x2.sr s hs).2.2
 have oh:Only (pre g) T h T2 h2:=o2.mono fun _=>U02.pre
 unfold qmCZ
 simp -implicitDefEqProofs[l5]
 refine fdrain_ok who o2.wf (gg.app [3,s]) hf hl fun T4 h4 v o4 r4 s4=>?_
 simp -implicitDefEqProofs
 exact hk T4 h4 v (oh.up o4 fun t=>pre_trans) ⟨sv,av2,_,x2.fed hs o4 gg r4⟩ s4
end Go.Proofs.YtcnphhhcknhhaaaGreat
namespace Go.Proofs.YtcnphhhcknhhaaaGreat
open Go Go.Den Go.MapKept
set_option linter.unusedSimpArgs false
set_option linter.unusedVariables false
set_option maxRecDepth 20000
theorem unSlSlEv:P.underlying qAZ=some (.slice qkZ):=by kernel_rfl
theorem apSlEv:apC P qkZ=some (1,24,1):=by kernel_rfl
theorem made_one (v:Value)(n:Nat):madeCells #[v] (n*1)=((List.range n).map fun _=>v).toArray:=by
 apply Array.ext
 ·simp -implicitDefEqProofs[madeCells]
 ·intro i h1 h2
  simp -implicitDefEqProofs[madeCells,Nat.mod_one]
end Go.Proofs.YtcnphhhcknhhaaaGreat
namespace Go.Proofs.YtcnphhhcknhhaaaGreat
open Go Go.Den Go.MapKept
set_option linter.unusedSimpArgs false
set_option linter.unusedVariables false
set_option maxRecDepth 20000
def EvsR (h:Heap)(c:List Value)(l:List Evt):Prop:=∃ v,c=[v]∧Sl 8 EvR h v l
theorem rng_set (k:Nat)(f:Nat→Value)(b:Nat)(v:Value):(((List.range k).map f).toArray.setIfInBounds b v)=((List.range k).map fun i=>if i=b then v else f i).toArray:=by
 apply Array.ext
 ·simp -implicitDefEqProofs
 ·intro i h1 h2
  rw[Array.getElem_setIfInBounds (by simpa using h2)]
  by_cases h:b=i
  ·subst h; simp
  ·rw[if_neg h]; simp[Ne.symm h]
def rngC (k:Nat)(f:Nat→Nat):Array Value:=((List.range k).map fun i=>Value.int .i64 (f i)).toArray
def restE (ls:List (List Evt))(p:Nat→Nat):List (List Evt):=(List.range ls.length).map fun i=>(nth ls i).drop (p i)
theorem nth_rest {ls:List (List Evt)}{p:Nat→Nat}{i:Nat}(hi:i<ls.length):nth (restE ls p) i=(nth ls i).drop (p i):=by
 unfold restE
 show ((List.range ls.length).map _).getD i []=_
 rw[List.getD_eq_getElem?_getD]
 simp -implicitDefEqProofs[hi]
theorem rest_len (ls:List (List Evt))(p:Nat→Nat):(restE ls p).length=ls.length:=by simp[restE]
theorem rest_zero (ls:List (List Evt)):restE ls (fun _=>0)=ls:=by
 apply List.ext_getElem (by simp[restE])
 intro i h1 h2
 simp -implicitDefEqProofs[restE,nth,h2]
theorem rest_set {ls:List (List Evt)}{p:Nat→Nat}{b:Nat}(hb:b<ls.length):(restE ls p).set b (nth (restE ls p) b).tail=restE ls (fun i=>if i=b then p b+1 else p i):=by
 apply List.ext_getElem (by simp[restE])
 intro i h1 h2
 have hi:i<ls.length:=by simpa [restE] using h2
 rw[List.getElem_set]
 by_cases h:b=i
 ·subst h
  rw[if_pos rfl,nth_rest hb]
  simp -implicitDefEqProofs[restE]
 ·rw[if_neg h]
  simp -implicitDefEqProofs[restE,Ne.symm h]
def bestV (o:Option Nat):Int:=match o with
 | some b=>b
 | none=>-1
def slen:Value→Nat
 | .slice _ n _=>n
 | _=>0
theorem row_slen {sz:Nat}{e:TypeId}{h:Heap}{v:Value}{n:Nat}{xs:List Value}(r:Row sz e h v n xs):slen v=n:=by
 rcases r.2 with ⟨rfl,h2⟩ | ⟨g,cap,cur,rfl,_⟩
 ·simp -implicitDefEqProofs only[slen]; exact h2.symm
 ·rfl
structure MgI (h:Heap)(ls:List (List Evt))(ab:Nat)(p:Nat→Nat)(out:List Evt)(ov:Value)(h':Heap):Prop where
 e:Ext h h'
 ca:h' ab=some (.cells (rngC ls.length p) qpZ (0,0))
 o:Rf 8 quZ h h' ov out.length (out.flatMap evC)
 na:rowOf ov≠some ab
 m:mergeE ls=out++mergeE (restE ls p)
 t:out.length+totE (restE ls p)=totE ls
 le:∀ i,i<ls.length→p i≤(nth ls i).length
theorem rngC_cel {h:Heap}{ab k:Nat}{p:Nat→Nat}(c:h ab=some (.cells (rngC k p) qpZ (0,0))){i:Nat}(hi:i<k):cel h ab i=some (.int .i64 (p i)):=by
 rw[cel_of c]; simp[rngC,hi]
theorem ia_sl {ab k i:Nat}(hi:i<k):iaV (some (none,1)) (.slice (some ⟨ab,0,none⟩) k k) (.int .i64 i)=some (.pointer (some ⟨ab,i,none⟩)):=by
 have:(0:Int)≤i∧(i:Int)<k:=by omega
 simp -implicitDefEqProofs[iaV,this]
theorem evs_at {F:Heap}{v:Value}{ls:List (List Evt)}(x:Sl 1 EvsR F v ls){i:Nat}(hi:i<ls.length):∃ b q u,iaV (some (none,1)) v (.int .i64 i)=some (.pointer (some ⟨b,q,none⟩))∧(∀ h',Ext F h'→cel h' b q=some u)∧Sl 8 EvR F u (nth ls i):=by
 obtain⟨b,o,c,i1,i2,i3⟩:=x.at (k:=.i64) (i:=i) (by omega) (by omega)
 simp -implicitDefEqProofs only[Int.toNat_natCast] at i3
 obtain⟨u,rfl,hu⟩:=i3
 have e:nth ls i=ls[i]:=by simp[nth,hi]
 refine⟨b,o,u,i1,fun h' e=>?_,by rw[e]; exact hu⟩
 have:=(cels_get (cels_ext e i2)).2 0 (by simp)
 simpa using this
theorem ev_seq {F:Heap}{v:Value}{l:List Evt}(x:Sl 8 EvR F v l){i:Nat}(hi:i<l.length):∃ b q,iaV (some (none,8)) v (.int .i64 i)=some (.pointer (some ⟨b,q,none⟩))∧(∀ h',Ext F h'→cels h' b q 8=some (evC l[i]))∧∀ h',Ext F h'→cel h' b (q+7)=some (.int .u64 (l[i].seq)):=by
 obtain⟨b,q,h1,h2⟩:=ev_ld x hi (k:=.i64)
 refine⟨b,q,h1,h2,fun h' e=>?_⟩
 have:=(cels_get (h2 h' e)).2 7 (by simp[evC,presC])
 simpa [evC,presC] using this
theorem hd_rest {ls:List (List Evt)}{p:Nat→Nat}{i:Nat}(hi:i<ls.length)(h:p i<(nth ls i).length):hdE (nth (restE ls p) i)=(nth ls i)[p i]:=by
 rw[nth_rest hi]
 unfold hdE
 rw[List.drop_eq_getElem_cons h]; rfl
theorem rest_ne {ls:List (List Evt)}{p:Nat→Nat}{i:Nat}(hi:i<ls.length):nth (restE ls p) i≠[]↔p i<(nth ls i).length:=by
 rw[nth_rest hi,ne_eq,List.drop_eq_nil_iff]; omega
theorem best_lt {r:List (List Evt)}{k b:Nat}(h:bestE r k=some b):b<k∧nth r b≠[]:=⟨(best_some h).h,(best_some h).ne⟩
variable {K:KTy}
theorem merge_ok (ls : List (List Evt)) {T : Tags} {h : Heap} (w : Wf T h) {v : Value} (x : Sl 1 EvsR h v ls) (hl : ls.length ≤ 1000) (ht : totE ls < 1000000) (hn : ∀ i, (nth ls i).length < 1000000) (hk : ∀ v' h', Ext h h' → Sl 8 EvR (fz T h') v' (mergeE ls) → K v' h') : callM P qjvZ #[v] h K := by
  apply qsTZ
  unfold qogZ
  have hlen := x.len
  simp -implicitDefEqProofs only [hlen, ov_s]
  refine makeSlice_vv unSlInt apInt zcInt (n := ls.length) (by omega) (by omega) (by unfold maxLen; omega) fun ab h1 n1 e1 c1 => ?_
  unfold qpDZ
  have I0 : MgI h ls ab (fun _ => 0) [] (.slice none 0 0) h1 := ⟨e1, by rw [c1, made_one]; rfl, by simpa using Rf.nil e1, by simp [rowOf], by simp [rest_zero], by simp [rest_zero], fun i _ => by omega⟩
  refine loop_on [0, 4] (fun s h' => ∃ p out ov, MgI h ls ab p out ov h' ∧ s 3 = ov) (fun s _ => totE ls + 1 - slen (s 3)) ⟨_, _, _, I0, rfl⟩ ?_
  rintro s h2 hf ⟨p, out, ov, I, s3⟩
  have s0 : s 0 = v := by simpa using hf 0 (by simp)
  have s4 : s 4 = .slice (some ⟨ab, 0, none⟩) ls.length ls.length := by simpa using hf 4 (by simp)
  unfold qpCZ
  rw [seqM_eq]
  unfold qpAZ
  simp -implicitDefEqProofs only [s0, hlen, ov_s]
  refine loop_on [0, 3, 4, 11] (fun s' h' => ∃ i : Nat, h' = h2 ∧ s' 12 = .int .i64 i ∧ i ≤ ls.length ∧ s' 5 = .int .i64 (bestV (bestE (restE ls p) i))) (fun s' _ => (ls.length - num (s' 12)).toNat) ⟨0, rfl, rfl, by omega, rfl⟩ ?_
  rintro r h3 hf3 ⟨i, rfl, r12, hi, r5⟩
  have r0 : r 0 = v := by simpa [s0] using hf3 0 (by simp)
  have r3 : r 3 = ov := by simpa [s3] using hf3 3 (by simp)
  have r4 : r 4 = .slice (some ⟨ab, 0, none⟩) ls.length ls.length := by simpa [s4] using hf3 4 (by simp)
  have r11 : r 11 = .int .i64 ls.length := by simpa using hf3 11 (by simp)
  unfold qpzZ
  simp -implicitDefEqProofs only [r11, r12, bin_lss, ov_s, cd_b]
  refine ⟨fun hc => ?_, fun hc => ?_⟩
  · have hlt : i < ls.length := by have : ((i : Int) < ls.length) := by simpa using hc
                                   omega
    have hw : IntKind.i64.wrap ((i : Int) + 1) = (i + 1 : Nat) := by rw [wrap64_id (by omega) (by omega)]; omega
    obtain ⟨b1, q1, u1, i1, i2, i3⟩ := evs_at x hlt
    have i2 := i2 _ I.e
    have a1 := rngC_cel I.ca hlt
    have j1 := ia_sl (ab := ab) hlt
    have l1 := i3.len
    unfold qpyZ
    rw [seqM_eq]
    unfold qpxZ
    have hrl : ∀ b, b < ls.length → (nth (restE ls p) b ≠ [] ↔ p b < (nth ls b).length) := fun b hb => rest_ne hb
    have hbs : bestE (restE ls p) (i + 1) = match bestE (restE ls p) i with
      | none => if nth (restE ls p) i = [] then none else some i
      | some b => if nth (restE ls p) i ≠ [] ∧ (hdE (nth (restE ls p) i)).seq < (hdE (nth (restE ls p) b)).seq then some i else some b := rfl
    by_cases hp : p i < (nth ls i).length
    rotate_left
    · have hp' : ¬ ((p i : Int) < (nth ls i).length) := by omega
      have hnil : nth (restE ls p) i = [] := by
        rw [nth_rest hlt, List.drop_eq_nil_iff]; omega
      have hbs' : bestE (restE ls p) (i + 1) = bestE (restE ls p) i := by
        rw [hbs]; cases bestE (restE ls p) i <;> simp [hnil]
      simp -implicitDefEqProofs [r12, r4, r0, r5, j1, a1, i1, i2, l1, hp']
      unfold qncZ
      simp -implicitDefEqProofs [r0, r3, r4, r11, r12, s0, s3, s4, hw, -Int.natCast_add]
      exact ⟨⟨i + 1, rfl, by omega, by rw [hbs']; exact r5⟩, by omega⟩
    have hp' : ((p i : Int) < (nth ls i).length) := by omega
    have hne : nth (restE ls p) i ≠ [] := (hrl i hlt).2 hp
    obtain ⟨f1, g1, t1, _, t2⟩ := ev_seq i3 hp
    have t2 := t2 _ I.e
    cases hb : bestE (restE ls p) i with
    | none =>
      rw [hb] at r5 hbs
      have hbs' : bestE (restE ls p) (i + 1) = some i := by rw [hbs]; simp [hne]
      have r5 : r 5 = .int .i64 (-1) := r5
      simp -implicitDefEqProofs [r12, r4, r0, r5, j1, a1, i1, i2, l1, hp']
      unfold qnbZ
      simp -implicitDefEqProofs [r0, r3, r4, r11, r12, s0, s3, s4, hw, -Int.natCast_add]
      exact ⟨⟨i + 1, rfl, by omega, by rw [hbs']; rfl⟩, by omega⟩
    | some b =>
      rw [hb] at r5 hbs
      obtain ⟨hbi, hbn⟩ := best_lt hb
      have hbl : b < ls.length := by omega
      have hpb : p b < (nth ls b).length := (hrl b hbl).1 hbn
      obtain ⟨b2, q2, u2, k1, k2, k3⟩ := evs_at x hbl
      have k2 := k2 _ I.e
      have a2 := rngC_cel I.ca hbl
      have j2 := ia_sl (ab := ab) hbl
      obtain ⟨f2, g2, t3, _, t4⟩ := ev_seq k3 hpb
      have t4 := t4 _ I.e
      have r5 : r 5 = .int .i64 b := r5
      have hb0 : ¬ ((b : Int) < 0) := by omega
      have hseq : ((hdE (nth (restE ls p) i)).seq < (hdE (nth (restE ls p) b)).seq) ↔ (nth ls i)[p i].seq < (nth ls b)[p b].seq := by
        rw [hd_rest hlt hp, hd_rest hbl hpb]
      by_cases hs : (nth ls i)[p i].seq < (nth ls b)[p b].seq
      · have hbs' : bestE (restE ls p) (i + 1) = some i := by rw [hbs]; simp [hne, hseq.2 hs]
        simp -implicitDefEqProofs [r12, r4, r0, r5, j1, a1, i1, i2, l1, hp', hb0, j2, a2, k1, k2, t1, t2, t3, t4, hs]
        unfold qnbZ
        simp -implicitDefEqProofs [r0, r3, r4, r11, r12, s0, s3, s4, hw, -Int.natCast_add]
        exact ⟨⟨i + 1, rfl, by omega, by rw [hbs']; rfl⟩, by omega⟩
      · have hbs' : bestE (restE ls p) (i + 1) = some b := by rw [hbs]; simp [hne, hseq, hs]
        simp -implicitDefEqProofs [r12, r4, r0, r5, j1, a1, i1, i2, l1, hp', hb0, j2, a2, k1, k2, t1, t2, t3, t4, hs]
        unfold qncZ
        simp -implicitDefEqProofs [r0, r3, r4, r11, r12, s0, s3, s4, hw, -Int.natCast_add]
        exact ⟨⟨i + 1, rfl, by omega, by rw [hbs']; exact r5⟩, by omega⟩
  · have hie : i = ls.length := by have : ¬ ((i : Int) < ls.length) := by simpa using hc
                                   omega
    subst hie
    have hrr : bestE (restE ls p) ls.length = bestE (restE ls p) (restE ls p).length := by rw [rest_len]
    unfold qpBZ
    cases hb : bestE (restE ls p) ls.length with
    | none =>
      rw [hb] at r5 hrr
      have r5 : r 5 = .int .i64 (-1) := r5
      have hm : mergeE ls = out := by rw [I.m, merge_none hrr.symm, List.append_nil]
      simp -implicitDefEqProofs [r3, r5]
      refine hk _ _ I.e ?_
      rw [hm]
      exact Row.slE (enc := evC) (R := EvR) (fun e => by simp [evC, presC]) (fun _ => rfl) (I.o.row.fz w I.o.new)
    | some b =>
      rw [hb] at r5 hrr
      obtain ⟨hbi, hbn⟩ := best_lt hb
      have hpb : p b < (nth ls b).length := (rest_ne hbi).1 hbn
      obtain ⟨b2, q2, u2, k1, k2, k3⟩ := evs_at x hbi
      have k2 := k2 _ I.e
      have a2 := rngC_cel I.ca hbi
      have j2 := ia_sl (ab := ab) hbi
      obtain ⟨f2, g2, t3, t5, t4⟩ := ev_seq k3 hpb
      have t5 := t5 _ I.e
      have r5 : r 5 = .int .i64 b := r5
      have hb0 : ¬ ((b : Int) < 0) := by omega
      have ld5 : ldV (some (some 8)) (.pointer (some ⟨f2, g2, none⟩)) h3 = some (.agg (evC (nth ls b)[p b]).toArray) := by
        simp -implicitDefEqProofs [ldV, t5]
      simp -implicitDefEqProofs [r3, r5, hb0]
      unfold qoxZ
      simp -implicitDefEqProofs [r0, r5, r4, k1, k2, j2, a2, t3, ld5]
      have htot : totE ls < 1000000 := ht
      have hout : out.length < 1000000 := by have := I.t; omega
      try rw [r3]
      refine app_one (x := .agg (evC (nth ls b)[p b]).toArray) bsEv unSlEv apEv (by omega) (by simp [evC, presC]) (by simp [evC, presC]) I.o.row (by unfold maxLen; omega) (by omega) (by omega) fun a ov' h4 r4' k4 ha => ?_
      have ca4 : h4 ab = some (.cells (rngC ls.length p) qpZ (0, 0)) := k4 _ _ I.ca (Ne.symm I.na)
      have a4 := rngC_cel ca4 hbi
      have hw : IntKind.i64.wrap ((p b : Int) + 1) = (p b + 1 : Nat) := by have := hn b; rw [wrap64_id (by omega) (by omega)]; omega
      have e4 : Ext h h4 := fun k o hk => k4 _ _ (I.e _ _ hk) fun hh => by rw [I.o.new k hh.symm] at hk; cases hk
      have na4 : rowOf ov' ≠ some ab := by
        rcases ha with ha | ⟨j, ha, hj⟩
        · rw [ha]; exact I.na
        · rw [ha]; intro hh; cases hh; rw [I.ca] at hj; cases hj
      have new4 : ∀ g, rowOf ov' = some g → h g = none := fun g hg => by
        rcases ha with ha | ⟨j, ha, hj⟩
        · exact I.o.new g (by rw [← ha]; exact hg)
        · rw [ha] at hg; cases hg; exact fresh_of I.e hj
      unfold qowZ
      simp -implicitDefEqProofs [r5, r4, j2, a4, hw, -Int.natCast_add]
      rw [stm_at (n := 1) (v := .int .i64 (p b + 1 : Nat)) ca4 rfl (by simp [rngC]; omega) (by simp)]
      have hov : over (rngC ls.length p) b (Value.int .i64 (p b + 1 : Nat)).cells.toList = rngC ls.length (fun i => if i = b then p b + 1 else p i) := by
        simp -implicitDefEqProofs only [cells_i, over]
        unfold rngC
        rw [rng_set]
        congr 2
        funext i
        by_cases hib : i = b
        · simp -implicitDefEqProofs [hib]
        · simp -implicitDefEqProofs [hib]
      rw [hov]
      have hap : h ab = none := fresh_of (Ext.refl h) (by
        cases hh : h ab with
        | none => rfl
        | some o => rw [e1 _ _ hh] at c1; rw [n1] at hh; cases hh)
      simp -implicitDefEqProofs [s0, s4, r0, r4, -Int.natCast_add]
      refine ⟨⟨fun i => if i = b then p b + 1 else p i, out ++ [(nth ls b)[p b]], ⟨ext_upd hap e4, upd_same' _ _ _, ?_, na4, ?_, ?_, fun i hi => ?_⟩⟩, ?_⟩
      · refine ⟨ext_upd hap e4, ?_, new4, ?_⟩
        · have : Row 8 quZ h4 ov' (out ++ [(nth ls b)[p b]]).length ((out ++ [(nth ls b)[p b]]).flatMap evC) := by simpa using r4'
          exact this.of_at fun g hg => upd_ne fun hh => na4 (by rw [hg, hh])
        · intro u hu
          obtain ⟨e, _, hu⟩ := List.mem_flatMap.1 hu
          simp -implicitDefEqProofs [evC, presC] at hu
          rcases hu with rfl | rfl | rfl | rfl | rfl | rfl | rfl | rfl <;> rfl
      · rw [I.m, merge_some hrr.symm, rest_set hbi, hd_rest hbi hpb, List.append_assoc]; rfl
      · have h1 := I.t
        have h2 := tot_set (r := restE ls p) (b := b) (by rw [rest_len]; exact hbi) hbn
        rw [rest_set hbi] at h2
        simp; omega
      · show (if i = b then p b + 1 else p i) ≤ _
        split
        · rename_i hib; subst hib; omega
        · exact I.le i hi
      · have h1 := row_slen r4'
        have h2 := row_slen I.o.row
        have h3 := I.t
        have h4 : 0 < totE (restE ls p) := by
          rcases Nat.eq_zero_or_pos (totE (restE ls p)) with h | h
          · exact absurd (tot_zero.1 h b) hbn
          · exact h
        rw [s3, h1, h2]; omega
end Go.Proofs.YtcnphhhcknhhaaaGreat
namespace Go.Proofs.YtcnphhhcknhhaaaGreat
open Go Go.Den Go.MapKept
set_option linter.unusedSimpArgs false
set_option linter.unusedVariables false
set_option maxRecDepth 20000
theorem mallX_at {b:List (ByteArray × Int)}{Lv:List (List Value)}{F:Heap}(l2:El 1 MaskR F Lv (b.map (·.2))){i:Nat}(hi:i<(mallX b Lv).length):∃ (hb:i<b.length),(mallX b Lv)[i]=#[.string b[i].1,.int .u32 b[i].2]:=by
 have hb:i<b.length:=by simpa [mallX] using hi
 have hL:i<Lv.length:=by rw[l2.len]; simpa using hb
 have he:Lv[i]=[.int .u32 b[i].2]:=by have:=l2.el i hL (by simpa using hb); simpa [MaskR] using this
 refine⟨hb,?_⟩
 simp -implicitDefEqProofs only[mallX,List.getElem_map,List.getElem_range]
 have e1:b.getD i (⟨#[]⟩,0)=b[i]:=by rw[List.getD_eq_getElem?_getD,List.getElem?_eq_getElem hb]; rfl
 have e2:Lv.getD i []=Lv[i]:=by rw[List.getD_eq_getElem?_getD,List.getElem?_eq_getElem hL]; rfl
 rw[e1,e2,he]; rfl
def cntTo (ws:List (ByteArray × Int))(who:Int)(i:Nat):Nat:=((ws.take i).filter fun x=>clientB who && mbit x.2 who).length
theorem cntTo_s {ws:List (ByteArray × Int)}{who:Int}{i:Nat}(hi:i<ws.length):cntTo ws who (i+1)=cntTo ws who i+if (clientB who && mbit ws[i].2 who)=true then 1 else 0:=by
 unfold cntTo
 rw[List.take_succ_eq_append_getElem hi,List.filter_append,List.length_append]
 by_cases h:(clientB who && mbit ws[i].2 who)=true<;>simp[List.filter_cons,h]
theorem cntTo_le (ws:List (ByteArray × Int))(who:Int)(i:Nat):cntTo ws who i≤ws.length:=Nat.le_trans (List.length_filter_le _ _) (by simp; omega)
def CnJ (hB:Heap)(v3:Nat)(ws:List (ByteArray × Int))(who:Int)(i:Nat)(h':Heap):Prop:=Ext (wo hB [v3]) h'∧h' v3=some (.cells #[.int .i64 (cntTo ws who i)] qpZ (0,0))
def CnC (hB:Heap)(v1 v3:Nat)(ws:List (ByteArray × Int))(who:Int)(i:Nat)(s2:Env)(h':Heap):Prop:=CnJ hB v3 ws who i h'∧s2 3=ptr v1∧s2 5=ptr v3∧∃ (hi:i<ws.length),s2 7 = .int .u32 ws[i].2
variable {K:KTy}
theorem fcount_ok (who:Int){T:Tags}{h:Heap}{g:Tag}{p:Nat}{f:Feed}(x:FeedR T h g p f)(fg:FdG f)(hk:∀ h',Ext h h'→K (.int .i64 (f.count who)) h'):callM P qayZ #[ptr p,.int .i64 who] h K:=by
 apply qrXZ
 unfold qiIZ
 refine nw_intro fun v1 h1 n1 e1 c1=>?_
 rw[zcInt]
 refine nw_st rfl rfl (by simp) fun v3 h3 n3 e3 c3=>?_
 have c1:=e3 _ _ c1
 have e0:=e1.trans e3
 have n3':h v3=none:=fresh_of e1 n3
 have ne13:v1≠v3:=ne_fresh ‹h1 v1=_› n3
 obtain⟨kw,vw,q,cp,tp,x1,x2,xq,s1,s2⟩:=x
 have cp:=e0 _ _ cp
 have hag:ldV (some (some 2)) (ptr p) h3=some (.agg #[kw,vw]):=by simp[ld_at cp,feedC,feedG,List.range_succ]
 rw[seqM_eq]
 unfold qmEZ
 simp -implicitDefEqProofs[hag]
 have xW:WsR (fz T h) kw vw f.ws:=⟨x1,x2,s1,s2⟩
 have eF:=(fz_ext T h).trans e0
 refine mall_ok f.ws eF xW fun pA hB nA eA cA=>?_
 have nA3:v3≠pA:=ne_fresh c3 nA
 have c3:=eA _ _ c3
 have c1:=eA _ _ c1
 have e0B:=e0.trans eA
 obtain⟨Lv,l1,l2⟩:=x2.els MaskR.one
 simp -implicitDefEqProofs only[List.length_map] at l1
 have hF3:(fz T h) v3=none:=by
  cases hh:(fz T h) v3 with
  | none=>rfl
  | some o=>rw[fz_ext T h _ _ hh] at n3'; cases n3'
 have F1:Ext (fz T h) (wo hB [v3]):=wo_ext ((fz_ext T h).trans e0B) (by simpa using hF3)
 have hlen:=fg.len
 unfold qmDZ
 refine rf_go good mixed rfl (by kernel_rfl) (mall_it f.ws (hA:=wo hB [v3]) (p:=pA) (kw:=kw) (vw:=vw) (Lv:=Lv) (by rw[wo_out (by simpa using Ne.symm nA3)]; exact cA) (xW.ext F1) (l1.ext F1) l2.size (by simpa using l2.len))
  (fun l b' i h'=>CnJ hB v3 f.ws who i h') (fun _ _ _ _=>False) (fun l b' i s2 h'=>CnC hB v1 v3 f.ws who i s2 h') ?_ ?_ ?_ (fun _ _ _ _ _ _ _ h _=>h) ?_ ?_ ?_ ?_ ?_ (fun _ _ _ _ _ _ _ h=>h.elim) (fun _ _ _ _ _ _ _ _ h=>h.elim)
 ·intro l b' hl' hb'
  exact⟨fun q o hq=>(wo_get hq).2,by simpa [cntTo] using c3⟩
 ·intro l b' i h' J; exact J.1
 ·intro l b' hl' hb' i h' h'' J k
  exact⟨wo_keep J.1 hl' k,k _ _ J.2 (fun hh=>by cases hh; rw[hl'] at c3; cases c3)⟩
 ·rintro l b' i s2 ha hb hl' hb' ⟨J,s3,s5,hi,s7⟩ k
  exact⟨⟨wo_keep J.1 hl' k,k _ _ J.2 (fun hh=>by cases hh; rw[hl'] at c3; cases c3)⟩,s3,s5,hi,s7⟩
 ·intro i hi; simp[mallX]
 ·rintro i hi l b' h2 hl' hb' ⟨ol,hol⟩ ⟨ob,hob⟩ J
  rw[qqgZ]
  unfold qkXZ
  obtain⟨hib,hx⟩:=mallX_at l2 hi
  rw[hx]
  simp -implicitDefEqProofs
  exact⟨J,by simp,by simp,hib,by simp⟩
 ·rintro i hi l b' s2 h3 hl' hb' ⟨ol,hol⟩ ⟨ob,hob⟩ ⟨J,s3,s5,hib,s7⟩
  rw[qqhZ]
  unfold qkYZ
  have cv:=J.2
  have cw:h3 v1=some (.cells #[.int .i64 who] qpZ (0,0)):=J.1 _ _ (by rw[wo_out (by simpa using ne13)]; exact c1)
  obtain⟨m0,m1⟩:=fg.ms _ (List.getElem_mem hib)
  have hle:=cntTo_le f.ws who i
  have hw:IntKind.i64.wrap ((cntTo f.ws who i:Int)+1)=(cntTo f.ws who i+1:Nat):=by rw[wrap64_id (by omega) (by omega)]; omega
  have hl3:l≠v3:=fun hh=>by subst hh; rw[hl'] at c3; cases c3
  have hb3:b'≠v3:=fun hh=>by subst hh; rw[hb'] at c3; cases c3
  have hs:=cntTo_s (who:=who) hib
  simp -implicitDefEqProofs[s3,ld_at cw,cel_of cw,stm_at cw,stm_upd,ld_same,cel_same,over]
  refine client_ok who ?_
  cases hc:clientB who with
  | false =>
   rw[hc] at hs
   simp -implicitDefEqProofs only[Bool.false_and,Bool.false_eq_true,if_false,Nat.add_zero] at hs
   simp -implicitDefEqProofs
   exact⟨J.1,by rw[hs]; exact cv⟩
  | true =>
   rw[hc] at hs
   have hc':0≤who∧who<8:=by simpa [clientB] using hc
   have m2:0≤f.ws[i].2 / 2 ^ who.toNat:=Int.ediv_nonneg m0 (Int.pow_nonneg (by omega))
   have m3:f.ws[i].2 / 2 ^ who.toNat<4294967296:=Int.lt_of_le_of_lt (Int.ediv_le_self _ m0) m1
   by_cases hm:f.ws[i].2 / 2 ^ who.toNat % 2=1
   ·have hmb:mbit f.ws[i].2 who=true:=by simp[mbit,hm]
    rw[hmb] at hs
    simp -implicitDefEqProofs only[Bool.and_self,if_true] at hs
    simp -implicitDefEqProofs[s3,s5,s7,ld_at cw,cel_of cw,stm_at cw,ld_at cv,cel_of cv,stm_at cv,stm_upd,ld_same,cel_same,over,bin_shr32 _ _ hc'.1 hc'.2 m0,bin_and32 _ _ m2 m3,hm,hw,-Int.natCast_add]
    exact⟨by rw[upd_ne hl3,hol],by rw[upd_ne hb3,hob],wo_upd J.1 (by simp),by rw[upd_same',hs]⟩
   ·have hmb:mbit f.ws[i].2 who=false:=by simp[mbit,hm]
    rw[hmb] at hs
    simp -implicitDefEqProofs only[Bool.and_false,Bool.false_eq_true,if_false,Nat.add_zero] at hs
    simp -implicitDefEqProofs[s3,s5,s7,ld_at cw,cel_of cw,stm_at cw,ld_at cv,cel_of cv,stm_at cv,stm_upd,ld_same,cel_same,over,bin_shr32 _ _ hc'.1 hc'.2 m0,bin_and32 _ _ m2 m3,hm]
    exact⟨J.1,by rw[hs]; exact cv⟩
 ·intro l b' h' hl' hlb hb' hd J
  have hlx:(mallX f.ws Lv).length=f.ws.length:=by simp[mallX]
  rw[hlx] at J
  have cv:=J.2
  have nb3:v3≠b':=fun hh=>by subst hh; rw[hb'] at c3; cases c3
  simp -implicitDefEqProofs only[blkM_n,thenM_n]
  simp -implicitDefEqProofs[ld_at cv,cel_of cv,stm_at cv,stm_upd,ld_same,cel_same,over,hd,ld_skip nb3,cel_skip nb3]
  have hct:cntTo f.ws who f.ws.length=f.count who:=by simp[cntTo,Feed.count]
  rw[hct]
  refine hk _ ?_
  exact ext_upd (o:=.deferred none) (fresh_of e0B hb') (ext_wo e0B (by simpa using n3') J.1)
end Go.Proofs.YtcnphhhcknhhaaaGreat
namespace Go.Den
open Go
set_option linter.unusedVariables false
theorem Rw.appk {P:Program}{t ty e:TypeId}{sz bytes:Nat}{z:Array Value}{g:Tag}{v x:Value}{n:Nat}{xs:List Value}{T:Tags}{h:Heap}{K:Value→Value→Heap→Prop}
  (hb:bsI P t=some (e,sz,z)) (ht:P.underlying t=some (.slice e)) (hi:apC P e=some (sz,bytes,sz)) (hsz:0<sz) (hx:x.cells.size=sz) (h1:∀ u∈x.cells.toList,u.oneCell'=true) (w:Wf T h)
  (hv:Rw T h g sz e v n xs) (h63:n+1≤maxLen) (hby:(n+1)*bytes≤140737488355328) (hs:sz≤16777216) (hg:g≠[])
  (hk:∀ a v' T' h',Only (fun t=>t=g) T h T' h'→Rw T' h' g sz e v' (n+1) (xs++x.cells.toList)→(∀ b o,h b=some o→rowOf v≠some b→h' b=some o)→(rowOf v'=rowOf v∨∃ b,rowOf v'=some b∧h b=none)→K a v' h') :
  bsM (bsI P t) 1 [(0,x)] h fun a h'=>vvM P (Builtin.append_ #[t,t] ty #[v,a]) h' (K a):=by
 refine bs_one hb hx hs fun b h1' hbn he hc=>?_
 have o1:Only (fun t=>t=g) T h T h1':=Only.of_ext w he
 have hv1:Rw T h1' g sz e v n xs:=hv.kp (U:=non) (Only.of_ext w he).k (fun h=>h)
 refine vv_al ?_
 refine app_intro ht hi hsz hv1.1 (cels_one hc hx) h1 h63 hby fun v' h' hr hkp ha hal=>?_
 have hrow:∀ k,rowOf v=some k→T k=g:=hv.2
 have keep:∀ b o,h b=some o→rowOf v≠some b→h' b=some o:=fun k o ek hne=>hkp k o (he _ _ ek) (fun hh=>hne hh.symm)
 rcases ha with ha | ⟨k,ha,hn⟩
 ·have o2:Only (fun t=>t=g) T h1' T h':=by
   refine⟨fun k hk0=>?_,fun _ _ _=>rfl,fun k o e=>hal k o e,fun k o e n=>hkp k o e (fun hh=>n (hrow k hh.symm))⟩
   cases hh:h1' k with
   | none=>exact o1.wf k hh
   | some o=>obtain⟨o',ho'⟩:=hal k o hh; rw[ho'] at hk0; cases hk0
  exact hk _ v' T h' (o1.trans o2) ⟨hr,fun k hk0=>hrow k (by rw[← ha]; exact hk0)⟩ keep (.inl ha)
 ·have hne:∀ j o,h1' j=some o→j≠k:=fun j o e hj=>by subst hj; rw[hn] at e; cases e
  have o2:Only (fun t=>t=g) T h1' (tset T k g) h':=by
   refine⟨fun j hj=>?_,fun j o e=>tset_ne (hne j o e),fun j o e=>hal j o e,fun j o e n=>hkp j o e (fun hh=>n (hrow j hh.symm))⟩
   have hjk:j≠k:=fun e=>by
    subst e
    obtain⟨o,ho⟩:=hr.lt j ha
    rw[ho] at hj; cases hj
   rw[tset_ne hjk]
   cases hh:h1' j with
   | none=>exact o1.wf j hh
   | some o=>obtain⟨o',ho'⟩:=hal j o hh; rw[ho'] at hj; cases hj
  refine hk _ v' (tset T k g) h' (o1.trans o2) ⟨hr,fun j hj=>?_⟩ keep (.inr ⟨k,ha,fresh_of he hn⟩)
  rw[ha] at hj
  simp only[Option.some.injEq] at hj
  subst hj
  simp
theorem Only.keepk {U V:Tag→Prop}{T T1 T2:Tags}{h h1 h2:Heap}{r:Option Nat}(x:Only U T h T1 h1)(y:Only V T1 h1 T2 h2)(k:∀ b o,h1 b=some o→r≠some b→h2 b=some o)(hr:∀ b,r=some b→h b=none):Only U T h T2 h2:=by
 have kk:∀ b o o1,h b=some o→h1 b=some o1→h2 b=some o1:=fun b o o1 e e1=>k b o1 e1 fun hh=>by rw[hr b hh] at e; cases e
 refine⟨y.wf,fun b o e=>?_,fun b o e=>?_,fun b o e u=>?_⟩
 ·obtain⟨o1,e1⟩:=x.al b o e
  rw[y.tg b o1 e1,x.tg b o e]
 ·obtain⟨o1,e1⟩:=x.al b o e
  exact⟨o1,kk b o o1 e e1⟩
 ·exact kk b o o e (x.kp b o e u)
end Go.Den
namespace Go.Proofs.YtcnphhhcknhhaaaGreat
open Go Go.Den Go.MapKept
set_option linter.unusedSimpArgs false
set_option linter.unusedVariables false
set_option maxRecDepth 20000
section
variable {T:Tags}{h:Heap}{g:Tag}{p m:Nat}{M:Tbl}{K:KTy}
theorem ts_n8 (x:TS m M):1≤M.n∧M.n≤8:=by
 have h1:=x.rt
 have h2:=x.nn
 simp -implicitDefEqProofs only[rightB,decide_eq_true_eq] at h1; omega
theorem mpres_ok (u:ByteArray)(hu:u.size≤maxLen)(w:Wf T h)(x:MdR T h g p M)(hs:TS m M)(hm:m<100000)(hk:∀ h',Ext h h'→K (.agg (presC (M.pres u)).toArray) h'):callM P qeTZ #[ptr p,.string u] h K:=by
 apply qpbZ
 unfold qfpZ
 rw[zcPres]
 refine nw_intro fun v1 h1 n1 e1 c1=>?_
 have o1:Only non T h T h1:=Only.of_ext w e1
 have x1:=x.kp o1.k (Off.non _) (not_non _)
 have n8:=ts_n8 hs
 have nn:=hs.nn
 obtain⟨bv,fv,Kk,V,F,y⟩:=x1
 have cp:=y.hp
 simp -implicitDefEqProofs only[mdC] at cp
 have hst:=stripeOf_lt (u:=u) (n:=M.c.stripes) (by omega)
 obtain⟨s,hs'⟩:∃ s:Nat,stripeOf u M.c.stripes=s:=⟨(stripeOf u M.c.stripes).toNat,by omega⟩
 have hsn:s<M.n:=by omega
 simp -implicitDefEqProofs[ld_at cp,cel_of cp,stm_at cp,stm_upd,ld_same,cel_same,over]
 refine mstripe_ok u hu ⟨bv,fv,Kk,V,F,y⟩ (by omega) ?_
 rw[hs']
 obtain⟨b,rb,ia,ld⟩:=y.ldb hsn
 have bk:=hs.bk s hsn
 have hpr:M.pres u=presB (M.bk s) u M.t.now:=by unfold Tbl.pres Tbl.stripe; rw[hs']; simp
 unfold qikZ
 simp -implicitDefEqProofs[ld_at cp,cel_of cp,stm_at cp,stm_upd,ld_same,cel_same,over,ia,ld]
 refine presence_ok (M.bk s) (bk.g hm).so u M.t.now (fz_ext T h1) (y.br s hsn) (bk.g hm).len ((bk.g hm).ss u) fun h2 e2=>?_
 have c1:=e2 _ _ c1
 rw[← hpr]
 simp -implicitDefEqProofs only[presC]
 simp -implicitDefEqProofs[ld_at c1,cel_of c1,stm_at c1,stm_upd,ld_same,cel_same,over]
 exact kv (hk _ (ext_upd n1 (e1.trans e2))) (by simp[presC])
theorem mcnt_s (M:Tbl)(who:Int)(s:Nat):((List.range (s+1)).map fun s=>(M.fd s).count who).sum=((List.range s).map fun s=>(M.fd s).count who).sum+(M.fd s).count who:=by simp[List.range_succ,List.map_append,List.sum_append]
def McI (h0:Heap)(M:Tbl)(who:Int)(i:Nat)(nv:Value)(h':Heap):Prop:=Ext h0 h'∧nv = .int .i64 (((List.range i).map fun s=>(M.fd s).count who).sum:Nat)
theorem mwatch_ok (who:Int)(u:ByteArray)(hu:u.size≤maxLen)(w:Wf T h)(gg:Gd g)(x:MdR T h g p M)(hs:TS m M)(hm:m<100000)(hk:∀ T' h',Only (pre g) T h T' h'→MdR T' h' g p (M.watch who u).1→K (.int .i64 (M.watch who u).2.err) h'):callM P qgJZ #[ptr p,.int .i64 who,.string u] h K:=by
 apply qqXZ
 unfold qhxZ
 have n8:=ts_n8 hs
 have nn:=hs.nn
 obtain⟨bv,fv,Kk,V,F,y⟩:=x
 have cp:=y.hp
 simp -implicitDefEqProofs only[mdC] at cp
 have hst:=stripeOf_lt (u:=u) (n:=M.c.stripes) (by omega)
 obtain⟨s,hs'⟩:∃ s:Nat,stripeOf u M.c.stripes=s:=⟨(stripeOf u M.c.stripes).toNat,by omega⟩
 have hsn:s<M.n:=by omega
 have hms:M.stripe u=s:=by unfold Tbl.stripe; rw[hs']; simp
 simp -implicitDefEqProofs[ld_at cp,cel_of cp,stm_at cp,stm_upd,ld_same,cel_same,over]
 refine mstripe_ok u hu ⟨bv,fv,Kk,V,F,y⟩ (by omega) ?_
 rw[hs']
 obtain⟨b,ia,ld⟩:=y.ldf hsn
 unfold qkuZ
 simp -implicitDefEqProofs[ld_at cp,cel_of cp,stm_at cp,stm_upd,ld_same,cel_same,over,ia,ld]
 rw[seqM_eq]
 unfold qkqZ
 have fl:=y.fd.len
 simp -implicitDefEqProofs[ld_at cp,cel_of cp,stm_at cp,stm_upd,ld_same,cel_same,over,fl]
 refine loop_on [0,1,2,7,23,24] (fun s' h'=>∃ i:Nat,McI h M who i (s' 8) h'∧s' 25 = .int .i64 i∧i≤M.n) (fun s' _=>(M.n-num (s' 25)).toNat) ⟨0,⟨Ext.refl _,by simp⟩,rfl,by omega⟩ ?_
 rintro r h2 hf ⟨i,⟨e2,r8⟩,r25,hi⟩
 have r0:r 0=ptr p:=by simpa using hf 0 (by simp)
 have r1:r 1 = .int .i64 who:=by simpa using hf 1 (by simp)
 have r2:r 2 = .string u:=by simpa using hf 2 (by simp)
 have r7:r 7=ptr (F s):=by simpa using hf 7 (by simp)
 have r23:r 23=fv:=by simpa using hf 23 (by simp)
 have r24:r 24 = .int .i64 M.n:=by simpa using hf 24 (by simp)
 have o2:Only non T h T h2:=Only.of_ext w e2
 have y2:=y.kp o2.k (Off.non _) (not_non _)
 have cle:∀ j,j≤M.n→((List.range j).map fun s=>(M.fd s).count who).sum≤100000*j:=by
  intro j
  induction j with
  | zero=>intro _; simp
  | succ j ih =>
   intro hj
   have h1:=ih (by omega)
   have h2:(M.fd j).count who≤m:=Nat.le_trans (List.length_filter_le _ _) (hs.fd j (by omega)).len
   rw[mcnt_s]; omega
 unfold qkpZ
 simp -implicitDefEqProofs[r24,r25]
 refine⟨fun hc=>?_,fun hc=>?_⟩
 ·have hlt:i<M.n:=by omega
  obtain⟨b',ia',ld'⟩:=y2.ldf hlt
  have hw1:IntKind.i64.wrap ((i:Int)+1)=(i+1:Nat):=by rw[wrap64_id (by omega) (by omega)]; omega
  have c1:=cle (i+1) (by omega)
  rw[mcnt_s] at c1
  have hw2:IntKind.i64.wrap (((((List.range i).map fun s=>(M.fd s).count who).sum:Nat):Int)+((M.fd i).count who:Nat))=(((List.range (i+1)).map fun s=>(M.fd s).count who).sum:Nat):=by
   rw[mcnt_s,wrap64_id (by omega) (by omega)]; omega
  unfold qkoZ
  simp -implicitDefEqProofs[r1,r23,r25,ia',ld']
  refine fcount_ok who (y2.fr i hlt) ((hs.fd i hlt).g hm) fun h3 e3=>?_
  unfold qknZ
  simp -implicitDefEqProofs[r0,r1,r2,r7,r8,r23,r24,r25,hw1,hw2,-Int.natCast_add]
  exact⟨⟨i+1,⟨e2.trans e3,rfl⟩,rfl,by omega⟩,by omega⟩
 have hie:i=M.n:=by omega
 subst hie
 have fg:=(hs.fd s hsn).g hm
 unfold qktZ
 simp -implicitDefEqProofs[r1,r2,r7]
 refine watching_ok who u (y2.fr s hsn) fg fun h3 e3=>?_
 have o3:Only non T h2 T h3:=Only.of_ext o2.wf e3
 have y3:=y2.kp o3.k (Off.non _) (not_non _)
 have cp:=y3.hp
 simp -implicitDefEqProofs only[mdC] at cp
 have o23:=o2.trans o3
 have set_:∀ r':Env,r' 7=ptr (F s)→r' 1 = .int .i64 who→r' 2 = .string u→M.watch who u=(M.fed (M.stripe u) ((M.fd (M.stripe u)).watch who u),rep0)→∀ v25 v27 v28 v31 v34 v38 v42 v46 v50 v54,qfEZ r' h3 K [] v25 v27 v28 v31 v34 v38 v42 v46 v50 v54:=by
  intro r' r7 r1 r2 hM v25 v27 v28 v31 v34 v38 v42 v46 v50 v54
  unfold qfEZ
  simp -implicitDefEqProofs only[r7,r1,r2]
  refine fwatch_ok who u hu o3.wf (gg.app _) (y3.fr s hsn) fg (by have:=(hs.fd s hsn).len; omega) fun T4 h4 o4 x4=>?_
  unfold qjsZ
  simp -implicitDefEqProofs
  rw[hM,hms] at hk
  exact hk T4 h4 ((o23.mono non_up).trans (o4.mono fun t=>pre_trans)) ⟨bv,fv,Kk,V,F,y3.fed o4 gg x4⟩
 unfold qksZ
 cases hwt:(M.fd s).watching who u with
 | true =>
  simp -implicitDefEqProofs
  exact set_ _ (by simp[r7]) (by simp[r1]) (by simp[r2]) (by unfold Tbl.watch; rw[hms,hwt]; simp) _ _ _ _ _ _ _ _ _ _
 | false =>
  simp -implicitDefEqProofs[r0,r8,ld_at cp,cel_of cp,stm_at cp,stm_upd,ld_same,cel_same,over]
  refine⟨fun hc=>?_,fun hc=>?_⟩
  ·unfold qkrZ
   simp -implicitDefEqProofs
   have hM:M.watch who u=(M,repE 4):=by unfold Tbl.watch; rw[hms,hwt,if_pos ⟨rfl,hc⟩]
   rw[hM] at hk
   exact hk T h3 (o23.mono non_up) ⟨bv,fv,Kk,V,F,y3⟩
  ·have hM:M.watch who u=(M.fed (M.stripe u) ((M.fd (M.stripe u)).watch who u),rep0):=by
    unfold Tbl.watch
    rw[if_neg]
    rintro⟨_,h2⟩
    have:(M.count who:Int)=(((List.range M.n).map fun s=>(M.fd s).count who).sum:Nat):=rfl
    omega
   exact set_ _ (by simp[r7]) (by simp[r1]) (by simp[r2]) hM _ _ _ _ _ _ _ _ _ _
end
end Go.Proofs.YtcnphhhcknhhaaaGreat
namespace Go.Proofs.YtcnphhhcknhhaaaGreat
open Go Go.Den Go.MapKept
set_option linter.unusedSimpArgs false
set_option linter.unusedVariables false
set_option maxRecDepth 20000
theorem bsSlEv:bsI P qAZ=some (qkZ,1,#[.slice none 0 0]):=by kernel_rfl
structure MpI (T0:Tags)(h0:Heap)(g:Tag)(p:Nat)(M:Tbl)(who:Int)(bv fv:Value)(Kk V:Nat→Value)(F:Nat→Nat)(v1 v3:Nat)(i:Nat)(av:Value)(T':Tags)(h':Heap):Prop where
 o:Only (pre g) T0 h0 T' h'
 x:MdX T' h' g p (M.drainTo who i) bv fv Kk V F
 a:∃ cv:Nat→Value,Rw T' h' lc 1 qkZ av i (seqF i fun j=>[cv j])∧∀ j,j<i→Sl 8 EvR (fz T' h') (cv j) ((M.fd j).told who)
 n:∀ b,rowOf av=some b→h0 b=none∧b≠v1∧b≠v3
 b1:h' v1=some (.cells #[.int .i64 0,.slice none 0 0,.slice none 0 0,.bool false] qcZ (0,0))∧T' v1=lc
 b3:h' v3=some (.cells #[.int .i64 0,.slice none 0 0,.slice none 0 0,.bool (M.lostTo who i)] qcZ (0,0))∧T' v3=lc
theorem drainTo_s (M:Tbl)(who:Int)(i:Nat):(M.drainTo who i).fed i ((M.fd i).drain who)=M.drainTo who (i+1):=by
 unfold Tbl.drainTo Tbl.fed bset
 congr 1
 funext k
 by_cases h:k=i
 ·subst h; simp
 ·by_cases h2:k<i
  ·have:k<i+1:=by omega
   simp -implicitDefEqProofs[h,h2,this]
  ·have:¬ k<i+1:=by omega
   simp -implicitDefEqProofs[h,h2,this]
theorem drainTo_fd (M:Tbl)(who:Int)(i:Nat):(M.drainTo who i).fd i=M.fd i:=by simp[Tbl.drainTo]
theorem lostTo_s (M:Tbl)(who:Int)(i:Nat):M.lostTo who (i+1)=(M.lostTo who i || (M.fd i).lost who):=by simp[Tbl.lostTo,List.range_succ,List.any_append]
def MpE (T0:Tags)(h0:Heap)(g:Tag)(p:Nat)(M:Tbl)(who:Int)(bv fv:Value)(Kk V:Nat→Value)(F:Nat→Nat)(v1 v3:Nat)(i:Nat)(av:Value)(h':Heap):Prop:=∃ T',MpI T0 h0 g p M who bv fv Kk V F v1 v3 i av T' h'
variable {K:KTy}
set_option maxHeartbeats 1000000 in
theorem mpoll_ok (who:Int){T:Tags}{h:Heap}{g:Tag}{p m:Nat}{M:Tbl}(w:Wf T h)(gg:Gd g)(x:MdR T h g p M)(hs:TS m M)(hm:m<100000)
  (hk:∀ T' h' vv ev,Only (pre g) T h T' h'→MdR T' h' g p (M.poll who).1→RpX (fz T' h') (M.poll who).2 vv ev→K (.agg (rplC (M.poll who).2 vv ev).toArray) h'):callM P qhiZ #[ptr p,.int .i64 who] h K:=by
 apply qrAZ
 unfold qijZ
 have n8:=ts_n8 hs
 rw[zcRep]
 refine nw_tag w lc fun v1 T1 h1 n1 o1 t1 c1=>?_
 refine nw_tag o1.wf lc fun v3 T3 h3 n3 o3 t3 c3=>?_
 have o13:=o1.trans o3
 have n3':h v3=none:=by
  cases hh:h v3 with
  | none=>rfl
  | some o=>obtain⟨o',ho'⟩:=o1.al _ _ hh; rw[n3] at ho'; cases ho'
 have ne13:v1≠v3:=ne_fresh c1 n3
 have b1:=o3.see ⟨c1,t1⟩ (not_non _)
 have hlcg:¬ pre g lc:=fun hh=>gg.off lc hh rfl
 obtain⟨bv,fv,Kk,V,F,y⟩:=x.kp o13.k (Off.non _) (not_non _)
 have cp:=y.hp
 simp -implicitDefEqProofs only[mdC] at cp
 rw[seqM_eq]
 unfold qlkZ
 have fl:=y.fd.len
 simp -implicitDefEqProofs[ld_at cp,cel_of cp,stm_at cp,stm_upd,ld_same,cel_same,over,fl]
 have m0:M.drainTo who 0=M:=by simp[Tbl.drainTo]
 have I0:MpI T h g p M who bv fv Kk V F v1 v3 0 (.slice none 0 0) T3 h3:=⟨o13.mono non_up,by rw[m0]; exact y,⟨fun _=>.nilFunc,Rw.nil _ _ _ _ _,fun j hj=>by omega⟩,fun b hb=>by simp[rowOf] at hb,b1,⟨by simpa [Tbl.lostTo] using c3,t3⟩⟩
 refine loop_on [0,1,4,5,14,15] (fun s h'=>∃ i:Nat,MpE T h g p M who bv fv Kk V F v1 v3 i (s 6) h'∧s 16 = .int .i64 i∧i≤M.n) (fun s _=>(M.n-num (s 16)).toNat) ⟨0,⟨T3,I0⟩,rfl,by omega⟩ ?_
 rintro s h4 hf ⟨i,⟨T4,I⟩,s16,hi⟩
 have s0:s 0=ptr p:=by simpa using hf 0 (by simp)
 have s1:s 1 = .int .i64 who:=by simpa using hf 1 (by simp)
 have s4:s 4=ptr v1:=by simpa using hf 4 (by simp)
 have s5:s 5=ptr v3:=by simpa using hf 5 (by simp)
 have s14:s 14=fv:=by simpa using hf 14 (by simp)
 have s15:s 15 = .int .i64 M.n:=by simpa using hf 15 (by simp)
 obtain⟨av,hav⟩:∃ av,s 6=av:=⟨_,rfl⟩
 rw[hav] at I
 unfold qljZ
 simp -implicitDefEqProofs[s15,s16]
 refine⟨fun hc=>?_,fun hc=>?_⟩
 ·have hlt:i<M.n:=by omega
  have hw1:IntKind.i64.wrap ((i:Int)+1)=(i+1:Nat):=by rw[wrap64_id (by omega) (by omega)]; omega
  obtain⟨fb,ia,ld⟩:=I.x.ldf (s:=i) hlt
  have fr:=I.x.fr i hlt
  rw[drainTo_fd] at fr
  unfold qliZ
  simp -implicitDefEqProofs[s1,s14,s16,ia,ld]
  refine fdrain_ok who I.o.wf (gg.app _) fr (fun j hj=>by have:=((hs.fd i hlt).qs j hj).2.2; omega) fun T5 h5 v o5 f5 sl5=>?_
  have x5:=I.x.fed o5 gg f5
  rw[drainTo_s] at x5
  have hlc5:¬ pre (g++[3,i]) lc:=fun hh=>hlcg (pre_trans hh)
  have b15:=o5.see I.b1 hlc5
  have b35:=o5.see I.b3 hlc5
  obtain⟨cv,ar,asl⟩:=I.a
  have ar5:=ar.kp o5.k hlc5
  have vo:=sl5.one
  have oT5:Only (pre g) T h T5 h5:=I.o.trans (o5.mono fun t=>pre_trans)
  unfold qlhZ
  simp -implicitDefEqProofs only[exV_0,exV_1,ov_s]
  rw[hav]
  refine Rw.appk bsSlEv unSlSlEv apSlEv (by omega) (by simp[vo.2]) (by simp[vo.1,vo.2]) o5.wf ar5 (by unfold maxLen; omega) (by omega) (by omega) (by simp[lc]) fun a av' T6 h6 o6 r6 k6 ha=>?_
  have hrow:=I.n
  have oT6:Only (pre g) T h T6 h6:=Only.keepk oT5 o6 k6 fun b hb=>(hrow b hb).1
  have b16:h6 v1=_∧T6 v1=lc:=⟨k6 _ _ b15.1 fun hh=>(hrow v1 hh).2.1 rfl,by rw[o6.tg _ _ b15.1]; exact b15.2⟩
  have b36:h6 v3=_∧T6 v3=lc:=⟨k6 _ _ b35.1 fun hh=>(hrow v3 hh).2.2 rfl,by rw[o6.tg _ _ b35.1]; exact b35.2⟩
  have ull:¬ (fun t=>t=lc) ([]:Tag):=by simp[lc]
  have x6:=x5.kp o6.k gg.off ull
  have n6:∀ b,rowOf av'=some b→h b=none∧b≠v1∧b≠v3:=fun b hb=>by
   rcases ha with ha | ⟨j,ha,hj⟩
   ·exact hrow b (by rw[← ha]; exact hb)
   ·rw[ha] at hb; cases hb
    refine⟨?_,fun e=>?_,fun e=>?_⟩
    ·cases hh:h b with
     | none=>rfl
     | some o=>obtain⟨o',ho'⟩:=oT5.al _ _ hh; rw[hj] at ho'; cases ho'
    ·subst e; rw[b15.1] at hj; cases hj
    ·subst e; rw[b35.1] at hj; cases hj
  have a6:∃ cv':Nat→Value,Rw T6 h6 lc 1 qkZ av' (i+1) (seqF (i+1) fun j=>[cv' j])∧∀ j,j<i+1→Sl 8 EvR (fz T6 h6) (cv' j) ((M.fd j).told who):=by
   refine⟨fun j=>if j=i then v else cv j,?_,fun j hj=>?_⟩
   ·have e1:(seqF (i+1) fun j=>[if j=i then v else cv j])=(seqF i fun j=>[cv j])++v.cells.toList:=by
     rw[seqF_succ,vo.2]
     congr 1
     ·exact seqF_congr fun j hj=>by rw[if_neg (by omega)]
     ·simp -implicitDefEqProofs
    rw[e1]; exact r6
   ·by_cases hji:j=i
    ·subst hji; simp only[if_true]; exact sl5.ext (@EvR.ext) (o6.ext ull)
    ·simp -implicitDefEqProofs only[if_neg hji]; exact ((asl j (by omega)).ext (@EvR.ext) (o5.ext (gg.app _).nil)).ext (@EvR.ext) (o6.ext ull)
  unfold qlgZ
  have c3':=b36.1
  have fin:∀ l:Bool,l=M.lostTo who (i+1)→MpI T h g p M who bv fv Kk V F v1 v3 (i+1) av' T6 (upd h6 v3 (.cells #[.int .i64 0,.slice none 0 0,.slice none 0 0,.bool l] qcZ (0,0))):=by
   intro l hl
   have o7:Only (fun t=>t=lc) T6 h6 T6 (upd h6 v3 (.cells #[.int .i64 0,.slice none 0 0,.slice none 0 0,.bool l] qcZ (0,0))):=Only.lst o6.wf b36
   obtain⟨cv',q1,q2⟩:=a6
   refine⟨oT6.own n3' b36.1,x6.kp o7.k gg.off ull,⟨cv',⟨q1.1.of_at fun b hb=>upd_ne (n6 b hb).2.2,q1.2⟩,fun j hj=>(q2 j hj).ext (@EvR.ext) (o7.ext ull)⟩,n6,⟨by rw[upd_ne ne13]; exact b16.1,b16.2⟩,⟨by rw[upd_same',hl],b36.2⟩⟩
  cases hlo:M.lostTo who i with
  | true =>
   rw[hlo] at c3'
   have:=fin true (by rw[lostTo_s,hlo]; rfl)
   simp -implicitDefEqProofs[s0,s1,s4,s5,s14,s15,s16,ld_at c3',cel_of c3',stm_at c3',stm_upd,ld_same,cel_same,over,hw1,-Int.natCast_add]
   exact⟨⟨i+1,⟨T6,this⟩,rfl,by omega⟩,by omega⟩
  | false =>
   rw[hlo] at c3'
   have:=fin ((M.fd i).lost who) (by rw[lostTo_s,hlo]; rfl)
   simp -implicitDefEqProofs[s0,s1,s4,s5,s14,s15,s16,ld_at c3',cel_of c3',stm_at c3',stm_upd,ld_same,cel_same,over,hw1,-Int.natCast_add]
   exact⟨⟨i+1,⟨T6,this⟩,rfl,by omega⟩,by omega⟩
 have hie:i=M.n:=by omega
 subst hie
 obtain⟨cv,ar,asl⟩:=I.a
 have hlen:(M.toldTo who M.n).length=M.n:=by simp[Tbl.toldTo]
 have hget:∀ j (hj:j<(M.toldTo who M.n).length),(M.toldTo who M.n)[j]=(M.fd j).told who:=fun j hj=>by simp[Tbl.toldTo]
 have t16:∀ j,j<M.n→((M.fd j).told who).length≤16:=fun j hj=>by
  unfold Feed.told
  split
  ·rename_i hcl
   have hw:who.toNat<8:=by simp[clientB] at hcl; omega
   exact ((hs.fd j hj).qs _ hw).2.2
  ·simp -implicitDefEqProofs
 have hsl:Sl 1 EvsR h4 av (M.toldTo who M.n):=by
  refine Row.sl' (F:=fun j=>[cv j]) (e:=qkZ) (fun j _=>rfl) (fun j hj=>⟨cv j,rfl,?_⟩) ?_
  ·rw[hget j hj]; exact (asl j (by omega)).ext (@EvR.ext) (fz_ext _ _)
  ·rw[hlen]; exact ar.1
 have hn16:∀ j,(nth (M.toldTo who M.n) j).length≤16:=fun j=>by
  unfold nth
  rw[List.getD_eq_getElem?_getD]
  by_cases hj:j<M.n
  ·rw[List.getElem?_eq_getElem (by omega),hget j (by omega)]; exact t16 j hj
  ·rw[List.getElem?_eq_none (by omega)]; simp
 have htot:∀ l:List (List Evt),(∀ x∈l,x.length≤16)→totE l≤16*l.length:=by
  intro l
  induction l with
  | nil=>intro _; simp[totE]
  | cons a l ih =>
   intro hh
   have h1:=ih fun x hx=>hh x (by simp[hx])
   have h2:=hh a (by simp)
   simp -implicitDefEqProofs[totE] at h1 ⊢; omega
 have ht:=htot (M.toldTo who M.n) fun l hl=>by
  obtain⟨j,hj,rfl⟩:=List.getElem_of_mem hl
  rw[hget j hj]; exact t16 j (by omega)
 unfold qlmZ
 simp -implicitDefEqProofs[hav]
 refine merge_ok _ I.o.wf hsl (by omega) (by omega) (fun j=>by have:=hn16 j; omega) fun ev h5 e5 s5'=>?_
 have o5:Only non T4 h4 T4 h5:=Only.of_ext I.o.wf e5
 have b1:=o5.see I.b1 (not_non _)
 have b3:=o5.see I.b3 (not_non _)
 have x5:=I.x.kp o5.k (Off.non _) (not_non _)
 have eo:=s5'.one
 have c3:=b3.1
 have c1:=b1.1
 have ull:¬ (fun t=>t=lc) ([]:Tag):=by simp[lc]
 obtain⟨h6,hh6⟩:∃ h6,h6=upd h5 v3 (.cells #[.int .i64 0,.slice none 0 0,ev,.bool (M.lostTo who M.n)] qcZ (0,0)):=⟨_,rfl⟩
 have o6:Only (fun t=>t=lc) T4 h5 T4 h6:=by rw[hh6]; exact Only.lst o5.wf b3
 have c36:h6 v3=some (.cells #[.int .i64 0,.slice none 0 0,ev,.bool (M.lostTo who M.n)] qcZ (0,0)):=by rw[hh6,upd_same']
 have b16:h6 v1=some (.cells #[.int .i64 0,.slice none 0 0,.slice none 0 0,.bool false] qcZ (0,0))∧T4 v1=lc:=⟨by rw[hh6,upd_ne ne13]; exact b1.1,b1.2⟩
 have oT6:Only (pre g) T h T4 h6:=by rw[hh6]; exact (I.o.up o5 non_up).own n3' b3.1
 have o7:Only (fun t=>t=lc) T4 h6 T4 (upd h6 v1 (.cells #[.int .i64 0,.slice none 0 0,ev,.bool (M.lostTo who M.n)] qcZ (0,0))):=Only.lst o6.wf b16
 have n1':h v1=none:=n1
 unfold qllZ
 simp -implicitDefEqProofs[s4,s5]
 rw[stm_at (n:=1) (v:=ev) c3 (by simp[eo.2]) (by simp) (by simp[eo.1,eo.2])]
 have hov:over #[.int .i64 0,.slice none 0 0,.slice none 0 0,.bool (M.lostTo who M.n)] 2 ev.cells.toList=#[.int .i64 0,.slice none 0 0,ev,.bool (M.lostTo who M.n)]:=by rw[eo.2]; simp[over]
 rw[hov,← hh6]
 have hld:ldV (some (some 4)) (ptr v3) h6=some (.agg #[.int .i64 0,.slice none 0 0,ev,.bool (M.lostTo who M.n)]):=by simp[ld_at c36]
 simp -implicitDefEqProofs[hld]
 rw[stm_at (n:=4) b16.1 (by simp) (by simp) (by simp[eo.1])]
 have hov2:over #[.int .i64 0,.slice none 0 0,.slice none 0 0,.bool false] 0 (Value.agg #[.int .i64 0,.slice none 0 0,ev,.bool (M.lostTo who M.n)]).cells.toList=#[.int .i64 0,.slice none 0 0,ev,.bool (M.lostTo who M.n)]:=by simp[over]
 rw[hov2]
 simp -implicitDefEqProofs[s4,tgRep86,ld_same]
 have hP:M.poll who=(M.drainTo who M.n,⟨0,[],mergeE (M.toldTo who M.n),M.lostTo who M.n⟩):=rfl
 rw[hP] at hk
 refine kv (hk T4 _ (.slice none 0 0) ev (oT6.own n1' b16.1) ⟨bv,fv,Kk,V,F,(x5.kp o6.k gg.off ull).kp o7.k gg.off ull⟩ ⟨.inl ⟨rfl,_,_,rfl⟩,(s5'.ext (@EvR.ext) (o6.ext ull)).ext (@EvR.ext) (o7.ext ull)⟩) ?_
 simp -implicitDefEqProofs[rplC]
end Go.Proofs.YtcnphhhcknhhaaaGreat
namespace Go.Proofs.YtcnphhhcknhhaaaGreat
open Go Go.Den Go.MapKept
set_option linter.unusedSimpArgs false
set_option linter.unusedVariables false
set_option maxRecDepth 20000
theorem wo_only {T:Tags}{h h':Heap}{b:Nat}{o:Obj}(w:Wf T h)(e:Ext (wo h [b]) h')(hb:h' b=some o)(ht:T b=lc):Only (fun t=>t=lc) T h T h':=by
 have kk:∀ k z,h k=some z→k≠b→h' k=some z:=fun k z hk hne=>e k z (by rw[wo_out (by simpa using hne)]; exact hk)
 refine⟨fun k hk=>?_,fun _ _ _=>rfl,fun k z hk=>?_,fun k z hk n=>kk k z hk fun hh=>n (by subst hh; exact ht)⟩
 ·cases hh:h k with
  | none=>exact w k hh
  | some z =>
   by_cases hkb:k=b
   ·subst hkb; rw[hb] at hk; cases hk
   ·rw[kk k z hh hkb] at hk; cases hk
 ·by_cases hkb:k=b
  ·subst hkb; exact⟨o,hb⟩
  ·exact⟨z,kk k z hk hkb⟩
def MqJ (h3:Heap)(M:Tbl)(us:List ByteArray)(vb:Nat)(i:Nat)(h':Heap):Prop :=
 ∃ vv,Ext (wo h3 [vb]) h'∧h' vb=some (.cells #[.int .i64 0,vv,.slice none 0 0,.bool false] qcZ (0,0))∧Row 3 qrZ h' vv i (((us.take i).map M.pres).flatMap presC)∧∀ b,rowOf vv=some b→h3 b=none∧b≠vb
variable {K:KTy}
set_option maxHeartbeats 2000000 in
theorem mdo_ok (who:Int)(o:OpD)(ow:OpW o)(hl:o.users.length<1000000){T:Tags}{h:Heap}{uv:Value}(hu:Sl 1 StrR (fz T h) uv o.users){g:Tag}{p m:Nat}{M:Tbl}(w:Wf T h)(gg:Gd g)(x:MdR T h g p M)(hs:TS m M)(hm:m<100000)
  (hk:∀ T' h' vv ev,Only (pre g) T h T' h'→MdR T' h' g p (M.do_ who o).1→RpX (fz T' h') (M.do_ who o).2 vv ev→K (.agg (rplC (M.do_ who o).2 vv ev).toArray) h'):callM P qbQZ #[ptr p,.int .i64 who,.agg (opC o uv).toArray] h K:=by
 apply qofZ
 unfold qgRZ
 have n8:=ts_n8 hs
 have nn:=hs.nn
 refine nw_agg fun v1 h0 n0 e0 c0=>?_
 have w0:=w.ext e0
 rw[zcRep]
 refine nw_tag w0 lc fun v3 T1 h1 n1 o1 t3 c3=>?_
 have o01:Only non T h T1 h1:=(Only.of_ext (U:=non) w e0).trans o1
 have b0:h0 v1=_∧T v1=[]:=⟨c0,w v1 n0⟩
 have b0:=o1.see b0 (not_non _)
 have b3:h1 v3=_∧T1 v3=lc:=⟨c3,t3⟩
 have x1:=x.up o01 (Off.non _) (not_non _)
 have n3:h v3=none:=by
  cases hh:h v3 with
  | none=>rfl
  | some ob=>rw[e0 _ _ hh] at n1; cases n1
 have oa:∀ h',h' v1=some (.cells (opC o uv).toArray qwZ (0,0))→ldV (some (some 7)) (ptr v1) h'=some (.agg (opC o uv).toArray):=fun h' hc=>by simp[ld_at hc,opC]
 have ok:∀ h',h' v1=some (.cells (opC o uv).toArray qwZ (0,0))→cel h' v1 0=some (.int .i64 o.kind):=fun h' hc=>by simp[cel_of hc,opC]
 have okU:∀ h',h' v1=some (.cells (opC o uv).toArray qwZ (0,0))→cel h' v1 1=some (.string o.user):=fun h' hc=>by simp[cel_of hc,opC]
 simp -implicitDefEqProofs only[oa _ b0.1,ov_s]
 refine modBad_ok o ow (hu.ext (@StrR.ext) ((o01.ext (not_non _)).trans (fz_ext _ _))) hl fun h2 e2=>?_
 have o2:Only non T1 h1 T1 h2:=Only.of_ext o1.wf e2
 have o02:Only non T h T1 h2:=o01.trans o2
 have b0:=o2.see b0 (not_non _)
 have b3:=o2.see b3 (not_non _)
 have x2:=x1.up o2 (Off.non _) (not_non _)
 have c3':=b3.1
 have ull:¬ (fun t=>t=lc) ([]:Tag):=by simp[lc]
 have err1:M.do_ who o=(M,repE 1)→K (.agg #[.int .i64 1,.slice none 0 0,.slice none 0 0,.bool false]) (upd h2 v3 (.cells #[.int .i64 1,.slice none 0 0,.slice none 0 0,.bool false] qcZ (0,0))):=fun e=>by
  rw[e] at hk
  exact hk T1 _ (.slice none 0 0) (.slice none 0 0) ((o02.mono non_up).own n3 b3.1) (x2.kp (Only.lst o2.wf b3).k gg.off ull) (RpX.no _ rfl rfl)
 unfold qidZ
 cases hb:badB o with
 | true =>
  have e:M.do_ who o=(M,repE 1):=by simp[Tbl.do_,hb]
  simp -implicitDefEqProofs
  unfold qffZ
  rw[bdRepE]
  simp -implicitDefEqProofs[ld_at c3',cel_of c3',stm_at c3',stm_upd,ld_same,cel_same,over]
  exact err1 e
 | false =>
 simp -implicitDefEqProofs
 refine within_ok _ _ _ ?_
 by_cases hw':(0:Int)≤who∧(who:Int)≤7
 rotate_left
 ·have e:M.do_ who o=(M,repE 1):=by
   have:clientB who=false:=by simp[clientB]; omega
   simp -implicitDefEqProofs[Tbl.do_,this]
  simp -implicitDefEqProofs[hw']
  unfold qffZ
  rw[bdRepE]
  simp -implicitDefEqProofs[ld_at c3',cel_of c3',stm_at c3',stm_upd,ld_same,cel_same,over]
  exact err1 e
 have hcl:clientB who=true:=by simp[clientB]; omega
 simp -implicitDefEqProofs[hw']
 unfold qicZ
 rw[seqM_eq]
 have fin:∀ (T':Tags) (h':Heap) (vv ev:Value) (s':Env),Only (pre g) T h T' h'→MdR T' h' g p (M.do_ who o).1→RpX (fz T' h') (M.do_ who o).2 vv ev→s' 6=ptr v3→h' v3=some (.cells (rplC (M.do_ who o).2 vv ev).toArray qcZ (0,0))→(retM P [.cell 6 86] K) .ret [] s' h':=by
  intro T' h' vv ev s' o' x' r' s6 c'
  simp -implicitDefEqProofs only[rplC] at c'
  simp -implicitDefEqProofs[s6,ld_at c',cel_of c',stm_at c',stm_upd,ld_same,cel_same,over,tgRep86]
  exact kv (hk T' h' vv ev o' x' r') (by simp[rplC])
 -- a reply is stored,and answered
 have rep:∀ (T':Tags) (h':Heap) (vv ev:Value) (C:Array Value),Only (pre g) T h T' h'→MdR T' h' g p (M.do_ who o).1→RpX (fz T' h') (M.do_ who o).2 vv ev→(∃ c,c.size=4∧h' v3=some (.cells c qcZ (0,0)))→T' v3=lc→C=(rplC (M.do_ who o).2 vv ev).toArray →
   stM (some 4) (ptr v3) (.agg C) h' fun h''=>ov (ldV (tagg P 86) (ptr v3) h'') fun v=>K v h'':=by
  intro T' h' vv ev C o' x' r' ⟨c,hc4,hc⟩ ht hC
  subst hC
  have vo:=r'.v.one
  have eo:=r'.e.one
  rw[stm_at (n:=4) hc (by simp[rplC]) (by omega) (by simp[rplC,vo.1,eo.1])]
  have hov:over c 0 (Value.agg (rplC (M.do_ who o).2 vv ev).toArray).cells.toList=(rplC (M.do_ who o).2 vv ev).toArray:=by
   rcases c with ⟨l⟩
   match l,hc4 with
   | [a1,a2,a3,a4],_=>simp[over,rplC]
  rw[hov]
  have ol:=Only.lst (o':=.cells (rplC (M.do_ who o).2 vv ev).toArray qcZ (0,0)) o'.wf ⟨hc,ht⟩
  have:=fin T' _ vv ev (fun _=>ptr v3) (o'.own n3 hc) (x'.kp ol.k gg.off ull) (r'.ext (ol.ext ull)) rfl (upd_same' _ _ _)
  simpa using this
 have rep0':∀ (T':Tags) (h':Heap),h' v3=some (.cells #[.int .i64 0,.slice none 0 0,.slice none 0 0,.bool false] qcZ (0,0))→∃ c,c.size=4∧h' v3=some (.cells c qcZ (0,0)):=fun _ h' hc=>⟨_,rfl,hc⟩
 have hlcg:¬ pre g lc:=fun hh=>gg.off lc hh rfl
 -- behind the kinds that write,and Poll
 have rest:∀ (s:Env),s 0=ptr p→s 1 = .int .i64 who→s 5=ptr v1→s 6=ptr v3→¬ (o.kind=1∨o.kind=2∨o.kind=3)→o.kind≠8→qeoZ s h2 K []:=by
  intro s s0 s1 s5 s6 hnw h8
  obtain⟨bv,fv,Kk,V,F,y⟩:=x2
  have cp:=y.hp
  simp -implicitDefEqProofs only[mdC] at cp
  unfold qeoZ
  simp -implicitDefEqProofs[s0,ld_at cp,cel_of cp,stm_at cp,stm_upd,ld_same,cel_same,over]
  cases hclo:M.t.closed with
  | true =>
   have e:M.do_ who o=(M,repE 5):=by simp[Tbl.do_,hb,hcl,hnw,h8,hclo]
   simp -implicitDefEqProofs
   unfold qmdZ
   rw[bdRepE]
   simp -implicitDefEqProofs[s6]
   exact rep T1 h2 (.slice none 0 0) (.slice none 0 0) _ (o02.mono non_up) (by rw[e]; exact⟨bv,fv,Kk,V,F,y⟩) (by rw[e]; exact RpX.no _ rfl rfl) (rep0' T1 _ b3.1) b3.2 (by rw[e]; rfl)
  | false =>
   simp -implicitDefEqProofs
   unfold qmtZ
   rw[zcRep]
   refine nw_tag o02.wf lc fun v50 T3 h3 n50 o3 t50 c50=>?_
   have n50':h v50=none:=by
    cases hh:h v50 with
    | none=>rfl
    | some ob=>obtain⟨o',ho'⟩:=o02.al _ _ hh; rw[n50] at ho'; cases ho'
   have ne50:v3≠v50:=ne_fresh b3.1 n50
   have b0:=o3.see b0 (not_non _)
   have b3:=o3.see b3 (not_non _)
   have b50:h3 v50=_∧T3 v50=lc:=⟨c50,t50⟩
   have y3:=y.kp o3.k (Off.non _) (not_non _)
   have cp:=y3.hp
   simp -implicitDefEqProofs only[mdC] at cp
   have oT3:Only (pre g) T h T3 h3:=(o02.trans o3).mono non_up
   rw[seqM_eq]
   unfold qmsZ
   simp -implicitDefEqProofs[s5,ok _ b0.1]
   refine⟨fun h6=>?_,fun h6=>?_⟩
   ·have e:M.do_ who o=M.watch who o.user:=by simp[Tbl.do_,hb,hcl,hnw,h8,hclo,h6]
    unfold qmfZ
    simp -implicitDefEqProofs[s0,s1,s5,okU _ b0.1]
    refine mwatch_ok who o.user ow.s1 o3.wf gg ⟨bv,fv,Kk,V,F,y3⟩ hs hm fun T4 h4 o4 x4=>?_
    have b34:=o4.see b3 hlcg
    have b54:=o4.see b50 hlcg
    have c54:=b54.1
    unfold qmeZ
    simp -implicitDefEqProofs[ld_at c54,cel_of c54,stm_at c54,stm_upd,ld_same,cel_same,over,s6]
    have hr:(M.watch who o.user).2=repE (M.watch who o.user).2.err:=by unfold Tbl.watch; split<;>rfl
    have ol:=Only.lst (o':=.cells #[.int .i64 (M.watch who o.user).2.err,.slice none 0 0,.slice none 0 0,.bool false] qcZ (0,0)) o4.wf b54
    have hc:(rplC (M.do_ who o).2 (.slice none 0 0) (.slice none 0 0)).toArray=#[.int .i64 (M.watch who o.user).2.err,.slice none 0 0,.slice none 0 0,.bool false]:=by rw[e,hr]; rfl
    exact rep T4 _ (.slice none 0 0) (.slice none 0 0) _ ((oT3.trans o4).own n50' b54.1) (by rw[e]; exact x4.kp ol.k gg.off ull) (by rw[e,hr]; exact RpX.no _ rfl rfl) ⟨_,rfl,by rw[upd_ne ne50]; exact b34.1⟩ b34.2 hc.symm
   unfold qmrZ
   simp -implicitDefEqProofs
   refine⟨fun h7=>?_,fun h7=>?_⟩
   ·have e:M.do_ who o=(M.fed (M.stripe o.user) ((M.fd (M.stripe o.user)).unwatch who o.user),rep0):=by simp[Tbl.do_,hb,hcl,hnw,h8,hclo,h6,h7]
    have hst:=stripeOf_lt (u:=o.user) (n:=M.c.stripes) (by omega)
    obtain⟨su,hsu⟩:∃ su:Nat,stripeOf o.user M.c.stripes=su:=⟨(stripeOf o.user M.c.stripes).toNat,by omega⟩
    have hsn:su<M.n:=by omega
    have hms:M.stripe o.user=su:=by unfold Tbl.stripe; rw[hsu]; simp
    rw[hms] at e
    obtain⟨fb,ia,ld⟩:=y3.ldf hsn
    unfold qmiZ
    simp -implicitDefEqProofs[s0,s1,s5,okU _ b0.1,ld_at cp,cel_of cp,stm_at cp,stm_upd,ld_same,cel_same,over]
    refine mstripe_ok o.user ow.s1 ⟨bv,fv,Kk,V,F,y3⟩ (by omega) ?_
    rw[hsu]
    unfold qmhZ
    simp -implicitDefEqProofs[s0,s1,s5,okU _ b0.1,ld_at cp,cel_of cp,stm_at cp,stm_upd,ld_same,cel_same,over,ia,ld]
    refine funwatch_ok who o.user ow.s1 o3.wf (gg.app _) (y3.fr su hsn) ((hs.fd su hsn).g hm) (by have:=(hs.fd su hsn).len; omega) fun T4 h4 o4 x4=>?_
    have hlc4:¬ pre (g++[3,su]) lc:=fun hh=>hlcg (pre_trans hh)
    have b34:=o4.see b3 hlc4
    have b54:=o4.see b50 hlc4
    have c54:=b54.1
    unfold qmgZ
    simp -implicitDefEqProofs[ld_at c54,cel_of c54,stm_at c54,stm_upd,ld_same,cel_same,over,s6]
    exact rep T4 h4 (.slice none 0 0) (.slice none 0 0) _ (oT3.trans (o4.mono fun t=>pre_trans)) (by rw[e]; exact⟨bv,fv,Kk,V,F,y3.fed o4 gg x4⟩) (by rw[e]; exact RpX.no _ rfl rfl) (rep0' T4 _ b34.1) b34.2 (by rw[e]; rfl)
   unfold qmqZ
   simp -implicitDefEqProofs
   refine⟨fun h9=>?_,fun h9=>?_⟩
   ·have e:M.do_ who o=({ M with t:={ M.t with closed:=true } },rep0):=by simp[Tbl.do_,hb,hcl,hnw,h8,hclo,h6,h7,h9]
    unfold qmkZ
    have htm:ldV (some (some 3)) (.pointer (some ⟨p,7,none⟩)) h3=some (.agg (tmC M.t).toArray):=by simp[ld_at cp,tmC]
    simp -implicitDefEqProofs[s0,htm]
    refine tickShut_ok M.t fun h4 e4=>?_
    have o4:Only non T3 h3 T3 h4:=Only.of_ext o3.wf e4
    have y4:=y3.kp o4.k (Off.non _) (not_non _)
    have b34:=o4.see b3 (not_non _)
    have b54:=o4.see b50 (not_non _)
    have cp:=y4.hp
    obtain⟨o5,y5⟩:=y4.st (M':={ M with t:={ M.t with closed:=true } }) o4.wf gg (c:=_) rfl rfl rfl rfl
    simp -implicitDefEqProofs only[mdC] at cp o5 y5
    have b35:=o5.see b34 (by simp[lc]; obtain⟨k,r,rfl⟩:=gg; simp)
    have b55:=o5.see b54 (by simp[lc]; obtain⟨k,r,rfl⟩:=gg; simp)
    have c55:=b55.1
    unfold qmjZ
    simp -implicitDefEqProofs only[tmC]
    simp -implicitDefEqProofs[s0,ld_at cp,cel_of cp,stm_at cp,ld_at c55,cel_of c55,stm_at c55,stm_upd,ld_same,cel_same,over,s6]
    refine rep T3 _ (.slice none 0 0) (.slice none 0 0) _ ((oT3.up o4 non_up).trans (o5.mono fun _=>eq_pre)) (by rw[e]; exact⟨bv,fv,Kk,V,F,y5⟩) (by rw[e]; exact RpX.no _ rfl rfl) (rep0' T3 _ b35.1) b35.2 (by rw[e]; rfl)
   have e:M.do_ who o=(M,⟨0,(usersOf o).map M.pres,[],false⟩):=by simp[Tbl.do_,hb,hcl,hnw,h8,hclo,h6,h7,h9]
   unfold qmpZ
   simp -implicitDefEqProofs[s5,oa _ b0.1]
   have hu3:Sl 1 StrR (fz T3 h3) uv o.users:=hu.ext (@StrR.ext) (oT3.ext gg.nil)
   refine users_ok o ow o3.wf (hu3.ext (@StrR.ext) (fz_ext _ _)) hl fun us h4 e4 hus=>?_
   have o4:Only non T3 h3 T3 h4:=Only.of_ext o3.wf e4
   have y4:=y3.kp o4.k (Off.non _) (not_non _)
   have b34:=o4.see b3 (not_non _)
   have b54:=o4.see b50 (not_non _)
   have ulen:=hus.len
   have ule:(usersOf o).length<1000000:=by
    unfold usersOf
    split
    ·simp -implicitDefEqProofs
    ·split
     ·exact hl
     ·simp -implicitDefEqProofs
   unfold qmoZ
   simp -implicitDefEqProofs only[ulen,ov_s]
   have J0:MqJ h4 M (usersOf o) v50 0 h4:=⟨.slice none 0 0,fun q z hq=>(wo_get hq).2,b54.1,by simpa using (Rf.nil (sz:=3) (e:=qrZ) (Ext.refl h4)).row,fun b hb=>by simp[rowOf] at hb⟩
   refine loop_on [0,6,7,41,42] (fun s' h'=>∃ i:Nat,MqJ h4 M (usersOf o) v50 i h'∧s' 43 = .int .i64 i∧i≤(usersOf o).length) (fun s' _=>((usersOf o).length-num (s' 43)).toNat) ⟨0,J0,rfl,by omega⟩ ?_
   rintro r h5 hf5 ⟨i,⟨vv,J1,J2,J3,J4⟩,r43,hi⟩
   have r0:r 0=ptr p:=by simpa [s0] using hf5 0 (by simp)
   have r6:r 6=ptr v3:=by simpa [s6] using hf5 6 (by simp)
   have r7:r 7=ptr v50:=by simpa using hf5 7 (by simp)
   have r41:r 41=us:=by simpa using hf5 41 (by simp)
   have r42:r 42 = .int .i64 (usersOf o).length:=by simpa using hf5 42 (by simp)
   have o5:=wo_only o4.wf J1 J2 b54.2
   have y5:=y4.kp o5.k gg.off ull
   unfold qmnZ
   simp -implicitDefEqProofs[r42,r43]
   refine⟨fun hc=>?_,fun hc=>?_⟩
   ·have hlt:i<(usersOf o).length:=by omega
    have hw1:IntKind.i64.wrap ((i:Int)+1)=(i+1:Nat):=by rw[wrap64_id (by omega) (by omega)]; omega
    obtain⟨ub,uo,ui,ul⟩:=str_at hus hlt (k:=.i64)
    have ul5:=ul _ ((o5.ext ull).trans (fz_ext _ _))
    have hsz:=str_sizes hus _ (List.getElem_mem hlt)
    unfold qmmZ
    simp -implicitDefEqProofs[r0,r7,r41,r43,ui,ul5,ld_at J2,cel_of J2,stm_at J2,stm_upd,ld_same,cel_same,over]
    refine mpres_ok _ hsz o5.wf ⟨bv,fv,Kk,V,F,y5⟩ hs hm fun h6 e6=>?_
    have J2:=e6 _ _ J2
    have J3:=J3.ext e6
    unfold qmlZ
    simp -implicitDefEqProofs[ld_at J2,cel_of J2,stm_at J2,stm_upd,ld_same,cel_same,over]
    refine bs_one bsPres (by simp[presC]) (by omega) fun pb h7 n7 e7 c7=>?_
    have J2:=e7 _ _ J2
    have J3:=J3.ext e7
    simp -implicitDefEqProofs[ld_at J2,cel_of J2,stm_at J2,stm_upd,ld_same,cel_same,over]
    refine app_intro unSlPres apPres (by omega) J3 (cels_one c7 (by simp[presC])) (by simp[presC]) (by unfold maxLen; omega) (by omega) fun vv2 h8 r8 k8 ha=>?_
    have J2':h8 v50=_:=k8 _ _ J2 fun hh=>(J4 v50 hh.symm).2 rfl
    have ho:=r8.one
    have n8':∀ b,rowOf vv2=some b→h4 b=none∧b≠v50:=fun b hb=>by
     rcases ha with ha | ⟨j,ha,hj⟩
     ·exact J4 b (by rw[← ha]; exact hb)
     ·rw[ha] at hb; cases hb
      have hne:b≠v50:=fun hh=>by subst hh; rw[J2] at hj; cases hj
      refine⟨?_,hne⟩
      cases hh:h4 b with
      | none=>rfl
      | some z =>
       have:=e7 _ _ (e6 _ _ (J1 b z (by rw[wo_out (by simpa using hne)]; exact hh)))
       rw[this] at hj; cases hj
    simp -implicitDefEqProofs[s0,s6,r0,r6,r7,r41,r42,r43,ld_at J2',cel_of J2',stm_at J2',stm_upd,ld_same,cel_same,over,ho.1,ho.2,hw1,-Int.natCast_add]
    refine⟨⟨i+1,⟨vv2,wo_upd (fun q z hq=>?_) (by simp),upd_same' _ _ _,?_,n8'⟩,rfl,by omega⟩,by omega⟩
    ·have hq4:=wo_get hq
     exact k8 q z (e7 _ _ (e6 _ _ (J1 q z hq))) fun hh=>by rw[(J4 q hh.symm).1] at hq4; cases hq4.2
    ·rw[List.take_succ_eq_append_getElem hlt,List.map_append,List.flatMap_append]
     refine Row.of_at ?_ fun b hb=>upd_ne (n8' b hb).2
     simpa using r8
   have hie:i=(usersOf o).length:=by omega
   subst hie
   rw[List.take_of_length_le (Nat.le_refl _)] at J3
   have b35:h5 v3=_∧T3 v3=lc:=⟨J1 v3 _ (by rw[wo_out (by simpa using ne50)]; exact b34.1),b34.2⟩
   have vo:=J3.one
   simp -implicitDefEqProofs[r6,r7,ld_at J2,cel_of J2,stm_at J2,stm_upd,ld_same,cel_same,over,vo.1]
   refine rep T3 h5 vv (.slice none 0 0) _ ?_ (by rw[e]; exact⟨bv,fv,Kk,V,F,y5⟩) ?_ (rep0' T3 _ b35.1) b35.2 (by rw[e]; rfl)
   ·refine Only.keepk (r:=some v50) (oT3.up o4 non_up) o5 (fun b z hz hne=>J1 b z (by rw[wo_out (by simpa using fun hh=>hne (by rw[hh]))]; exact hz)) fun b hb=>by cases hb; exact n50'
   ·rw[e]
    refine⟨?_,.inl ⟨rfl,_,_,rfl⟩⟩
    have hl2:(usersOf o).length=((usersOf o).map M.pres).length:=by simp
    have J3':Row 3 qrZ (fz T3 h5) vv (usersOf o).length (((usersOf o).map M.pres).flatMap presC):=J3.of_at fun b hb=>by simp[fz,o4.wf b (J4 b hb).1]
    rw[hl2] at J3'
    exact Row.slE (enc:=presC) (R:=PresR) (fun _=>rfl) (fun _=>rfl) J3'
 unfold qibZ
 simp -implicitDefEqProofs[ok _ b0.1]
 rw[seqM_eq]
 -- behind the kinds
 have ten:∀ (s:Env) (q:Bool),s 0=ptr p→s 1 = .int .i64 who→s 5=ptr v1→s 6=ptr v3→s 19 = .int .i64 o.kind→s 20 = .bool (decide (o.kind=1∨o.kind=2∨o.kind=3)) →
   qcqZ s h2 (thenM (fun m s25 h26=>qeoZ s25 h26 K m) (retM P [.cell 6 86] K)) []:=by
  intro s q s0 s1 s5 s6 s19 s20
  unfold qcqZ
  by_cases hnw:o.kind=1∨o.kind=2∨o.kind=3
  ·have e:M.do_ who o=M.write o:=by simp[Tbl.do_,hb,hcl,hnw]
   simp -implicitDefEqProofs[s20,hnw]
   unfold qhsZ
   simp -implicitDefEqProofs only[s0,s5,oa _ b0.1,ov_s]
   refine mwrite_ok o ow hu.one o2.wf gg x2 hs hm fun T4 h4 o4 x4=>?_
   have b34:=o4.see b3 hlcg
   have hr:(M.write o).2=repE (M.write o).2.err:=by unfold Tbl.write; split<;>rfl
   simp -implicitDefEqProofs[s6,repC]
   exact rep T4 h4 (.slice none 0 0) (.slice none 0 0) _ ((o02.mono non_up).trans o4) (by rw[e]; exact x4) (by rw[e,hr]; exact RpX.no _ rfl rfl) (rep0' T4 _ b34.1) b34.2 (by rw[e,hr]; rfl)
  ·simp -implicitDefEqProofs[s20,hnw]
   unfold qmcZ
   simp -implicitDefEqProofs[s19]
   refine⟨fun h8=>?_,fun h8=>?_⟩
   ·have e:M.do_ who o=M.poll who:=by simp[Tbl.do_,hb,hcl,hnw,h8]
    unfold qmbZ
    simp -implicitDefEqProofs only[s0,s1]
    refine mpoll_ok who o2.wf gg x2 hs hm fun T4 h4 vv ev o4 x4 r4=>?_
    have b34:=o4.see b3 hlcg
    simp -implicitDefEqProofs[s6]
    exact rep T4 h4 vv ev _ ((o02.mono non_up).trans o4) (by rw[e]; exact x4) (by rw[e]; exact r4) (rep0' T4 _ b34.1) b34.2 (by rw[e])
   ·exact rest _ (by simp[s0]) (by simp[s1]) (by simp[s5]) (by simp[s6]) hnw h8
 unfold qiaZ
 by_cases hk1:o.kind=1
 ·simp -implicitDefEqProofs[hk1]
  unfold qhXZ
  simp -implicitDefEqProofs
  exact ten _ true (by simp) (by simp) (by simp) (by simp) (by simp[hk1]) (by simp[hk1])
 ·simp -implicitDefEqProofs[hk1]
  unfold qfgZ
  by_cases hk2:o.kind=2
  ·simp -implicitDefEqProofs[hk2]
   unfold qhYZ
   simp -implicitDefEqProofs
   exact ten _ true (by simp) (by simp) (by simp) (by simp) (by simp[hk2]) (by simp[hk2])
  ·simp -implicitDefEqProofs[hk2]
   unfold qhZZ
   simp -implicitDefEqProofs
   exact ten _ true (by simp) (by simp) (by simp) (by simp) (by simp) (by simp[hk1,hk2])
end Go.Proofs.YtcnphhhcknhhaaaGreat
namespace Go.Proofs.YtcnphhhcknhhaaaGreat
open Go Go.Den Go.MapKept
set_option linter.unusedSimpArgs false
set_option linter.unusedVariables false
set_option maxRecDepth 20000
theorem Two.mono {hp mp m k N:Nat}{c:Cfg}{W:Wd}{M:Tbl}{T:Tags}{h:Heap}(x:Two hp mp m N c W M T h)(hmk:m≤k):Two hp mp k N c W M T h :=
 ⟨⟨x.1.o,x.1.x,⟨x.1.k.li,x.1.k.hs.mono hmk,x.1.k.ts.mono hmk⟩,x.1.r,x.1.n,x.1.c⟩,x.2⟩
end Go.Proofs.YtcnphhhcknhhaaaGreat
namespace Go.Den
open Go
set_option linter.unusedVariables false
set_option linter.unusedSimpArgs false
theorem LI.watch {W:Wd}{M:Tbl}{j i s:Nat}(x:LI W M)(ts:TS j M)(hi:i<8){u:ByteArray}(hs:s=M.stripe u)(hf:∀ k q,W.ps k=some q→∀ s,¬ q.holds s)(hw:∀ k q,W.ps k=some q→∃ p,q = .w p) :
  LI ⟨W.H.watch i s u true,W.ps,bset W.ms i (miset (W.ms i) u true)⟩ (M.fed s ((M.fd s).watch i u)):=by
 have hsn:s<M.n:=by rw[hs]; exact ts.stripe u
 have hem:∀ k,W.em k=W.ms k:=fun k=>by
  unfold Wd.em
  cases hp:W.ps k with
  | none=>rfl
  | some q=>obtain⟨p,rfl⟩:=hw k q hp; rfl
 have hem':∀ k,(⟨W.H.watch i s u true,W.ps,bset W.ms i (miset (W.ms i) u true)⟩:Wd).em k=bset W.ms i (miset (W.ms i) u true) k:=fun k=>by
  unfold Wd.em
  dsimp only
  cases hp:W.ps k with
  | none=>rfl
  | some q=>obtain⟨p,rfl⟩:=hw k q hp; rfl
 refine⟨x.t,x.c,x.n,fun t ht=>.inl ?_,fun k q t _ hq hh=>absurd hh (hf k q hq t),x.pa,?_⟩
 ·have ht':t<W.H.n:=ht
  have f:=x.rest ht' fun k q hq=>hf k q hq t
  show Free (sput W.H.ss s { W.H.ss s with feed:=(W.H.ss s).feed.watch i u } t) (M.bk t,bset M.fd s ((M.fd s).watch i u) t)
  by_cases h:t=s
  ·subst h
   have e:=f.e
   simp only[Tbl.st,Prod.mk.injEq] at e
   simp only[sput,if_true,bset_same]
   exact⟨f.wh,by rw[e.1,e.2],f.v,f.q⟩
  ·simp only[sput,if_neg h,bset_ne h]
   exact f
 ·obtain⟨p,hp⟩:∃ p:HP,p=hp0 W.H i ⟨6,u,0,0,0,0,[]⟩:=⟨_,rfl⟩
  have ps:p.s=s:=by rw[hp,hs]; unfold Tbl.stripe; rw[x.c]; rfl
  have e:M.fed s ((M.fd s).watch i u)=M.fed p.s (p.wfd (M.fd p.s)):=by rw[ps,hp]; rfl
  rw[e]
  refine WsI.put x.ws ts hi (by rw[hp]; rfl) (by rw[ps,hs,hp]; rfl) ?_ fun k hk=>?_
  ·rw[hem',hem,bset_same,hp]; rfl
  ·rw[hem',hem,bset_ne hk]
theorem watch_do {M:Tbl}{i:Nat}{x:OpD}(hk:x.kind=6)(hb:badB x=false)(hi:i<8)(h0:(M.do_ i x).2.err=0):(M.do_ i x).1=M.fed (M.stripe x.user) ((M.fd (M.stripe x.user)).watch i x.user):=by
 have hc:clientB (i:Int)=true:=by simp[clientB]; omega
 unfold Tbl.do_ at h0 ⊢
 simp only[hb,hc,hk,Bool.false_eq_true,Bool.true_eq_false,or_self,if_false,show ¬ ((6:Int)=1∨(6:Int)=2∨(6:Int)=3) by omega,show ¬ (6:Int)=8 by omega,if_true] at h0 ⊢
 split at h0
 ·simp[repE] at h0
 ·rename_i hcl
  rw[if_neg hcl]
  unfold Tbl.watch at h0 ⊢
  split at h0
  ·simp[repE] at h0
  ·rename_i hc2
   rw[if_neg hc2]
theorem watch_no {M:Tbl}{i:Nat}{x:OpD}(hk:x.kind=6)(hb:badB x=false)(hi:i<8)(h0:(M.do_ i x).2.err≠0):(M.do_ i x).1=M:=by
 have hc:clientB (i:Int)=true:=by simp[clientB]; omega
 unfold Tbl.do_ at h0 ⊢
 simp only[hb,hc,hk,Bool.false_eq_true,Bool.true_eq_false,or_self,if_false,show ¬ ((6:Int)=1∨(6:Int)=2∨(6:Int)=3) by omega,show ¬ (6:Int)=8 by omega,if_true] at h0 ⊢
 split at h0
 ·rename_i hcl; rw[if_pos hcl]
 ·rename_i hcl
  rw[if_neg hcl]
  unfold Tbl.watch at h0 ⊢
  split at h0
  ·rename_i hc2; rw[if_pos hc2]
  ·exact absurd rfl h0
def swTo (M:Tbl):Nat→Tbl
 | 0=>M
 | k+1=>(swTo M k).sweep k
theorem swTo_next (M:Tbl){N k:Nat}(hk:k<7*N):(if k % 7=2 then (swTo M ((k+4) / 7)).sweep (k / 7 % N:Nat) else swTo M ((k+4) / 7))=swTo M ((k+5) / 7):=by
 by_cases h:k % 7=2
 ·have hm:k / 7 % N=k / 7:=Nat.mod_eq_of_lt (by omega)
  rw[if_pos h,hm,show (k+5) / 7=k / 7+1 by omega,show (k+4) / 7=k / 7 by omega]
  rfl
 ·rw[if_neg h,show (k+5) / 7=(k+4) / 7 by omega]
theorem swTo_n (M:Tbl):∀ k,k≤M.n→(swTo M k).n=M.n∧(swTo M k).c=M.c∧(swTo M k).t.now=M.t.now
 | 0,_=>⟨rfl,rfl,rfl⟩
 | k+1,h=>by
  obtain⟨h1,h2,h3⟩:=swTo_n M k (by omega)
  obtain⟨a1,a2,a3,a4,a5⟩:=Tbl.sweep_at (M:=swTo M k) (s:=k) (by omega)
  exact⟨a4.trans h1,a3.trans h2,a1.trans h3⟩
theorem TS.swTo {m:Nat}{M:Tbl}(x:TS m M):∀ k,TS m (swTo M k)
 | 0=>x
 | k+1=>(TS.swTo x k).sweep k
def drTo (H:Hall)(who:Int):Nat→Hall
 | 0=>H
 | k+1=>(drTo H who k).drain who k
theorem drTo_n (H:Hall)(who:Int):∀ k,(drTo H who k).n=H.n∧(drTo H who k).c=H.c∧(drTo H who k).t=H.t
 | 0=>⟨rfl,rfl,rfl⟩
 | k+1=>drTo_n H who k
theorem drTo_ge (H:Hall)(who:Int){s:Nat}:∀ k,k≤s→(drTo H who k).ss s=H.ss s
 | 0,_=>rfl
 | k+1,h=>by
  show sput (drTo H who k).ss k _ s=_
  rw[sput,if_neg (by omega)]
  exact drTo_ge H who k (by omega)
theorem drTo_bk (H:Hall)(who:Int)(s:Nat):∀ k,((drTo H who k).ss s).book=(H.ss s).book
 | 0=>rfl
 | k+1=>by
  show (sput (drTo H who k).ss k _ s).book=_
  unfold sput
  split
  ·rename_i h; rw[h]; exact h▸drTo_bk H who s k
  ·exact drTo_bk H who s k
theorem HS.drTo {m:Nat}{H:Hall}(x:HS m H)(who:Int):∀ k,k≤H.n→HS (m+k) (drTo H who k)
 | 0,_=>x
 | k+1,h=>(HS.drTo x who k (by omega)).drain (by rw[(drTo_n H who k).1]; omega)
theorem drTo_stored (H:Hall)(who:Int)(k:Nat):(drTo H who k).stored=H.stored:=by
 show ((List.range (drTo H who k).n).map fun s=>storedB ((drTo H who k).ss s).book).sum=((List.range H.n).map fun s=>storedB (H.ss s).book).sum
 rw[(drTo_n H who k).1]
 congr 1
 exact List.map_congr_left fun s _=>by rw[drTo_bk]
theorem stored_rest {H:Hall}{M:Tbl}(hn:M.n=H.n)(hf:∀ s,s<H.n→Free (H.ss s) (M.st s)):H.stored=M.stored:=by
 show ((List.range H.n).map fun s=>storedB (H.ss s).book).sum=((List.range M.n).map fun s=>storedB (M.bk s)).sum
 rw[hn]
 congr 1
 refine List.map_congr_left fun s hs=>?_
 have e:=(hf s (by simpa using hs)).e
 simp only[Tbl.st,Prod.mk.injEq] at e
 rw[e.1]
theorem poll_do {M:Tbl}{i:Nat}{x:OpD}(hk:x.kind=8)(hb:badB x=false)(hi:i<8):M.do_ i x=M.poll i:=by
 have hc:clientB (i:Int)=true:=by simp[clientB]; omega
 unfold Tbl.do_
 simp only[hb,hc,hk,Bool.false_eq_true,Bool.true_eq_false,or_self,if_false,show ¬ ((8:Int)=1∨(8:Int)=2∨(8:Int)=3) by omega,if_true]
end Go.Den
namespace Go.Proofs.YtcnphhhcknhhaaaGreat
open Go Go.Den
set_option maxRecDepth 100000
set_option linter.unusedVariables false
set_option maxHeartbeats 40000000
def qfJZ (a:Post)(m:List Nat)(b:Env)(c d e f g h i j:Value)(k:Heap):Prop:=a .normal m (puts b [(57,(b 12)),(58,(b 1)),(59,c),(60,d),(63,(b 1)),(64,(b 12)),(65,e),(66,f),(67,g),(13,h),(68,i),(69,j)]) k
def qfKZ (a:Value)(b:Heap)(c:Value)(d:Env)(e:Value)(f:Post)(m:List Nat)(g h i j k l n o p q r s t u v w:Value):Prop:=ldV (some none) a b=some c∧callM P qeYZ #[(d 7),(Value.int IntKind.i64 7),e,c,(Value.bool true)] b fun x y=>f .normal m (puts d [(57,(d 12)),(58,(d 1)),(59,g),(60,h),(63,(d 1)),(64,(d 12)),(65,i),(66,j),(67,k),(13,l),(68,n),(69,o),(70,(d 9)),(71,p),(72,q),(73,r),(74,s),(75,t),(76,u),(77,(d 7)),(78,(d 7)),(79,v),(80,w),(82,a),(83,c),(81,e),(84,x)]) y
def qfLZ (a:Value)(b:Heap)(c:Env)(d:Post)(m:List Nat)(e f g h i j k l n o p q r:Value):Prop:=ov (faV (some 1) a) fun s=>ov (ldV (some none) s b) fun t=>ov (faV (some 1) a) fun u=>ov (ldV (some none) u b) fun v=>callM P qelZ #[(c 7),t] b fun w x=>qfKZ u x v c w d m e f g h i a j k l n o p q r s t
def qfMZ (a:Post)(m:List Nat)(b:Env)(c d e f g h i j k l n o p q:Value)(r:Heap):Prop:=a .normal m (puts b [(57,(b 12)),(58,(b 1)),(59,c),(60,d),(63,(b 1)),(64,(b 12)),(65,e),(66,f),(67,g),(13,h),(68,i),(69,j),(70,(b 9)),(71,k),(72,l),(73,n),(74,o),(75,p),(76,q)]) r
def qfNZ (a b:Value)(c:Heap)(d:Env)(e:Post)(m:List Nat)(f g h i j k l n o p:Value):Prop:=ov (fdV (some (none,0)) a) fun q=>ov (binV BinOp.eql 2 true q (Value.int IntKind.i64 0)) fun r=>cdM r (qfLZ b c d e m f g h i j k l n o p a q r) (qfMZ e m d f g h i j b k l n o p a q r c)
def qfOZ (a:Value)(b:Heap)(c:Env)(d:Post)(m:List Nat)(e f g h i j k:Value):Prop:=ov (faV (some 1) a) fun l=>ov (ldV (some none) l b) fun n=>ov (bdV (binf P qwZ) [(0,(Value.int IntKind.i64 6)),(1,n)]) fun o=>callM P qbQZ #[(c 9),(Value.int IntKind.i64 7),o] b fun p q=>qfNZ p a q c d m e f g h i j k l n o
def qfPZ (a:Env)(b:Post)(m:List Nat)(c d:Value)(e:Heap):Prop:=ov (binV BinOp.add 2 true (a 11) (Value.int IntKind.i64 1)) fun f=>ov (binV BinOp.add 2 true (a 15) (Value.int IntKind.i64 1)) fun g=>b .normal m (puts a [(89,(a 15)),(90,c),(93,(a 14)),(94,(a 7)),(95,(a 11)),(96,d),(97,(a 11)),(98,f),(11,f),(91,(a 15)),(92,g),(15,g)]) e
def qfQZ (a:Env)(b:Heap)(c:Post)(m:List Nat)(d:Value):Prop:=callM P qbsZ #[(a 14),(a 7),(a 11)] b fun e f=>qfPZ a c m d e f
def qfRZ (a:Env)(b:Heap)(c:Post)(m:List Nat):Prop:=ov (binV BinOp.lss 2 true (a 15) (Value.int IntKind.i64 7)) fun d=>cdM d (qfQZ a b c m d) (c (.exit 2) m (puts a [(89,(a 15)),(90,d)]) b)
def qfSZ (m:List Nat)(a:Env)(b c:Value)(d:Heap)(e:Post):Prop:=loopM (fun m f g h=>qfRZ f g h m) m (puts a [(85,(a 7)),(86,(a 12)),(87,b),(88,c),(14,c),(15,(Value.int IntKind.i64 0))]) d (blkM 2 e)
def qfTZ (a:Env)(b:Heap)(c:Post)(m:List Nat):Prop:=ov (ldV (some (some 7)) (a 13) b) fun d=>callM P qbQZ #[(a 9),(a 12),d] b fun e f=>c .normal m (puts a [(99,(a 9)),(100,(a 12)),(101,d),(102,e)]) f
def qfUZ (m:List Nat)(a:Env)(b c:Value)(d:Heap)(e:Post):Prop:=seqM (fun f=>qfSZ m a b c d f) (fun m g h=>qfTZ g h e m) (blkM 1 e)
def qcCZ (a:Env)(b:Heap)(m:List Nat)(c:Post):Prop:=ov (ldV (some (some 7)) (a 13) b) fun d=>callM P qhHZ #[(a 7),(a 12),d] b fun e f=>qfUZ m a d e f c
def qfVZ (a:Value)(b:Heap)(c:Env)(m:List Nat)(d e f g h i j:Value)(k:Post):Prop:=seqM (fun l=>qfOZ a b c l m d e f g h i j) (fun m n o=>qcCZ n o m k) (blkM 1 k)
def qfWZ (a:Value)(b:Post)(m:List Nat)(c:Env)(d e f g h i j:Value)(k:Heap):Prop:=cdM a (qfJZ b m c d e f g h i j a k) (qfVZ i k c m d e f g h j a b)
def qfXZ (a:Heap)(b:Value)(c:Post)(m:List Nat)(d:Env)(e f g h:Value):Prop:=nwM (zc P qwZ) qwZ a fun i j=>stM (some 7) i b j fun k=>ov (ldV (some (some 7)) i k) fun l=>callM P qhGZ #[l] k fun n o=>qfWZ n c m d e f g h b i l o
def qgsZ (a:Env)(b:Heap)(c:Post)(m:List Nat)(d e:Value):Prop:=ov (iaV (some (none,7)) (a 1) (a 12)) fun f=>ov (ldV (some (some 7)) f b) fun g=>callM P qeSZ #[g] b fun h i=>qfXZ i h c m a d e f g
def qgtZ (a:Env)(b:Heap)(m:List Nat)(c d:Value)(e:Post):Prop:=seqM (fun f=>qgsZ a b f m c d) (fun m g h=>ov (binV BinOp.add 2 true (g 12) (Value.int IntKind.i64 1)) fun i=>e .normal m (puts g [(61,(g 12)),(62,i),(12,i)]) h) e
def qguZ (a:Env)(b:Heap)(m:List Nat)(c:Post):Prop:=ov (lnV 7 (a 1)) fun d=>ov (binV BinOp.lss 2 false (a 12) d) fun e=>cdM e (qgtZ a b m d e c) (c (.exit 0) m (puts a [(57,(a 12)),(58,(a 1)),(59,d),(60,e)]) b)
def qgvZ (x0 x1 x2 a b c d e f g h i j k l n o p q r s t u v w x y z aa:Value)(ab:Heap)(ac:Post):Prop:=loopM (fun m ad ae af=>qguZ ad ae m af) [] (puts (envOf [x0,x1,x2]) [(3,a),(6,(Value.bool false)),(24,b),(25,c),(26,c),(27,d),(28,e),(29,f),(30,g),(31,h),(34,i),(35,j),(33,j),(36,k),(37,l),(7,k),(8,l),(39,n),(40,o),(38,o),(41,p),(42,q),(9,p),(10,q),(43,l),(44,r),(45,r),(46,s),(47,t),(48,u),(49,u),(50,v),(51,w),(52,x),(53,x),(54,y),(55,z),(56,aa),(11,(Value.int IntKind.i64 0)),(12,(Value.int IntKind.i64 0))]) ab (blkM 0 ac)
def qfYZ (a:Env)(b:Post)(m:List Nat)(c d e f g:Value)(h:Heap):Prop:=ov (binV BinOp.add 2 true (a 11) (Value.int IntKind.i64 1)) fun i=>ov (binV BinOp.add 2 true (a 17) (Value.int IntKind.i64 1)) fun j=>b .normal m (puts a [(111,(a 17)),(112,c),(113,d),(114,e),(115,f),(118,(a 16)),(119,(a 7)),(120,(a 11)),(121,g),(122,(a 11)),(123,i),(11,i),(116,(a 17)),(117,j),(17,j)]) h
def qfZZ (a:Env)(b:Heap)(c:Post)(m:List Nat)(d e f g:Value):Prop:=callM P qbrZ #[(a 16),(a 7),(a 11)] b fun h i=>qfYZ a c m d e f g h i
def qgaZ (a:Env)(b:Heap)(c:Post)(m:List Nat):Prop:=ov (faV (some 0) (a 3)) fun d=>ov (ldV (some none) d b) fun e=>ov (binV BinOp.mul 2 true (Value.int IntKind.i64 7) e) fun f=>ov (binV BinOp.lss 2 false (a 17) f) fun g=>cdM g (qfZZ a b c m d e f g) (c (.exit 4) m (puts a [(111,(a 17)),(112,d),(113,e),(114,f),(115,g)]) b)
def qgbZ (m:List Nat)(a:Env)(b c d:Value)(e:Heap)(f:Post):Prop:=loopM (fun m g h i=>qgaZ g h i m) m (puts a [(103,(a 7)),(104,(a 2)),(105,b),(106,(a 9)),(107,(a 2)),(108,c),(109,(a 7)),(110,d),(16,d),(17,(Value.int IntKind.i64 0))]) e (blkM 4 f)
def qgcZ (a:Env)(b:Value)(c:Heap)(d:Post)(m:List Nat)(e f g h i j k l:Value):Prop:=gM (isB (a 19) false) (fun n=>n b c) c fun o p=>ov (pkV (a 19) (Value.bool true) o) fun q=>ov (binV BinOp.add 2 true (a 20) (Value.int IntKind.i64 1)) fun r=>d .normal m (puts a [(124,(a 20)),(125,e),(126,f),(127,g),(130,(a 9)),(131,(a 20)),(132,h),(134,(a 7)),(135,(a 20)),(136,i),(133,i),(137,j),(138,b),(21,j),(22,b),(139,(a 18)),(140,j),(141,k),(142,l),(18,l),(143,(a 19)),(144,(a 19)),(145,o),(146,q),(19,q),(128,(a 20)),(129,r),(20,r)]) p
def qgdZ (a:Value)(b:Heap)(c:Env)(d:Post)(m:List Nat)(e f g h:Value):Prop:=ov (exV a 0) fun i=>ov (exV a 1) fun j=>bsM (bsI P qAZ) 1 [(0,i)] b fun k l=>vvM P (Builtin.append_ #[qAZ,qAZ] qAZ #[(c 18),k]) l fun n o=>qgcZ c j o d m e f g h a i k n
def qgeZ (a:Env)(b:Heap)(c:Post)(m:List Nat)(d e f g:Value):Prop:=callM P qhKZ #[(a 7),(Value.int IntKind.i64 7),(a 20)] b fun h i=>qgdZ h i a c m d e f g
def qgfZ (a:Env)(b:Heap)(c:Post)(m:List Nat)(d e f:Value):Prop:=callM P qgFZ #[(a 9),(a 20)] b fun g h=>qgeZ a h c m d e f g
def qggZ (a:Env)(b:Heap)(c:Post)(m:List Nat):Prop:=ov (faV (some 0) (a 3)) fun d=>ov (ldV (some none) d b) fun e=>ov (binV BinOp.lss 2 false (a 20) e) fun f=>cdM f (qgfZ a b c m d e f) (c (.exit 6) m (puts a [(124,(a 20)),(125,d),(126,e),(127,f)]) b)
def qghZ (m:List Nat)(a:Env)(b:Heap)(c:Post):Prop:=loopM (fun m d e f=>qggZ d e f m) m (puts a [(18,(Value.slice none 0 0)),(19,(Value.bool false)),(20,(Value.int IntKind.i64 0))]) b (blkM 6 c)
def qgiZ (a b:Value)(c:Env)(d:Heap)(e:Value)(K:KTy)(m:List Nat)(f g:Value):Prop:=ov (binV BinOp.eql 2 false a b) fun h=>gv (isB h true) (fun k=>k (c 7)) fun i=>gv (isB h true) (fun k=>k (c 9)) fun j=>gM (isB h true) (fun l=>callM P qjxZ #[i] d fun n o=>l n o) d fun p q=>gM (isB h true) (fun r=>callM P qhgZ #[j] q fun s t=>r s t) q fun u v=>gv (isB h true) (pvM P (do eqGuard BinOp.eql qtZ (Operand.tmp 157) (Operand.tmp 159) p u; binOp BinOp.eql qtZ p u)) fun w=>ov (pkV h w (Value.bool false)) fun x=>gv (isB x true) (ov (ldV (some (some 4)) e v)) fun y=>gv (isB x true) (fun k=>k (c 18)) fun z=>gv (isB x true) (fun k=>k (c 19)) fun aa=>gM (isB x true) (fun ab=>callM P qjvZ #[z] v fun ac ad=>ab ac ad) v fun ae af=>((isB x true)=true→ldV (some (some 4)) e af=some y)∧gv (isB x true) (ov (bdV (binf P qcZ) [(2,ae),(3,aa)])) fun ag=>gM (isB x true) (fun ah=>callM P qgEZ #[y,ag] af fun ai aj=>ah ai aj) af fun ak al=>ov (pkV x ak (Value.bool false)) fun am=>(retM P [.tmp 6] K) .ret m (puts c [(147,(c 9)),(148,f),(149,g),(23,e),(150,(c 7)),(152,(c 9)),(151,a),(153,b),(154,h),(155,h),(156,i),(158,j),(157,p),(159,u),(160,w),(161,x),(162,x),(163,y),(164,z),(166,aa),(165,ae),(167,ag),(168,ak),(169,am),(6,am)]) al
def qgjZ (a:Env)(b:Heap)(c d:Value)(K:KTy)(m:List Nat)(e f:Value):Prop:=callM P qfAZ #[(a 9)] b fun g h=>qgiZ c g a h d K m e f
def qgkZ (a:Heap)(b:Value)(c:Env)(K:KTy)(m:List Nat)(d:Value):Prop:=nwM (zc P qcZ) qcZ a fun e f=>stM (some 4) e b f fun g=>callM P qhcZ #[(c 7)] g fun h i=>qgjZ c i h e K m d b
def qglZ (a:Env)(b:Heap)(K:KTy)(m:List Nat):Prop:=ov (bdV (binf P qwZ) [(0,(Value.int IntKind.i64 8))]) fun c=>callM P qbQZ #[(a 9),(Value.int IntKind.i64 7),c] b fun d e=>qgkZ e d a K m c
def qgmZ (m:List Nat)(a:Env)(b:Heap)(K:KTy):Prop:=seqM (fun c=>qghZ m a b c) (fun m d e=>qglZ d e K m) (retM P [.tmp 6] K)
def qgnZ (m:List Nat)(a:Env)(b c d:Value)(e:Heap)(K:KTy):Prop:=seqM (fun f=>qgbZ m a b c d e f) (fun m g h=>qgmZ m g h K) (retM P [.tmp 6] K)
def qgoZ (a:Env)(b:Heap)(m:List Nat)(c d:Value)(K:KTy):Prop:=callM P qkBZ #[(a 7)] b fun e f=>qgnZ m a c d e f K
def qgpZ (a:Env)(b:Heap)(m:List Nat)(c:Value)(K:KTy):Prop:=callM P qhfZ #[(a 9),(a 2)] b fun d e=>qgoZ a e m c d K
def qgqZ (a:Env)(b:Heap)(m:List Nat)(K:KTy):Prop:=callM P qfvZ #[(a 7),(Value.int IntKind.i64 9),(a 2)] b fun c d=>qgpZ a d m c K
def qgwZ (x0 x1 x2 a b c d e f g h i j k l n o p q r s t u v w x y z aa:Value)(ab:Heap)(K:KTy):Prop:=seqM (fun ac=>qgvZ x0 x1 x2 a b c d e f g h i j k l n o p q r s t u v w x y z aa ab ac) (fun m ad ae=>qgqZ ad ae m K) (retM P [.tmp 6] K)
def qgxZ (a b:Value)(c:Heap)(d:Value)(K:KTy)(x0 x1 x2 e f g h i j k l m n o:Value):Prop:=ov (exV a 0) fun p=>ov (exV a 1) fun q=>ov (binV BinOp.neq 2 true b (Value.int IntKind.i64 0)) fun r=>gM (isB r false) (fun s=>s q c) c fun t u=>gM (isB r false) (fun v=>ov (binV BinOp.neq 2 true t (Value.int IntKind.i64 0)) fun w=>v w u) u fun x y=>ov (pkV r (Value.bool true) x) fun z=>gM (isB z false) (fun aa=>aa d y) y fun ab ac=>gM (isB z false) (fun ad=>ov (binV BinOp.eql 4 true ab (Value.pointer none)) fun ae=>ad ae ac) ac fun af ag=>ov (pkV z (Value.bool true) af) fun ah=>gM (isB ah false) (fun ai=>ai p ag) ag fun aj ak=>gM (isB ah false) (fun al=>ov (binV BinOp.eql 4 true aj (Value.pointer none)) fun am=>al am ak) ak fun an ao=>ov (pkV ah (Value.bool true) an) fun ap=>cdM ap (K (Value.bool false) ao) (qgwZ x0 x1 x2 e f g h i j k l m n d b o a p q r t x z ab af ah aj an ap ao K)
def qgyZ (a b:Value)(c:Heap)(K:KTy)(x0 x1 x2 d e f g h i j k:Value):Prop:=ov (exV a 0) fun l=>ov (exV a 1) fun m=>ov (ldV (some (some 7)) b c) fun n=>callM P qocZ #[n] c fun o p=>qgxZ o m p l K x0 x1 x2 b d e f g h i j k a n
def qgzZ (a:Value)(b:Heap)(K:KTy)(x0 x1 x2 c d e f g h i:Value):Prop:=ov (ldV (some (some 7)) a b) fun j=>callM P qnmZ #[j] b fun k l=>qgyZ k a l K x0 x1 x2 c d e f g h i j
def qgAZ (a b:Value)(c:Heap)(x1:Value)(K:KTy)(x0 x2:Value):Prop:=ov (unV UnOp.not a) fun d=>gM (isB d false) (fun e=>ov (ldV (some (some 7)) b c) fun f=>e f c) c fun g h=>gM (isB d false) (fun i=>i x1 h) h fun j k=>gM (isB d false) (fun l=>callM P qhdZ #[g,j,(Value.slice none 0 0)] k fun m n=>l m n) k fun o p=>gM (isB d false) (fun q=>ov (unV UnOp.not o) fun r=>q r p) p fun s t=>ov (pkV d (Value.bool true) s) fun u=>cdM u (callM P qdmZ #[] t fun v w=>K v w) (qgzZ b t K x0 x1 x2 a d g j o s u)
def qdJZ (x0 x1 x2:Value)(h:Heap)(K:KTy):Prop:=nwM (some x0.cells) qvZ h fun a b=>callM P qdmZ #[] b fun c d=>qgAZ c a d x1 K x0 x2
variable {K:KTy}
theorem qobZ {x0 x1 x2:Value}{h:Heap}(hd:qdJZ x0 x1 x2 h K):callM P qdwZ #[x0,x1,x2] h K :=
 call_of good mixed (fn:=Tryz.f22) (args:=[x0,x1,x2]) Tryz.func22 rfl (by kernel_rfl) (of_decide_eq_true rfl) (B:=qdJZ x0 x1 x2 h K) (by kernel_rfl) hd
end Go.Proofs.YtcnphhhcknhhaaaGreat
