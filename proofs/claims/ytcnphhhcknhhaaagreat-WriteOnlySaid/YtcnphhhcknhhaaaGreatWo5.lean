/- Words, plain data and contracts of the Go functions that this claim reaches. No condition beyond the hypotheses that each theorem states. -/
import Derived.Test.YtcnphhhcknhhaaaGreatWo4
set_option linter.unusedSimpArgs false
set_option linter.unusedVariables false
namespace Go.Den
open Go
set_option linter.unusedVariables false
set_option linter.unusedSimpArgs false
theorem bef_ws {k:WK}{s:Nat}{M:Tbl}(s':Nat):((k.bef s M).1.fd s').ws=(M.fd s').ws:=by
 cases k with
 | bad=>rfl
 | op x =>
  simp only[WK.bef,Tbl.write]
  split
  ·rfl
  ·simp only[Tbl.writeAt,bset]
   split
   ·rename_i h; rw[tell_ws,h]; rfl
   ·rfl
 | sweep =>
  simp only[WK.bef,Tbl.sweep]
  split
  ·simp only[Tbl.sweepAt,bset]
   split
   ·rename_i h; rw[tell_ws,h]; rfl
   ·rfl
  ·rfl
theorem step_em_ne {W:Wd}{i:Nat}{n:Int}(hc:(W.step i n).H.c=W.H.c){j:Nat}(h:j≠i):(W.step i n).em j=W.em j:=by
 unfold Wd.em
 unfold Wd.step at hc ⊢
 cases hp:W.ps i with
 | none=>rfl
 | some p =>
  simp only[hp] at hc ⊢
  rw[bset_ne h,bset_ne h,hc]
theorem HP.em_def (p:HP)(m:Mine)(c:Cfg):p.em m c=if p.one=false∧p.x.kind≠8∧p.at_=2∧p.wres m c=0 then miset m p.x.user (decide (p.x.kind=6)) else m:=rfl
theorem LI.ws_step {W:Wd}{M:Tbl}{j:Nat}(x:LI W M)(ts:TS j M){i:Nat}{p:PR}(hp:W.ps i=some p)(n:Int)(hc:(W.step i n).H.c=W.H.c)(hm:(p.tb W.H M).n=M.n∧(p.tb W.H M).c=M.c):WsI (p.tb W.H M) (W.step i n).em:=by
 have hpa:=x.pa i p hp
 have hWi:(W.step i n).em i=(p.step (W.ms i) W.H n).1.em (p.step (W.ms i) W.H n).2.1 W.H.c:=by
  have:(W.step i n).ps i=some (p.step (W.ms i) W.H n).1:=by simp only[Wd.step,hp,bset_same]
  rw[em_of this,hc]
  simp only[Wd.step,hp,bset_same]
 have hWn:=fun j (h:j≠i)=>step_em_ne (W:=W) (i:=i) (n:=n) hc h
 have he0:=em_of hp
 -- nothing is changed
 have same:(∀ s,s<M.n→((p.tb W.H M).fd s).ws=(M.fd s).ws)→(p.step (W.ms i) W.H n).1.em (p.step (W.ms i) W.H n).2.1 W.H.c=p.em (W.ms i) W.H.c→WsI (p.tb W.H M) (W.step i n).em:=fun h1 h2 =>
  x.ws.same hm.1 hm.2 h1 fun j hj=>by
   by_cases h:j=i
   ·subst h; rw[hWi,he0,h2]
   ·exact hWn j h
 cases hen:p.enabled W.H with
 | false =>
  refine same (fun s _=>by simp[PR.tb,hen]) ?_
  rw[pstep_off hen]
 | true =>
  cases p with
  | w p =>
   refine same (fun s _=>?_) rfl
   unfold PR.tb; split
   ·exact bef_ws s
   ·rfl
  | r p=>exact same (fun s _=>by simp[PR.tb,PR.places]) rfl
  | h p =>
   have he:p.enabled W.H=true:=hen
   have hl:=HP.lt_of_en he
   have e3:(PR.h p).step (W.ms i) W.H n=(.h (p.stp (W.ms i) W.H n).1,(p.stp (W.ms i) W.H n).2.1,(p.stp (W.ms i) W.H n).2.2):=by simp[PR.step,HP.step,he]
   rw[e3] at same hWi
   dsimp only[PR.em] at same hWi he0
   have hcl:=hpa.2.cl
   by_cases hb:badB p.x=true
   ·refine same (fun s _=>?_) ?_
    ·unfold PR.tb; split
     ·simp[PR.bef,Tbl.do_,hb]
     ·rfl
    ·simp[HP.stp,hb,HP.em,HP.one]
   have hb:badB p.x=false:=by simpa using hb
   by_cases h9:p.x.kind=9
   ·refine same (fun s _=>?_) ?_
    ·unfold PR.tb; split
     ·simp only[PR.bef]
      unfold Tbl.do_
      rw[if_neg (by simp[hb,hcl]),if_neg (by omega),if_neg (by omega)]
      split
      ·rfl
      rw[if_neg (by omega),if_neg (by omega)]
      try rw[if_pos h9]
     ·rfl
    ·simp[HP.stp,hb,HP.em,HP.one,h9]
   have one:p.one=false:=by simp[HP.one,hb,h9]
   by_cases h8:p.x.kind=8
   ·have hem:∀ q:HP,q.x=p.x→q.em (W.ms i) W.H.c=W.ms i:=fun q hq=>by rw[HP.em_def,if_neg (by rw[hq]; simp[h8])]
    have hx:(p.stpP W.H n).1.x=p.x:=by
     unfold HP.stpP; split
     ·rfl
     split
     ·rfl
     split<;>rfl
    have estp:p.stp (W.ms i) W.H n=((p.stpP W.H n).1,W.ms i,(p.stpP W.H n).2):=by simp[HP.stp,hb,h8]
    refine same (fun s _=>?_) (by rw[estp]; dsimp only; rw[hem _ hx,hem p rfl])
    unfold PR.tb; split
    ·simp only[PR.bef]
     unfold Tbl.do_
     rw[if_neg (by simp[hb,hcl]),if_neg (by omega),if_pos h8]
     have hdw:=drain_ws (M.fd s) p.who
     show (if s<M.n then (M.fd s).drain p.who else M.fd s).ws=_
     by_cases hsn:s<M.n
     ·rw[if_pos hsn]; exact hdw
     ·rw[if_neg hsn]
    ·rfl
   -- a Watch or Unwatch
   have estp:p.stp (W.ms i) W.H n=p.stpW (W.ms i) W.H n:=by simp[HP.stp,hb,h9,h8]
   rw[estp] at same hWi
   have hst:p.steps=4:=(HP.kind_of hb h9 h8).2
   by_cases h1:p.at_=1
   ·have hpl:p.places=true:=by simp[HP.places,one,h8,h1]
    have etb:(PR.h p).tb W.H M=(M.do_ p.who p.x).1:=by simp[PR.tb,PR.places,hen,hpl,PR.bef]
    have ma:=x.ma ts hp (by omega)
    have hdo:=(do_watch (i:=i) (p:={ p with t:=W.H.t }) (m:=W.ms i) (M:=M) (c:=W.H.c) ⟨hpa.2.w,hpa.2.i8,hpa.2.k6,hpa.2.s⟩ x.c ⟨ma.wt,ma.ct⟩ x.t.symm hb h9 h8).1
    dsimp only at hdo
    have e1:p.stpW (W.ms i) W.H n=({ p with at_:=2,t:=W.H.t,placed:=n },W.ms i,W.H.look p.who):=by simp[HP.stpW,h1]
    rw[e1] at hWi
    dsimp only at hWi
    rw[HP.em_def] at hWi
    dsimp only at hWi
    have hwr:({ p with at_:=2,t:=W.H.t,placed:=n }:HP).wres (W.ms i) W.H.c=({ p with t:=W.H.t }:HP).wres (W.ms i) W.H.c:=rfl
    have ho:({ p with at_:=2,t:=W.H.t,placed:=n }:HP).one=false:=one
    rw[hwr,ho] at hWi
    have hei:W.em i=W.ms i:=by rw[he0,HP.em_def,if_neg (by omega)]
    rw[etb,hdo]
    by_cases hr:({ p with t:=W.H.t }:HP).wres (W.ms i) W.H.c=0
    ·rw[if_pos hr]
     rw[if_pos ⟨rfl,h8,rfl,hr⟩] at hWi
     refine WsI.put (p:={ p with t:=W.H.t }) x.ws ts hpa.2.i8 hpa.2.w (by rw[hpa.2.s,Tbl.stripe,x.c]) ?_ fun j hj=>hWn j hj
     rw[hWi,hei]
    ·rw[if_neg hr]
     rw[if_neg (fun h=>hr h.2.2.2)] at hWi
     refine x.ws.same rfl rfl (fun _ _=>rfl) fun j hj=>?_
     by_cases h:j=i
     ·subst h; rw[hWi,hei]
     ·exact hWn j h
   have hpl:p.places=false:=by simp[HP.places,one,h8,h1]
   have etn:(PR.h p).tb W.H M=M:=by simp[PR.tb,PR.places,hpl]
   refine same (fun s _=>by rw[etn]) ?_
   rw[HP.em_def p]
   unfold HP.stpW
   by_cases h0:p.at_=0
   ·rw[if_pos h0,if_neg (by omega)]
    dsimp only
    rw[HP.em_def,if_neg (by dsimp only; omega)]
   rw[if_neg h0,if_neg h1]
   by_cases h2:p.at_=2
   ·rw[if_pos h2]
    by_cases hcl':p.t.closed=true
    ·have hr:p.wres (W.ms i) W.H.c=5:=by simp[HP.wres,hcl']
     rw[if_pos hcl',if_neg (by omega)]
     dsimp only
     rw[HP.em_def,if_neg (by dsimp only; omega)]
    by_cases hcc:p.x.kind=6∧mhas (W.ms i) p.x.user=false∧W.H.c.watches≤((W.ms i).length:Int)
    ·have hr:p.wres (W.ms i) W.H.c=4:=by simp[HP.wres,hcl',hcc.1,hcc.2.1,hcc.2.2]
     rw[if_neg hcl',if_pos hcc,if_neg (by omega)]
     dsimp only
     rw[HP.em_def,if_neg (by dsimp only; omega)]
    ·have hr:p.wres (W.ms i) W.H.c=0:=by unfold HP.wres; rw[if_neg hcl',if_neg hcc]
     rw[if_neg hcl',if_neg hcc,if_pos ⟨one,h8,h2,hr⟩]
     dsimp only
     rw[HP.em_def,if_neg (by dsimp only; omega)]
   ·rw[if_neg h2,if_neg (by omega)]
    dsimp only
    rw[HP.em_def,if_neg (by dsimp only; omega)]
theorem PA.ow {n i:Nat}{c:Cfg}{p:PR}(g:PA n i c p):p.owd:=by
 cases p with
 | w p=>exact g.1.o
 | r p=>trivial
 | h p=>exact g.1.o
theorem LI.step {W:Wd}{M:Tbl}{k j:Nat}(x:LI W M)(hs:HS k W.H)(hk:k<100000)(ts:TS j M){i:Nat}{p:PR}(hp:W.ps i=some p)(n:Int) :
  LI (W.step i n) (p.tb W.H M)∧HS (k+1) (W.step i n).H∧TS (j+1) (p.tb W.H M):=by
 have hpa:=x.pa i p hp
 obtain⟨n1,n2,n3,n4⟩:=pstep_n (m:=W.ms i) hs n hk hpa
 have hH:(W.step i n).H=(p.step (W.ms i) W.H n).2.2:=by simp only[Wd.step,hp]
 have hP:∀ j,(W.step i n).ps j=if j=i then some (p.step (W.ms i) W.H n).1 else W.ps j:=fun j=>by simp only[Wd.step,hp,bset]
 have hM:∀ j,(W.step i n).ms j=if j=i then (p.step (W.ms i) W.H n).2.1 else W.ms j:=fun j=>by simp only[Wd.step,hp,bset]
 have tbn:=tb_n x.n hpa
 have hc:(W.step i n).H.c=W.H.c:=by rw[hH]; exact n2
 have hpa':∀ j q,(W.step i n).ps j=some q→PA W.H.n j W.H.c q:=fun j q hq=>by
  rw[hP] at hq
  split at hq
  ·rename_i h; simp only[Option.some.injEq] at hq; subst hq; subst h; exact n4
  ·exact x.pa j q hq
 refine⟨?_,by rw[hH]; exact n3,ts.tb hpa.ow⟩
 cases hen:p.enabled W.H with
 | false =>
  have e:=pstep_off (m:=W.ms i) (n:=n) hen
  have e1:W.step i n=W:=by
   simp only[Wd.step,hp,e]
   rw[← hp,bset_id,bset_id]
  have e2:p.tb W.H M=M:=by simp[PR.tb,hen]
  rw[e1,e2]; exact x
 | true =>
  have L:=fun s hn=>x.loc hs ts hp n hen (s:=s) hn
  rw[← hH] at L
  refine⟨by rw[hH]; exact tb_t x.t x.n hpa n,tbn.2.trans (x.c.trans hc.symm),tbn.1.trans (x.n.trans (by rw[hH]; exact n1.symm)),fun s hs'=>?_,fun j q s hs' hq hh=>?_,fun j q hq=>?_,x.ws_step ts hp n hc tbn⟩
  ·have hsn:s<W.H.n:=by rw[hH,n1] at hs'; exact hs'
   have Ls:=L s hsn
   by_cases hh:p.holds s
   ·have hwho:=x.own i p s hsn hp hh
    have hd:Held p (W.ms i) W.H.c s (W.H.ss s) (M.st s):=by
     rcases x.st s hsn with h | ⟨j,q,h1,h2,h3,h4⟩
     ·have:=h.wh; omega
     ·have:j=i:=by omega
      subst this
      rw[hp] at h1; cases h1
      exact h4
    rcases Ls.a hh hwho hd with ⟨h1,h2,h3⟩ | ⟨h1,h2⟩
    ·refine .inr ⟨i,_,by rw[hP,if_pos rfl],h1,h2,?_⟩
     rw[hM,if_pos rfl,hc]; exact h3
    ·exact .inl h2
   ·rcases Ls.b hh with ⟨h1,h2,h3⟩ | ⟨h1,h2,h3,h4,h5,h6,h7⟩
    ·rw[h1,h2]
     rcases x.st s hsn with h | ⟨j,q,g1,g2,g3,g4⟩
     ·exact .inl h
     ·have hji:j≠i:=fun h=>by
       subst h
       rw[hp] at g1; cases g1
       exact hh g2
      refine .inr ⟨j,q,by rw[hP,if_neg hji]; exact g1,g2,g3,?_⟩
      rw[hM,if_neg hji,hc]; exact g4
    ·rw[h2,h4]
     rcases x.st s hsn with h | ⟨j,q,g1,g2,g3,g4⟩
     ·refine .inr ⟨i,_,by rw[hP,if_pos rfl],h3,rfl,?_⟩
      rw[hM,if_pos rfl,hc]
      exact⟨by rw[h7]; exact h.e,fun hh=>absurd hh h5,fun _=>⟨h.v,h.q⟩,fun hh=>absurd hh h6⟩
     ·omega
  ·have hsn:s<W.H.n:=by rw[hH,n1] at hs'; exact hs'
   have Ls:=L s hsn
   rw[hP] at hq
   by_cases hji:j=i
   ·subst hji
    rw[if_pos rfl] at hq
    simp only[Option.some.injEq] at hq
    subst hq
    by_cases hph:p.holds s
    ·have hwho:=x.own j p s hsn hp hph
     have hd:Held p (W.ms j) W.H.c s (W.H.ss s) (M.st s):=by
      rcases x.st s hsn with h | ⟨j',q,h1,h2,h3,h4⟩
      ·have:=h.wh; omega
      ·have:j'=j:=by omega
       subst this
       rw[hp] at h1; cases h1
       exact h4
     rcases Ls.a hph hwho hd with ⟨h1,h2,h3⟩ | ⟨h1,h2⟩
     ·exact h2
     ·exact absurd hh h1
    ·rcases Ls.b hph with ⟨h1,h2,h3⟩ | ⟨h1,h2,h3,h4,h5,h6,h7⟩
     ·exact absurd hh h3
     ·rw[h4]
   ·rw[if_neg hji] at hq
    have hwho:=x.own j q s hsn hq hh
    have hph:¬ p.holds s:=fun h=>by
     have:=x.own i p s hsn hp h
     omega
    rcases Ls.b hph with ⟨h1,h2,h3⟩ | ⟨h1,h2,h3,h4,h5,h6,h7⟩
    ·rw[h1]; exact hwho
    ·omega
  ·rw[hH,n1,n2]; exact hpa' j q hq
end Go.Den
namespace Go.Den
open Go
set_option linter.unusedVariables false
set_option linter.unusedSimpArgs false
theorem LI.free_of {W:Wd}{M:Tbl}(x:LI W M){i:Nat}{p:PR}(hp:W.ps i=some p){s:Nat}(hs:s<W.H.n)(hh:p.holds s):Held p (W.ms i) W.H.c s (W.H.ss s) (M.st s):=by
 have hwho:=x.own i p s hs hp hh
 rcases x.st s hs with h | ⟨j,q,h1,h2,h3,h4⟩
 ·have:=h.wh; omega
 ·have:j=i:=by omega
  subst this
  rw[hp] at h1; cases h1
  exact h4
end Go.Den
namespace Go.Den
open Go
set_option linter.unusedVariables false
set_option linter.unusedSimpArgs false
def BD (H:Hall):Prop:=∀ s,s<H.n→(H.ss s).bound=evn H.c.epochs
structure Vm (x x':Strp):Prop where
 b:x'.bound=x.bound
 v:x.v≤x'.v
 q:x'.v=x.v→wrt x.v=false→x.v<x.bound→x'.snap=x.snap
theorem Vm.refl (x:Strp):Vm x x:=⟨rfl,Int.le_refl _,fun _ _ _=>rfl⟩
theorem endV_ge (v:Int):v≤endV v:=by unfold endV; split<;>omega
theorem bgn_ge (v b:Int):v≤bgn v b:=by unfold bgn; split<;>omega
theorem Vm.put {H:Hall}{s:Nat}{y:Strp}(h:Vm (H.ss s) y)(H':Hall)(e:H'.ss=H.ss)(t:Nat):Vm (H.ss t) ((H'.put s y).ss t):=by
 simp only[Hall.put,sput,e]
 by_cases hh:t=s
 ·subst hh; rw[if_pos rfl]; exact h
 ·rw[if_neg hh]; exact Vm.refl _
theorem Vm.lock (H:Hall)(w:Int)(s t:Nat):Vm (H.ss t) ((H.lock w s).ss t):=by
 unfold Hall.lock; split
 ·refine Vm.put ?_ _ rfl t
  exact⟨rfl,Int.le_refl _,fun _ _ _=>rfl⟩
 ·exact Vm.refl _
theorem Vm.unlock (H:Hall)(w:Int)(s t:Nat):Vm (H.ss t) ((H.unlock w s).ss t):=by
 unfold Hall.unlock; split
 ·refine Vm.put ?_ _ rfl t
  exact⟨rfl,Int.le_refl _,fun _ _ _=>rfl⟩
 ·exact Vm.refl _
theorem Vm.fed (H:Hall)(w:Int)(s:Nat)(f:Feed)(t:Nat):Vm (H.ss t) ((H.fed w s f).ss t):=by
 refine Vm.put ?_ _ rfl t
 exact⟨rfl,Int.le_refl _,fun _ _ _=>rfl⟩
theorem Vm.run (k:WK)(H:Hall)(w:Int)(s:Nat)(t:Tm)(s':Nat):Vm (H.ss s') ((k.run H w s t).1.ss s'):=by
 obtain⟨h1,h2,h3,h4,h5⟩:=run_ss k H w s t s'
 exact⟨h3,by rw[h2]; exact Int.le_refl _,fun _ _ _=>h4⟩
theorem LI.vm {W:Wd}{M:Tbl}{k:Nat}(x:LI W M){i:Nat}{p:PR}(hp:W.ps i=some p)(n:Int)(s:Nat)(hs:s<W.H.n):Vm (W.H.ss s) ((p.step (W.ms i) W.H n).2.2.ss s):=by
 have hpa:=x.pa i p hp
 cases hen:p.enabled W.H with
 | false=>rw[pstep_off hen]; exact Vm.refl _
 | true =>
  cases p with
  | w p =>
   have he:p.enabled W.H=true:=hen
   by_cases hb:p.k.isBad=true
   ·have e1:(PR.w p).step (W.ms i) W.H n=(.w { p with err:=1,placed:=n,at_:=7 },W.ms i,W.H):=by simp[PR.step,WP.step,he,hb]
    rw[e1]; exact Vm.refl _
   have hb:p.k.isBad=false:=by simpa using hb
   have e3:(PR.w p).step (W.ms i) W.H n=(.w (p.stp W.H n).1,W.ms i,(p.stp W.H n).2):=by simp[PR.step,WP.step,he,hb]
   rw[e3]
   by_cases h0:p.at_=0
   ·rw[stp0 W.H n h0]; exact Vm.lock _ _ _ _
   by_cases h1:p.at_=1
   ·rw[stp1 W.H n h1]
    refine Vm.put ?_ _ rfl s
    exact⟨rfl,bgn_ge _ _,fun _ _ _=>rfl⟩
   by_cases h2:p.at_=2
   ·rw[stp2 W.H n h2]; exact Vm.refl _
   by_cases h3:p.at_=3
   ·rw[stp3 W.H n h3]; exact Vm.run _ _ _ _ _ _
   by_cases h4:p.at_=4
   ·rw[stp4 W.H n h4]
    have hd:=x.free_of hp hpa.1.s (s:=p.s) ⟨hb,by omega,by omega,rfl⟩
    have hv:=hd.v ⟨hb,by omega,by omega,rfl⟩
    refine Vm.put ?_ _ rfl s
    refine⟨rfl,Int.le_refl _,fun _ a b=>?_⟩
    rcases hv with h | h
    ·rw[h] at a; cases a
    ·omega
   by_cases h5:p.at_=5
   ·rw[stp5 W.H n h5]
    refine Vm.put ?_ _ rfl s
    exact⟨rfl,endV_ge _,fun _ _ _=>rfl⟩
   ·rw[stp6 W.H n (by have:=enabled_at he; omega)]; exact Vm.unlock _ _ _ _
  | r p =>
   show Vm _ ((p.step W.H n).2.ss s)
   unfold RP.step
   split
   ·exact Vm.refl _
   split
   ·exact Vm.refl _
   unfold RP.go
   split
   ·exact Vm.refl _
   split
   ·exact Vm.refl _
   split
   ·exact Vm.refl _
   split
   ·exact Vm.refl _
   split
   ·exact Vm.refl _
   split
   ·exact Vm.lock _ _ _ _
   split
   ·exact Vm.refl _
   ·exact Vm.unlock _ _ _ _
  | h p =>
   have he:p.enabled W.H=true:=hen
   have e3:((PR.h p).step (W.ms i) W.H n).2.2=(p.stp (W.ms i) W.H n).2.2:=by simp[PR.step,HP.step,he]
   rw[e3]
   unfold HP.stp
   split
   ·exact Vm.refl _
   split
   ·exact Vm.refl _
   split
   ·unfold HP.stpP
    split
    ·exact Vm.lock _ _ _ _
    split
    ·exact Vm.refl _
    split
    ·exact Vm.fed _ _ _ _ _
    ·exact Vm.unlock _ _ _ _
   ·unfold HP.stpW
    split
    ·exact Vm.lock _ _ _ _
    split
    ·exact Vm.refl _
    split
    ·split
     ·exact Vm.refl _
     split
     ·exact Vm.refl _
     ·exact Vm.fed _ _ _ _ _
    ·exact Vm.unlock _ _ _ _
end Go.Den
namespace Go.Proofs.YtcnphhhcknhhaaaGreat
open Go Go.Den Go.MapKept
set_option linter.unusedSimpArgs false
set_option linter.unusedVariables false
set_option maxRecDepth 20000
@[simp] theorem cells_nilF:Value.cells .nilFunc=#[.nilFunc]:=rfl
theorem bdWP (who s:Int)(f:FuncId)(a b:Array Value):bdV (binf P qbqZ) [(0,.int .i64 who),(1,.int .i64 s),(2,.func (.func f) a b),(5,.int .i64 (-1))]=some (.agg #[.int .i64 who,.int .i64 s,.func (.func f) a b,.int .i64 0,.int .u64 0,.int .u64 0,.bool false,.int .i64 (-1),.int .i64 0,.slice none 0 0,.slice none 0 0,.bool false]):=by kernel_rfl
variable {K:KTy}
theorem section_ok (who:Int)(s:Nat)(k:WK)(f:FuncId)(a b:Array Value){h:Heap}(hk:∀ q h',h q=none→Ext h h'→h' q=some (.cells (wpC (sect who s k) (.func (.func f) a b)).toArray qbqZ (0,0))→K (ptr q) h'):callM P qgDZ #[.int .i64 who,.int .i64 s,.func (.func f) a b] h K:=by
 apply qnmZ
 unfold qhyZ
 simp -implicitDefEqProofs only[bdWP,ov_s]
 exact nw_intro fun q h' n e c=>hk q h' n e c
def wp0 (H:Hall)(who:Int)(x:OpD):WP:=sect who (stripeOf x.user H.c.stripes).toNat (if badB x then .bad else .op x)
theorem wnew_ok (who:Int)(x:OpD)(xw:OpW x){T:Tags}{h:Heap}{g gh:Tag}{hp:Nat}{H:Hall}(w:Wf T h)(gg:Gd g)(y:HallR T h gh hp H){v:Value}(hv:Sl 1 StrR (fz T h) v x.users)(hl:x.users.length<1000000)(c8:1≤H.c.stripes∧H.c.stripes≤8)
  (hk:∀ T' h' q,Only non T h T' h'→h q=none→WPR T' h' g q (wp0 H who x)→K (ptr q) h'):callM P qfmZ #[ptr hp,.int .i64 who,.agg (opC x v).toArray] h K:=by
 apply qnRZ
 unfold qkzZ
 have hone:=hv.one
 refine nw_intro fun v1 h1 n1 e1 c1=>?_
 refine nw_agg fun v3 h3 n3 e3 c3=>?_
 have o1:Only non T h T h3:=Only.of_ext w (e1.trans e3)
 have c1:=e3 _ _ c1
 have c3':=c3
 simp -implicitDefEqProofs only[opC] at c3
 simp -implicitDefEqProofs[ld_at c3,cel_of c3,stm_at c3,stm_upd,ld_same,cel_same,over]
 refine hstripe_ok x.user xw.s1 (y.up o1 (Off.non _) (not_non _)) c8.2 ?_
 unfold qlOZ
 rw[zcInt]
 refine nw_st rfl rfl (by simp) fun v9 h9 n9 e9 c9=>?_
 have c1:=e9 _ _ c1
 have c3:=e9 _ _ c3
 have c3':=e9 _ _ c3'
 obtain⟨s,hs⟩:∃ s,(stripeOf x.user H.c.stripes).toNat=s:=⟨_,rfl⟩
 have hsi:stripeOf x.user H.c.stripes=(s:Int):=by have:=stripeOf_lt (u:=x.user) (n:=H.c.stripes) c8.1; omega
 rw[hsi] at c9
 simp -implicitDefEqProofs only[cells_i] at c1 c9
 simp -implicitDefEqProofs[ld_at c1,cel_of c1,stm_at c1,ld_at c9,cel_of c9,stm_at c9,stm_upd,ld_same,cel_same,over,hsi]
 refine section_ok who s (.op x) qdxZ _ _ fun q h4 n4 e4 c4=>?_
 have c1:=e4 _ _ c1
 have c3:=e4 _ _ c3
 have c3':=e4 _ _ c3'
 have c9':=e4 _ _ c9
 have e04:=((e1.trans e3).trans e9).trans e4
 have nq:h q=none:=fresh_of ((e1.trans e3).trans e9) n4
 have oa:ldV (some (some 7)) (ptr v3) h4=some (.agg (opC x v).toArray):=by simp[ld_at c3',opC]
 have ne1:v1≠q:=ne_fresh (e9 _ _ (e3 _ _ ‹_›)) n4
 have ne3:v3≠q:=ne_fresh (e9 _ _ ‹_›) n4
 have ne9:v9≠q:=ne_fresh c9 n4
 unfold qlNZ
 rw[seqM_eq]
 unfold qlMZ
 simp -implicitDefEqProofs only[oa,ov_s]
 refine modBad_ok x xw (hv.ext (@StrR.ext) ((fz_ext T h).trans e04)) hl fun h5 e5=>?_
 unfold qlLZ
 have c4:=e5 _ _ c4
 have cb1:=e5 _ _ c1
 have cb3:=e5 _ _ c3'
 have cb9:=e5 _ _ c9'
 have e05:=e04.trans e5
 have on:Only non T h (tset T q (g++[0])) h5:=Only.enew _ w e05 nq c4
 have hz:∀ b,b≠q→h b=none→∀ o,h5 b=some o→fz (tset T q (g++[0])) h5 b=some o:=fun b hb hn o ho=>fz_at ho (by rw[tset_ne hb]; exact w b hn)
 have n3':h v3=none:=fresh_of e1 n3
 have n9':h v9=none:=fresh_of (e1.trans e3) n9
 unfold wp0 at hk
 rw[hs] at hk
 cases hb:badB x with
 | false =>
  rw[hb] at hk
  simp -implicitDefEqProofs only[Bool.false_eq_true,if_false] at hk
  unfold qlKZ
  simp -implicitDefEqProofs
  exact hk _ h5 q on nq ⟨_,c4,tset_same _ _ _,v1,v9,v3,v,rfl,hz _ ne1 n1 _ cb1,hz _ ne9 n9' _ cb9,hz _ ne3 n3' _ cb3,hone⟩
 | true =>
  rw[hb] at hk
  simp -implicitDefEqProofs only[if_true] at hk
  unfold qlJZ
  simp -implicitDefEqProofs only[wpC,sect] at c4
  simp -implicitDefEqProofs[ld_at c4,cel_of c4,stm_at c4,stm_upd,ld_same,cel_same,over]
  rw[stm_at (n:=1) (v:=.nilFunc) c4 rfl (by simp) rfl]
  refine hk _ _ q (on.own nq c4) nq ⟨.nilFunc,?_,tset_same _ _ _,rfl⟩
  rw[upd_same']; simp[wpC,sect,over]
end Go.Proofs.YtcnphhhcknhhaaaGreat
namespace Go.Den
open Go
set_option linter.unusedVariables false
def wo (h:Heap)(l:List Nat):Heap:=fun q=>if q∈l then none else h q
theorem wo_out {h:Heap}{l:List Nat}{q:Nat}(hq:q ∉ l):wo h l q=h q:=if_neg hq
theorem wo_ext {F h:Heap}{l:List Nat}(e:Ext F h)(hl:∀ q∈l,F q=none):Ext F (wo h l):=fun b o hb=>by
 rw[wo_out (fun hm=>by rw[hl b hm] at hb; cases hb)]; exact e b o hb
theorem wo_get {h:Heap}{l:List Nat}{q:Nat}{o:Obj}(e:wo h l q=some o):q ∉ l∧h q=some o:=by
 unfold wo at e
 split at e
 ·cases e
 ·rename_i hq; exact⟨hq,e⟩
theorem wo_keep {h h' h'':Heap}{l:List Nat}{b:Nat}(e:Ext (wo h l) h')(hb:h b=none)(k:Keep (some b) h' h''):Ext (wo h l) h'':=fun q o hq=>by
 refine k q o (e q o hq) fun hh=>?_
 cases hh
 rw[(wo_get hq).2] at hb; cases hb
theorem wo_upd {h h':Heap}{l:List Nat}{b:Nat}{o:Obj}(e:Ext (wo h l) h')(hb:b∈l):Ext (wo h l) (upd h' b o):=fun q x hq=>by
 rw[upd_ne (fun hh=>(wo_get hq).1 (by rw[hh]; exact hb))]; exact e q x hq
theorem ext_wo {h0 h h':Heap}{l:List Nat}(e0:Ext h0 h)(hl:∀ q∈l,h0 q=none)(e:Ext (wo h l) h'):Ext h0 h':=(wo_ext e0 hl).trans e
def stoTo (b:Book)(i:Nat):Nat:=storedB (b.take i)
theorem stoTo_s {b:Book}{i:Nat}(hi:i<b.length):stoTo b (i+1)=stoTo b i+b[i].2.ss.length:=by
 unfold stoTo storedB
 rw[List.take_succ_eq_append_getElem hi,List.map_append,List.sum_append_nat,List.map_cons,List.map_nil,List.sum_cons,List.sum_nil,Nat.add_zero]
theorem stored_le {m k:Nat}{b:Book}(h1:b.length≤m)(h2:∀ y∈b,y.2.ss.length≤k):storedB b≤m*k:=by
 unfold storedB
 have:∀ (l:Book),(∀ y∈l,y.2.ss.length≤k)→(l.map fun x=>x.2.ss.length).sum≤l.length*k:=by
  intro l hl
  induction l with
  | nil=>simp
  | cons a l ih =>
   have h3:=hl a (by simp)
   have h4:=ih fun y hy=>hl y (by simp[hy])
   simp only[List.map_cons,List.sum_cons,List.length_cons,Nat.add_mul]; omega
 exact Nat.le_trans (this b h2) (Nat.mul_le_mul_right _ h1)
theorem stoTo_le {b:Book}(i:Nat):stoTo b i≤storedB b:=by
 unfold stoTo storedB
 have:(b.map fun x=>x.2.ss.length).sum=((b.take i).map fun x=>x.2.ss.length).sum+((b.drop i).map fun x=>x.2.ss.length).sum:=by
  rw[← List.sum_append_nat,← List.map_append,List.take_append_drop]
 omega
def stoH (H:Hall)(i:Nat):Nat:=((List.range i).map fun s=>storedB (H.ss s).book).sum
theorem stoH_s (H:Hall)(i:Nat):stoH H (i+1)=stoH H i+storedB (H.ss i).book:=by
 unfold stoH
 rw[List.range_succ,List.map_append,List.sum_append_nat,List.map_cons,List.map_nil,List.sum_cons,List.sum_nil,Nat.add_zero]
theorem stoH_all (H:Hall):stoH H H.n=H.stored:=rfl
theorem stoH_le {m:Nat}{H:Hall}(x:HS m H):∀ i,i≤H.n→stoH H i≤i*(m*m)
 | 0,_=>by simp[stoH]
 | i+1,hi=>by
  have ih:=stoH_le x i (by omega)
  have b:=(x.st i (by omega)).bk
  have:=stored_le b.bl b.bn
  rw[stoH_s,Nat.add_mul]; omega
end Go.Den
namespace Go.Proofs.YtcnphhhcknhhaaaGreat
open Go Go.Den Go.MapKept
set_option linter.unusedSimpArgs false
set_option linter.unusedVariables false
set_option maxRecDepth 20000
theorem allX_at {b:Book}{Lv:List (List Value)}{F:Heap}(l2:El 4 EntR F Lv (b.map (·.2))){i:Nat}(hi:i<(allX b Lv).length):∃ (hb:i<b.length) (v:Value),(allX b Lv)[i]=#[.string b[i].1,.agg (v::presC b[i].2.told).toArray]∧Sl 4 SessR F v b[i].2.ss∧Sn v:=by
 have hb:i<b.length:=by simpa [allX] using hi
 have hL:i<Lv.length:=by rw[l2.len]; simpa using hb
 have he:=l2.el i hL (by simpa using hb)
 obtain⟨v,h1,h2,h3⟩:=he
 simp -implicitDefEqProofs only[List.getElem_map] at h1 h2
 refine⟨hb,v,?_,h2,h3⟩
 simp -implicitDefEqProofs only[allX,List.getElem_map,List.getElem_range]
 have e1:b.getD i (⟨#[]⟩,ent0)=b[i]:=by rw[List.getD_eq_getElem?_getD,List.getElem?_eq_getElem hb]; rfl
 have e2:Lv.getD i []=Lv[i]:=by rw[List.getD_eq_getElem?_getD,List.getElem?_eq_getElem hL]; rfl
 rw[e1,e2,h1]
def StoJ (hB:Heap)(v3:Nat)(b:Book)(i:Nat)(h':Heap):Prop:=Ext (wo hB [v3]) h'∧h' v3=some (.cells #[.int .i64 (stoTo b i)] qmZ (0,0))
def StoC (hB F:Heap)(v3:Nat)(b:Book)(l i:Nat)(s2:Env)(h':Heap):Prop:=StoJ hB v3 b i h'∧s2 3=ptr v3∧∃ (hi:i<b.length) (xb:Nat) (sv:Value),s2 5=ptr xb∧xb≠l∧h' xb=some (.cells (sv::presC b[i].2.told).toArray qgZ (0,0))∧Sl 4 SessR F sv b[i].2.ss
variable {K:KTy}
theorem stored_ok (b:Book)(hl:b.length≤100000)(hn:∀ y∈b,y.2.ss.length≤900000){F h:Heap}(eF:Ext F h){kw vw:Value}(x:BookR F kw vw b)(hk:∀ h',Ext h h'→K (.int .i64 (storedB b)) h'):callM P qbOZ #[.agg #[kw,vw]] h K:=by
 apply qnCZ
 unfold qjxZ
 refine nw_agg fun v1 h1 n1 e1 c1=>?_
 rw[zcInt]
 refine nw_intro fun v3 h3 n3 e3 c3=>?_
 have c1:=e3 _ _ c1
 have e0:=e1.trans e3
 have n3':h v3=none:=fresh_of e1 n3
 have o1:=x.1.one
 have o2:=x.2.1.one
 have ec3:upd h3 v3 (.cells #[.int .i64 0] qmZ (0,0))=h3:=(upd_of (fun _ _=>rfl) c3).symm
 simp -implicitDefEqProofs[ld_at c3,cel_of c3,stm_at c3,stm_upd,ld_same,cel_same,over]
 rw[ec3,seqM_eq]
 unfold qkeZ
 simp -implicitDefEqProofs[ld_at c1,cel_of c1,stm_at c1,stm_upd,ld_same,cel_same,over]
 refine all_ok b (eF.trans e0) x fun pA hB nA eA cA=>?_
 have nA3:v3≠pA:=ne_fresh c3 nA
 have c3:=eA _ _ c3
 have e0B:=e0.trans eA
 obtain⟨Lv,l1,l2⟩:=x.2.1.els EntR.one
 simp -implicitDefEqProofs only[List.length_map] at l1
 have hF3:F v3=none:=by
  cases hh:F v3 with
  | none=>rfl
  | some o=>rw[eF _ _ hh] at n3'; cases n3'
 have F1:Ext F (wo hB [v3]):=wo_ext (eF.trans e0B) (by simpa using hF3)
 have hsb:stoTo b b.length=storedB b:=by simp[stoTo]
 have hbound:storedB b≤90000000000:=Nat.le_trans (stored_le hl hn) (by decide)
 unfold qkdZ
 refine rf_go good mixed rfl (by kernel_rfl) (all_it b (hA:=wo hB [v3]) (p:=pA) (kw:=kw) (vw:=vw) (Lv:=Lv) (by rw[wo_out (by simpa using Ne.symm nA3)]; exact cA) (x.ext F1) (l1.ext F1) l2.size (by simpa using l2.len))
  (fun l b' i h'=>StoJ hB v3 b i h') (fun _ _ _ _=>False) (fun l b' i s2 h'=>StoC hB F v3 b l i s2 h') ?_ ?_ ?_ (fun _ _ _ _ _ _ _ h _=>h) ?_ ?_ ?_ ?_ ?_ (fun _ _ _ _ _ _ _ h=>h.elim) (fun _ _ _ _ _ _ _ _ h=>h.elim)
 ·intro l b' hl' hb'
  exact⟨fun q o hq=>(wo_get hq).2,by simpa [stoTo,storedB] using c3⟩
 ·intro l b' i h' J; exact J.1
 ·intro l b' hl' hb' i h' h'' J k
  exact⟨wo_keep J.1 hl' k,k _ _ J.2 (fun hh=>by cases hh; rw[hl'] at c3; cases c3)⟩
 ·rintro l b' i s2 ha hb hl' hb' ⟨J,s3,hi,xb,sv,s5,nx,cx,sx⟩ k
  exact⟨⟨wo_keep J.1 hl' k,k _ _ J.2 (fun hh=>by cases hh; rw[hl'] at c3; cases c3)⟩,s3,hi,xb,sv,s5,nx,k _ _ cx (fun hh=>nx (by cases hh; rfl)),sx⟩
 ·intro i hi; simp[allX]
 ·rintro i hi l b' h2 hl' hb' ⟨ol,hol⟩ ⟨ob,hob⟩ J
  rw[qniZ]
  unfold qjOZ
  rw[zcEnt]
  obtain⟨hib,sv,hx,hsv,hsn⟩:=allX_at l2 hi
  rw[hx]
  have hso:=hsv.one
  simp -implicitDefEqProofs
  refine nw_st rfl (by simp[presC]) (by simp[presC,hso.1]) fun xb h4 n4 e4 c4=>?_
  refine⟨⟨⟨J.1.trans e4,e4 _ _ J.2⟩,by simp,hib,xb,sv,by simp,fun hh=>(by subst hh; rw[hol] at n4; cases n4),?_,hsv⟩,by rw[hol,e4 _ _ hol],by rw[hob,e4 _ _ hob]⟩
  simpa using c4
 ·rintro i hi l b' s2 h3 hl' hb' ⟨ol,hol⟩ ⟨ob,hob⟩ ⟨J,s3,hib,xb,sv,s5,nx,cx,sx⟩
  rw[qnjZ]
  unfold qjPZ
  have cv:=J.2
  have hlen:=sx.len
  simp -implicitDefEqProofs only[presC] at cx
  have hw:IntKind.i64.wrap ((stoTo b i:Int)+b[i].2.ss.length)=(stoTo b (i+1):Nat):=by
   have h1:=stoTo_le (b:=b) (i+1)
   rw[stoTo_s hib] at h1 ⊢
   rw[wrap64_id (by omega) (by omega)]; omega
  have hl3:l≠v3:=fun hh=>by subst hh; rw[hl'] at c3; cases c3
  have hb3:b'≠v3:=fun hh=>by subst hh; rw[hb'] at c3; cases c3
  simp -implicitDefEqProofs[s3,s5,ld_at cv,cel_of cv,stm_at cv,ld_at cx,cel_of cx,stm_at cx,stm_upd,ld_same,cel_same,over,hlen,hw]
  refine⟨by rw[upd_ne hl3],by rw[upd_ne hb3],wo_upd J.1 (by simp),upd_same' _ _ _⟩
 ·intro l b' h' hl' hlb hb' hd J
  have hlx:(allX b Lv).length=b.length:=by simp[allX]
  rw[hlx] at J
  have cv:=J.2
  rw[hsb] at cv
  have nb3:v3≠b':=fun hh=>by subst hh; rw[hb'] at c3; cases c3
  simp -implicitDefEqProofs only[blkM_n,thenM_n]
  simp -implicitDefEqProofs[ld_at cv,cel_of cv,stm_at cv,stm_upd,ld_same,cel_same,over,hd,ld_skip nb3,cel_skip nb3]
  refine hk _ ?_
  exact ext_upd (o:=.deferred none) (fresh_of e0B hb') (ext_wo e0B (by simpa using n3') J.1)
theorem zcStripe:zc P qWZ=some #[.int .i64 0,.int .u64 0,.int .u64 0,.slice none 0 0,.slice none 0 0,.slice none 0 0,.slice none 0 0,.pointer none]:=by kernel_rfl
theorem hstored_ok {T : Tags} {h : Heap} {g : Tag} {p m : Nat} {H : Hall} (w : Wf T h) (x : HallR T h g p H) (hs : HS m H) (hm : m ≤ 100000) (hk : ∀ h', Ext h h' → K (.int .i64 H.stored) h') : callM P qeSZ #[ptr p] h K := by
  apply qmmZ
  unfold qfAZ
  rw [seqM_eq]
  unfold qhCZ
  obtain ⟨sv, av, Y, x⟩ := x
  have cp := x.hp
  simp -implicitDefEqProofs only [hallC] at cp
  have hlen := x.st.len
  have h8 := hs.n8.2
  have hmm : m * m ≤ 10000000000 := Nat.le_trans (Nat.mul_le_mul hm hm) (by decide)
  have hst : ∀ i, i ≤ H.n → stoH H i ≤ 80000000000 := fun i hi => Nat.le_trans (stoH_le hs i hi) (Nat.le_trans (Nat.mul_le_mul (Nat.le_trans hi h8) hmm) (by decide))
  simp -implicitDefEqProofs [ld_at cp, cel_of cp, stm_at cp, stm_upd, ld_same, cel_same, over, hlen]
  refine loop_on [9, 10] (fun s h' => Ext h h' ∧ ∃ i : Nat, i ≤ H.n ∧ s 11 = .int .i64 i ∧ s 3 = .int .i64 (stoH H i)) (fun s _ => (H.n - num (s 11)).toNat) ⟨Ext.refl h, 0, by omega, rfl, rfl⟩ ?_
  rintro s h1 hf ⟨e1, i, hi, s11, s3⟩
  have s9 : s 9 = sv := by simpa using hf 9 (by simp)
  have s10 : s 10 = .int .i64 H.n := by simpa using hf 10 (by simp)
  unfold qhBZ
  simp -implicitDefEqProofs only [s11, s10, bin_lss, ov_s, cd_b]
  refine ⟨fun hc => ?_, fun hc => ?_⟩
  rotate_left
  · have : i = H.n := by have : ¬ ((i : Int) < H.n) := by simpa using hc
                         omega
    subst this
    simp -implicitDefEqProofs [s3, stoH_all]
    exact hk _ e1
  have hlt : i < H.n := by have : ((i : Int) < H.n) := by simpa using hc
                           omega
  have hw : IntKind.i64.wrap ((i : Int) + 1) = (i + 1 : Nat) := by rw [wrap64_id (by omega) (by omega)]; omega
  have hw2 : IntKind.i64.wrap ((stoH H i : Int) + storedB (H.ss i).book) = (stoH H (i + 1) : Nat) := by
    have h1 := hst (i + 1) (by omega)
    rw [stoH_s] at h1 ⊢
    rw [wrap64_id (by omega) (by omega)]; omega
  have o1 : Only non T h T h1 := Only.of_ext w e1
  have x1 := x.own o1.k
  obtain ⟨b, ob, rb, hb1, tb, ia, l1, l2, l3, l4, l5, l6⟩ := x1.lds (s := i) (k := .i64) hlt
  have hsr := x1.sr i hlt
  have st := hs.st i hlt
  have u1 := hsr.1.1.one
  have u2 := hsr.1.2.1.one
  have u3 := hsr.2.1.1.one
  have u4 := hsr.2.1.2.1.one
  unfold qhAZ
  rw [s9, s11, ia, zcStripe]
  simp -implicitDefEqProofs only [strC] at l6
  simp -implicitDefEqProofs only [ov_s, l6]
  refine nw_st (by simp) (by simp) (by simp [u1.1, u2.1, u3.1, u4.1]) fun yb h2 n2 e2 c2 => ?_
  simp -implicitDefEqProofs only [cells_agg] at c2
  simp -implicitDefEqProofs [ld_at c2, cel_of c2, stm_at c2, stm_upd, ld_same, cel_same, over]
  refine stored_ok _ (by have := st.bk.bl; omega) (fun y hy => by have := st.bk.bn y hy; omega) ((fz_ext T h1).trans e2) hsr.2.1 fun h3 e3 => ?_
  unfold qhzZ
  simp -implicitDefEqProofs [s3, s9, s10, s11, hw, hw2, -Int.natCast_add]
  exact ⟨⟨(e1.trans e2).trans e3, i + 1, by omega, rfl, rfl⟩, by omega⟩
end Go.Proofs.YtcnphhhcknhhaaaGreat
namespace Go.Proofs.YtcnphhhcknhhaaaGreat
open Go Go.Den Go.MapKept
set_option linter.unusedSimpArgs false
set_option linter.unusedVariables false
set_option maxRecDepth 20000
def small:Cfg:=⟨3,2,16,4,1,100,0⟩
theorem bdSmall:bdV (binf P qcUZ) [(0,.int .i64 3),(1,.int .i64 2),(2,.int .i64 16),(3,.int .i64 4),(4,.int .i64 1),(5,.int .u64 100)]=some (.agg (cfgC small).toArray):=by kernel_rfl
theorem smallW:CfgW small:=by constructor<;>simp[small,I64,U64]
variable {K:KTy}
theorem small_ok {h:Heap}(hk:∀ h',Ext h h'→K (.agg (cfgC small).toArray) h'):callM P qcGZ #[] h K:=by
 apply qlrZ
 unfold qezZ
 rw[zcCfg,bdSmall]
 simp -implicitDefEqProofs only[nwM_s]
 intro v1 n1
 simp -implicitDefEqProofs[stm_upd,ld_same,cel_same,over,cfgC]
 exact hk _ (Ext.upd n1 _)
theorem zcOp:zc P qaCZ=some #[.int .i64 0,.string ⟨#[]⟩,.int .i64 0,.int .i64 0,.int .i64 0,.int .u64 0,.slice none 0 0]:=by kernel_rfl
end Go.Proofs.YtcnphhhcknhhaaaGreat
namespace Go.Proofs.YtcnphhhcknhhaaaGreat
open Go Go.Den Go.MapKept
set_option linter.unusedSimpArgs false
set_option linter.unusedVariables false
set_option maxRecDepth 20000
theorem g1:Gd [1]:=⟨0,[],rfl⟩
theorem g2:Gd [2]:=⟨1,[],rfl⟩
end Go.Proofs.YtcnphhhcknhhaaaGreat
namespace Go.Proofs.YtcnphhhcknhhaaaGreat
open Go Go.Den Go.MapKept
set_option linter.unusedSimpArgs false
set_option linter.unusedVariables false
set_option maxRecDepth 20000
def wrOp (x:OpD):OpD:={ x with kind:=1+x.kind % 3 }
theorem wrOp_w {x:OpD}(w:OpW x):OpW (wrOp x):=⟨(by show I64 (1+x.kind % 3); unfold I64; omega),w.i2,w.i3,w.i4,w.u1,w.s1⟩
variable {K:KTy}
theorem writing15_ok (x:OpD){h:Heap}{v:Value}(ho:One v)(hk:∀ h',Ext h h'→K (.agg (opC (wrOp x) v).toArray) h'):callM P qaxZ #[.agg (opC x v).toArray] h K:=by
 apply qkxZ
 unfold qdEZ
 refine nw_agg fun v1 h1 n1 e1 c1=>?_
 rw[zcOp]
 refine nw_intro fun v3 h3 n3 e3 c3=>?_
 have ne:=ne_fresh c1 n3
 have c1:=e3 _ _ c1
 simp -implicitDefEqProofs only[opC] at c1
 have m1:=tmod_rng x.kind (show (0:Int)<3 by omega)
 have m2:=Int.mul_tdiv_add_tmod x.kind 3
 have e2:(x.kind.tmod 3+3).tmod 3=x.kind % 3:=by rw[tmod_pos (by omega)]; omega
 have w1:IntKind.i64.wrap (x.kind.tmod 3+3)=x.kind.tmod 3+3:=wrap64_id (by omega) (by omega)
 have w2:IntKind.i64.wrap (1+x.kind % 3)=1+x.kind % 3:=wrap64_id (by omega) (by omega)
 simp -implicitDefEqProofs[ld_at c1,cel_of c1,stm_at c1,ld_at c3,cel_of c3,stm_at c3,stm_skip ne,stm_skip (Ne.symm ne),ld_skip ne,ld_skip (Ne.symm ne),cel_skip ne,cel_skip (Ne.symm ne),stm_upd,ld_same,cel_same,over,w1,e2,w2,ho.1,ho.2]
 refine kv (hk _ ?_) rfl
 exact ext_upd n1 (ext_upd (fresh_of e1 n3) (e1.trans e3))
end Go.Proofs.YtcnphhhcknhhaaaGreat
namespace Go.Proofs.YtcnphhhcknhhaaaGreat
open Go Go.Den Go.MapKept
set_option linter.unusedSimpArgs false
set_option linter.unusedVariables false
set_option maxRecDepth 20000
theorem ext_of_only {U:Tag→Prop}{h:Heap}{T':Tags}{h':Heap}(o:Only U (fun _=>[]) h T' h')(u:¬ U []):Ext h h':=by
 have:=(o.ext u).trans (fz_ext _ _)
 rw[fz_nil] at this; exact this
def c2:Cfg:=⟨2,2,16,4,1,100,0⟩
end Go.Proofs.YtcnphhhcknhhaaaGreat
namespace Go.Den
open Go
set_option linter.unusedVariables false
set_option linter.unusedSimpArgs false
structure Idle (p:PR)(m:Mine)(c:Cfg):Prop where
 h:∀ s,¬ p.holds s
 e:p.em m c=m
theorem Idle.w {p:WP}(m:Mine)(c:Cfg)(h:p.at_=0):Idle (.w p) m c:=⟨fun s hs=>by have:=hs.2.1; omega,rfl⟩
def wd0 (c:Cfg)(n:Nat):Wd:=⟨hall0 c n,fun _=>none,fun _=>[]⟩
theorem LI.init {c:Cfg}{n:Nat}:LI (wd0 c n) (tbl0 c n):=by
 refine⟨rfl,rfl,rfl,fun s hs=>.inl ⟨rfl,rfl,rfl,rfl⟩,fun i p s _ h=>by simp[wd0] at h,fun i p h=>by simp[wd0] at h,⟨fun i hi=>?_,fun s i u hs hi hu=>?_⟩⟩
 ·have:allWs (tbl0 c n) i=[]:=by
   unfold allWs
   rw[List.flatMap_eq_nil_iff]
   intro s _
   rfl
  rw[this]; exact List.Perm.refl _
 ·simp[tbl0,feed0,wsOf] at hu
theorem TS.init {c:Cfg}(cw:CfgW c)(hr:rightB c=true){n:Nat}(hn:(n:Int)=c.stripes):TS 0 (tbl0 c n):=(HS.new cw hr hn).tbl
theorem LI.start {W:Wd}{M:Tbl}(x:LI W M){i:Nat}{p:PR}(hp:PA W.H.n i W.H.c p)(h0:Idle p (W.ms i) W.H.c)(hi:∀ q,W.ps i=some q→Idle q (W.ms i) W.H.c):LI { W with ps:=bset W.ps i (some p) } M:=by
 have hP:∀ j,bset W.ps i (some p) j=if j=i then some p else W.ps j:=fun j=>rfl
 refine⟨x.t,x.c,x.n,fun s hs=>?_,fun j q s hs hq hh=>?_,fun j q hq=>?_,?_⟩
 ·rcases x.st s hs with h | ⟨j,q,h1,h2,h3,h4⟩
  ·exact .inl h
  ·have hji:j≠i:=fun h=>by subst h; exact (hi q h1).h s h2
   exact .inr ⟨j,q,by show bset _ _ _ _=_; rw[hP,if_neg hji]; exact h1,h2,h3,h4⟩
 ·have hq:bset W.ps i (some p) j=some q:=hq
  rw[hP] at hq
  split at hq
  ·simp only[Option.some.injEq] at hq; subst hq; exact absurd hh (h0.h s)
  ·exact x.own j q s hs hq hh
 ·have hq:bset W.ps i (some p) j=some q:=hq
  rw[hP] at hq
  split at hq
  ·rename_i h; simp only[Option.some.injEq] at hq; subst hq; subst h; exact hp
  ·exact x.pa j q hq
 ·refine x.ws.same rfl rfl (fun _ _=>rfl) fun j hj=>?_
  unfold Wd.em
  show (match bset W.ps i (some p) j with | some p=>p.em (W.ms j) W.H.c | none=>W.ms j)=_
  rw[hP]
  by_cases h:j=i
  ·subst h
   rw[if_pos rfl]
   dsimp only
   rw[h0.e]
   cases hq:W.ps j with
   | none=>rfl
   | some q=>exact (hi q hq).e.symm
  ·rw[if_neg h]<;>rfl
theorem LI.other {W:Wd}{M M':Tbl}{H':Hall}(x:LI W M)(h1:H'.ss=W.H.ss)(h2:H'.c=W.H.c)(h3:H'.n=W.H.n)(t:M'.t=H'.t)(m1:M'.c=M.c)(m2:M'.n=M.n)(m3:M'.bk=M.bk)(m4:M'.fd=M.fd):LI { W with H:=H' } M':=by
 have hst:∀ s,M'.st s=M.st s:=fun s=>by simp[Tbl.st,m3,m4]
 refine⟨t,m1.trans (x.c.trans h2.symm),m2.trans (x.n.trans h3.symm),fun s hs=>?_,fun j q s hs hq hh=>?_,fun j q hq=>?_,?_⟩
 ·have hs:s<W.H.n:=by rw[← h3]; exact hs
  show Free (H'.ss s) _∨_
  rw[hst,h1]
  rcases x.st s hs with h | ⟨j,q,g1,g2,g3,g4⟩
  ·exact .inl h
  ·exact .inr ⟨j,q,g1,g2,g3,by show Held q (W.ms j) H'.c s _ _; rw[h2]; exact g4⟩
 ·show (H'.ss s).who=_
  rw[h1]; exact x.own j q s (by rw[← h3]; exact hs) hq hh
 ·show PA H'.n j H'.c q
  rw[h2,h3]; exact x.pa j q hq
 ·refine x.ws.same m2 m1 (fun s _=>by rw[m4]) fun j hj=>?_
  unfold Wd.em
  show (match W.ps j with | some p=>p.em (W.ms j) H'.c | none=>W.ms j)=_
  rw[h2]<;>rfl
theorem LI.did {W:Wd}{M:Tbl}(x:LI W M)(w k p:Int):LI { W with H:=W.H.did w k p } M:=x.other rfl rfl rfl x.t rfl rfl rfl rfl
end Go.Den
namespace Go.Proofs.YtcnphhhcknhhaaaGreat
open Go Go.Den Go.MapKept
set_option linter.unusedSimpArgs false
set_option linter.unusedVariables false
set_option maxRecDepth 20000
def UW (t:Tag):Prop:=pre [1] t∨pre [2] t
theorem UW.nil:¬ UW []:=by rintro (h | h)<;>simp[pre] at h
theorem UW.two (i:Nat){t:Tag}(h:two (pre [2,i]) (pre [1]) t):UW t:=h.elim (fun h=>.inr (pre_trans (g:=[2]) (s:=[i]) h)) .inl
theorem g2i (i:Nat):Gd [2,i]:=⟨1,[i],rfl⟩
theorem d12i (i:Nat):Off (pre [1]) [2,i]:=off_pre (g:=[]) (x:=[1]) (y:=[2,i]) (by simp) (by simp)
theorem d2i1 (i:Nat):Off (pre [2,i]) [1]:=off_pre (g:=[]) (x:=[2,i]) (y:=[1]) (by simp) (by simp)
theorem d2ij {i j:Nat}(h:i≠j):Off (pre [2,i]) [2,j]:=off_pre (g:=[2]) (x:=[i]) (y:=[j]) (by simpa using h) (by simpa using Ne.symm h)
theorem dtwo {i j:Nat}(h:i≠j):Off (two (pre [2,i]) (pre [1])) [2,j]:=fun t ht hh=>hh.elim (d2ij h t ht) (d12i j t ht)
def PRm (T:Tags)(h:Heap)(g:Tag)(q:Nat):PR→Prop
 | .w p=>WPR T h g q p
 | .r p=>RPR T h g q p
 | .h _=>False
theorem PRm.kp {U:Tag→Prop}{T T':Tags}{h h':Heap}{g:Tag}{q:Nat}{p:PR}(x:PRm T h g q p)(k:Kp U T h T' h')(o:Off U g)(n:¬ U []):PRm T' h' g q p:=by
 cases p with
 | w p=>exact WPR.kp x k o n
 | r p=>exact RPR.kp x k o n
 | h p=>exact x
structure WdM (T:Tags)(h:Heap)(hp:Nat)(A:Nat→Nat)(W:Wd):Prop where
 hl:HallR T h [1] hp W.H
 ps:∀ i p,W.ps i=some p→PRm T h [2,i] (A i) p
theorem WdM.up {U:Tag→Prop}{T T':Tags}{h h':Heap}{hp:Nat}{A:Nat→Nat}{W:Wd}(x:WdM T h hp A W)(o:Only U T h T' h')(f:∀ t,UW t→¬ U t)(n:¬ U []):WdM T' h' hp A W :=
 ⟨x.hl.up o (fun t ht=>f t (.inl ht)) n,fun i p hp=>(x.ps i p hp).kp o.k (fun t ht=>f t (.inr (pre_trans (g:=[2]) (s:=[i]) ht))) n⟩
theorem WdM.ext {T:Tags}{h h':Heap}{hp:Nat}{A:Nat→Nat}{W:Wd}(x:WdM T h hp A W)(w:Wf T h)(e:Ext h h'):WdM T h' hp A W:=x.up (Only.of_ext (U:=non) w e) (fun _ _ h=>h) (not_non _)
structure WdK (k:Nat)(W:Wd)(M:Tbl):Prop where
 li:LI W M
 hs:HS k W.H
 ts:TS k M
theorem WdK.step {k:Nat}{W:Wd}{M:Tbl}(x:WdK k W M)(hk:k<100000){i:Nat}{p:PR}(hp:W.ps i=some p)(n:Int):WdK (k+1) (W.step i n) (p.tb W.H M) :=
 have y:=x.li.step x.hs hk x.ts hp n
 ⟨y.1,y.2.1,y.2.2⟩
theorem WdM.put {U:Tag→Prop}{T T':Tags}{h h':Heap}{hp i:Nat}{A:Nat→Nat}{W:Wd}{p:PR}(x:WdM T h hp A W)(o:Only U T h T' h')(u:∀ j,j≠i→Off U [2,j])(n:¬ U []){k:Int}(hp':W.ps i=some p)
  (y':HallR T' h' [1] hp (p.step (W.ms i) W.H k).2.2) (x':PRm T' h' [2,i] (A i) (p.step (W.ms i) W.H k).1):WdM T' h' hp A (W.step i k):=by
 refine⟨?_,fun j q hq=>?_⟩
 ·have:(W.step i k).H=(p.step (W.ms i) W.H k).2.2:=by simp only[Wd.step,hp']
  rw[this]; exact y'
 ·have hP:(W.step i k).ps j=if j=i then some (p.step (W.ms i) W.H k).1 else W.ps j:=by simp only[Wd.step,hp',bset]
  rw[hP] at hq
  split at hq
  ·rename_i hj; subst hj
   simp -implicitDefEqProofs only[Option.some.injEq] at hq; subst hq
   exact x'
  ·rename_i hj
   exact (x.ps j q hq).kp o.k (u j hj) n
variable {K:KTy}
theorem wdstep_w {T:Tags}{h:Heap}{hp k i:Nat}{A:Nat→Nat}{W:Wd}{M:Tbl}{p:WP}(n:Int)(w:Wf T h)(x:WdM T h hp A W)(y:WdK k W M)(hk:k<100000)(hp':W.ps i=some (.w p))
  (hK:∀ T' h',Only UW T h T' h'→WdM T' h' hp A (W.step i n)→K (.tuple #[]) h'):callM P qahZ #[ptr (A i),ptr hp,.int .i64 n] h K:=by
 have hpa:=y.li.pa i _ hp'
 refine wstep_ok n w g1 (d12i i) (d2i1 i) (g2i i) (x.ps i _ hp') x.hl y.hs hk hpa.1 fun T' h' o x' y'=>?_
 exact hK T' h' (o.mono fun _=>UW.two i) (x.put o (fun j hj=>dtwo (Ne.symm hj)) (by rintro (h | h)<;>simp[pre] at h) hp' y' x')
theorem wdnew_w {T:Tags}{h:Heap}{hp k i:Nat}{A:Nat→Nat}{W:Wd}{M:Tbl}(hi:i≤900)(o:OpD)(ow:OpW o)(hl:o.users.length<1000000){v:Value}(hv:Sl 1 StrR (fz T h) v o.users)(w:Wf T h)(x:WdM T h hp A W)(y:WdK k W M)(hi':∀ q,W.ps i=some q→Idle q (W.ms i) W.H.c)
  (hK:∀ T' h' q,Only non T h T' h'→WdM T' h' hp (bset A i q) { W with ps:=bset W.ps i (some (.w (wp0 W.H i o))) }→WdK k { W with ps:=bset W.ps i (some (.w (wp0 W.H i o))) } M→K (ptr q) h'):callM P qfmZ #[ptr hp,.int .i64 i,.agg (opC o v).toArray] h K:=by
 have n8:=y.hs.n8
 have nn:=y.hs.nn
 refine wnew_ok i o ow w (g2i i) x.hl hv hl (by omega) fun T' h' q o' nq x'=>?_
 have hst:=stripeOf_lt (u:=o.user) (n:=W.H.c.stripes) (by omega)
 have hsn:(stripeOf o.user W.H.c.stripes).toNat<W.H.n:=by omega
 refine hK T' h' q o' ⟨x.hl.up o' (Off.non _) (not_non _),fun j p hj=>?_⟩ ⟨y.li.start ?_ (Idle.w _ _ rfl) hi',y.hs,y.ts⟩
 ·have hj:bset W.ps i (some (.w (wp0 W.H i o))) j=some p:=hj
  by_cases hji:j=i
  ·subst hji
   rw[bset_same] at hj ⊢
   simp -implicitDefEqProofs only[Option.some.injEq] at hj; subst hj
   exact x'
  ·rw[bset_ne hji] at hj ⊢
   exact (x.ps j p hj).kp o'.k (Off.non _) (not_non _)
 ·refine⟨sect_g hsn (by omega) fun z hz=>?_,rfl,by simp[wp0,sect],fun z hz=>?_⟩
  ·split at hz
   ·cases hz
   ·cases hz; exact ow
  ·have hz:(if badB o then WK.bad else .op o) = .op z:=hz
   split at hz
   ·cases hz
   ·cases hz; rfl
def annW:OpD:=⟨1,⟨#[97,110,110]⟩,0,1,0,5,[]⟩
theorem bdOpAnnW:bdV (binf P qaCZ) [(0,.int .i64 1),(1,.string ⟨#[97,110,110]⟩),(3,.int .i64 1),(5,.int .u64 5)]=some (.agg (opC annW (.slice none 0 0)).toArray):=by kernel_rfl
theorem annWW:OpW annW:=⟨by simp[annW,I64],by simp[annW,I64],by simp[annW,I64],by simp[annW,I64],by simp[annW,U64],by simp[annW,maxLen]; decide⟩
theorem wd0M {T:Tags}{h:Heap}{hp:Nat}{c:Cfg}{n:Nat}(x:HallR T h [1] hp (hall0 c n))(A:Nat→Nat):WdM T h hp A (wd0 c n):=⟨x,fun i p h=>by simp[wd0] at h⟩
theorem wd0K {c:Cfg}(cw:CfgW c)(hr:rightB c=true){n:Nat}(hn:(n:Int)=c.stripes):WdK 0 (wd0 c n) (tbl0 c n):=⟨LI.init,HS.new cw hr hn,TS.init cw hr hn⟩
end Go.Proofs.YtcnphhhcknhhaaaGreat
namespace Go.Proofs.YtcnphhhcknhhaaaGreat
open Go Go.Den Go.MapKept
set_option linter.unusedSimpArgs false
set_option linter.unusedVariables false
set_option maxRecDepth 20000
theorem bin_neqS (t:Nat)(c:Bool)(a b:ByteArray):binV .neq t c (.string a) (.string b)=some (.bool (!decide (a=b))):=by
 simp -implicitDefEqProofs only[binV,strV]
 by_cases h:a=b
 ·subst h; simp
 ·have:¬ a.toList=b.toList:=fun e=>h (str_inj e)
  simp -implicitDefEqProofs[h,this]
theorem take_eq_succ {α:Type}{xs ys:List α}{i:Nat}(h:xs.take i=ys.take i)(h1:i<xs.length)(h2:i<ys.length)(e:xs[i]=ys[i]):xs.take (i+1)=ys.take (i+1):=by
 rw[List.take_succ_eq_append_getElem h1,List.take_succ_eq_append_getElem h2,h,e]
theorem sessNe (p q:Sess){x y:Operand}{K:Value→Prop}:pvM P (do eqGuard .neq qbZ x y (.agg (sessC p).toArray) (.agg (sessC q).toArray); binOp .neq qbZ (.agg (sessC p).toArray) (.agg (sessC q).toArray)) K=K (.bool (!decide (p=q))):=by
 simp -implicitDefEqProofs only[sessC]
 rw[pv_neq (d:=5) (b:=(p.id == q.id) && ((p.st == q.st) && ((p.pr == q.pr) && ((p.un == q.un) && true)))) (by kernel_rfl) (by omega) (by kernel_rfl)]
 have:((p.id == q.id) && ((p.st == q.st) && ((p.pr == q.pr) && ((p.un == q.un) && true))))=decide (p=q):=by
  rw[Bool.eq_iff_iff]; cases p; cases q; simp
 rw[this]
end Go.Proofs.YtcnphhhcknhhaaaGreat
namespace Go.Den
open Go
set_option linter.unusedVariables false
set_option linter.unusedSimpArgs false
def wkOf (x:OpD):WK:=if badB x then .bad else .op x
theorem wkOf_bad (x:OpD):(wkOf x).isBad=badB x:=by unfold wkOf; split<;>simp_all [WK.isBad]
end Go.Den
namespace Go.Proofs.YtcnphhhcknhhaaaGreat
open Go Go.Den Go.MapKept
set_option linter.unusedSimpArgs false
set_option linter.unusedVariables false
set_option maxRecDepth 20000
theorem g3:Gd [3]:=⟨2,[],rfl⟩
theorem opsAt {F:Heap}{v:Value}{xs:List OpD}(x:Sl 7 OpR F v xs){i:Nat}(hi:i<xs.length):∃ b p u,iaV (some (none,7)) v (.int .i64 i)=some (.pointer (some ⟨b,p,none⟩))∧(∀ h',Ext F h'→ldV (some (some 7)) (.pointer (some ⟨b,p,none⟩)) h'=some (.agg (opC xs[i] u).toArray))∧Sl 1 StrR F u xs[i].users∧OpW xs[i]:=by
 obtain⟨b,o,c,i1,i2,i3⟩:=x.at (k:=.i64) (i:=i) (by omega) (by omega)
 obtain⟨u,h1,h2,h3⟩:=i3
 simp -implicitDefEqProofs only[Int.toNat_natCast] at h1 h2 h3
 exact⟨b,o,u,i1,fun h' e=>by rw[ldV_n (cels_ext e i2),h1],h2,h3⟩
end Go.Proofs.YtcnphhhcknhhaaaGreat
namespace Go.Proofs.YtcnphhhcknhhaaaGreat
open Go Go.Den Go.MapKept
set_option linter.unusedSimpArgs false
set_option linter.unusedVariables false
set_option maxRecDepth 20000
deriving instance DecidableEq for Reply
end Go.Proofs.YtcnphhhcknhhaaaGreat
namespace Go.Proofs.YtcnphhhcknhhaaaGreat
open Go Go.Den Go.MapKept
set_option linter.unusedSimpArgs false
set_option linter.unusedVariables false
set_option maxRecDepth 20000
def UsrR (h:Heap)(c:List Value)(x:ByteArray × Ent):Prop:=∃ v,c = .string x.1::v::presC x.2.told∧Sl 4 SessR h v x.2.ss
theorem UsrR.ext {h h':Heap}{c:List Value}{x:ByteArray × Ent}(e:Ext h h')(r:UsrR h c x):UsrR h' c x:=let ⟨v,h1,h2⟩:=r; ⟨v,h1,h2.ext (@SessR.ext) e⟩
theorem unSlUsr:P.underlying qkZ=some (.slice qAZ):=by kernel_rfl
theorem apUsr:apC P qAZ=some (5,64,5):=by kernel_rfl
theorem bsUsr:bsI P qkZ=some (qAZ,5,#[.string ⟨#[]⟩,.slice none 0 0,.int .i64 0,.int .i64 0,.int .i64 0]):=by kernel_rfl
theorem zcSlUsr:zc P qkZ=some #[.slice none 0 0]:=by kernel_rfl
theorem bdUsr (k:ByteArray)(b:Option Addr)(n c:Nat)(p q r:Int):bdV (binf P qAZ) [(0,.string k),(1,.slice b n c),(2,.agg #[.int .i64 p,.int .i64 q,.int .i64 r])]=some (.agg #[.string k,.slice b n c,.int .i64 p,.int .i64 q,.int .i64 r]):=by kernel_rfl
theorem Sl.slice' {α:Type}{sz:Nat}{R:Heap→List Value→α→Prop}{h:Heap}{v:Value}{xs:List α}(x:Sl sz R h v xs):∃ b n c,v = .slice b n c:=by
 rcases x with ⟨_,a,c,rfl⟩ | ⟨b,o,cap,rfl,_⟩
 ·exact⟨_,_,_,rfl⟩
 ·exact⟨_,_,_,rfl⟩
theorem usersc_ok (k:ByteArray)(e:Ent){hA h:Heap}{bl n:Nat}{out:Value}{xs:List Value}(hb:hA bl=none)(cl:h bl=some (.cells #[out] qkZ (0,0)))(r:Rf 5 qAZ hA h out n xs)(hne:rowOf out≠some bl)(hn:n<1000000)
  {F:Heap} {sv:Value} (hs:Sl 4 SessR F sv e.ss) {K:KTy}
  (hk:∀ h' out',h' bl=some (.cells #[out'] qkZ (0,0))→Rf 5 qAZ hA h' out' (n+1) (xs++(.string k::sv::presC e.told))→rowOf out'≠some bl→K (.bool true) h') :
  callM P qaiZ #[.string k,.agg (sv::presC e.told).toArray,ptr bl] h K:=by
 obtain⟨sb,sn,sc,rfl⟩:=Sl.slice' hs
 apply qkaZ
 unfold qduZ
 refine nw_agg fun v1 h1 n1 e1 c1=>?_
 simp -implicitDefEqProofs only[presC] at c1
 have cl1:=e1 _ _ cl
 simp -implicitDefEqProofs[ld_at c1,cel_of c1,stm_at c1,ld_at cl1,cel_of cl1,stm_at cl1,stm_upd,ld_same,cel_same,over,bdUsr]
 refine bs_one bsUsr rfl (by omega) fun b2 h2 n2 e2 c2=>?_
 have cl2:=e2 _ _ cl1
 have r2:=r.ext (e1.trans e2)
 refine Rf.app2 (m:=1) unSlUsr apUsr (by omega) r2 (.inr ⟨b2,0,1,rfl,cels_one c2 rfl⟩) (by simp) (by unfold maxLen; omega) (by omega) fun v' h3 r3 hkp hrow=>?_
 have cl3:=hkp _ _ cl2 hne
 have hne3:rowOf v'≠some bl:=fun hh=>by
  rcases hrow with h | ⟨b,h,hn⟩
  ·rw[h] at hh; exact hne hh
  ·rw[h] at hh; cases hh; rw[cl2] at hn; cases hn
 have ro:=r3.row.one
 rw[stm_at (n:=1) (v:=v') cl3 (by rw[ro.2]; rfl) (by simp) (by simp[ro.2,ro.1])]
 have ov:over (#[out]:Array Value) 0 v'.cells.toList=#[v']:=by rw[ro.2]; rfl
 rw[ov]
 refine hk _ v' (upd_same' _ _ _) ?_ hne3
 exact r3.skip hb hne3
variable {K:KTy}
theorem users08_ok (b:Book)(hl:b.length≤100000){T:Tags}{h:Heap}{kw vw:Value}(w:Wf T h)(xb:BookR (fz T h) kw vw b)(hk:∀ v h',Ext h h'→Sl 5 UsrR (fz T h') v b→K v h'):callM P qcIZ #[.agg #[kw,vw]] h K:=by
 apply qltZ
 unfold qeBZ
 have k1:=xb.1.one
 have k2:=xb.2.1.one
 refine nw_agg fun v1 h1 n1 e1 c1=>?_
 rw[zcSlUsr]
 refine nw_intro fun bl h2 n2 e2 c2=>?_
 have c1:=e2 _ _ c1
 simp -implicitDefEqProofs[ld_at c1,cel_of c1,stm_at c1,stm_upd,ld_same,cel_same,over]
 have e02:=e1.trans e2
 refine all_ok b ((fz_ext T h).trans e02) xb fun p h3 n3 e3 c3=>?_
 have e03:=e02.trans e3
 have c2':=e3 _ _ c2
 have nbl:h bl=none:=fresh_of e1 n2
 unfold qgwZ
 simp -implicitDefEqProofs
 refine nx_fn good (by kernel_rfl) ?_
 obtain⟨T0,hT0⟩:∃ T0:Tags,T0=tset (fun _=>[]) bl lc:=⟨_,rfl⟩
 have w0:Wf T0 h3:=fun j hj=>by
  have:j≠bl:=fun e=>by subst e; rw[c2'] at hj; cases hj
  rw[hT0,tset_ne this]
 have f0:∀ j o,j≠bl→h3 j=some o→fz T0 h3 j=some o:=fun j o hj ho=>fz_at ho (by rw[hT0,tset_ne hj])
 have fbl:fz T0 h3 bl=none:=by
  unfold fz
  rw[hT0,tset_same,if_neg (by simp[lc])]
 have eA:Ext h (fz T0 h3):=fun j o ho=>f0 j o (fun e=>by subst e; rw[nbl] at ho; cases ho) (e03 _ _ ho)
 have xA:BookR (fz T0 h3) kw vw b:=xb.ext ((fz_ext T h).trans eA)
 have npl:p≠bl:=fun e=>by subst e; rw[c2] at n3; cases n3
 obtain⟨Lv,l1,l2⟩:=xb.2.1.els EntR.one
 simp -implicitDefEqProofs only[List.length_map] at l1
 have hlx:(allX b Lv).length=b.length:=by simp[allX]
 refine all_it b (hA:=fz T0 h3) (p:=p) (kw:=kw) (vw:=vw) (Lv:=Lv) (f0 _ _ npl c3) xA (l1.ext ((fz_ext T h).trans eA)) l2.size (by simpa using l2.len) (.func (.func qaiZ) #[] #[ptr bl])
  (fun i h'=>∃ out L,h' bl=some (.cells #[out] qkZ (0,0))∧Rf 5 qAZ (fz T0 h3) h' out i (List.flatten L)∧rowOf out≠some bl∧El 5 UsrR (fz T h) L (b.take i)) (fun _=>False) h3 _ ?_ ?_ ?_ ?_ ?_ (fun _ _ h=>h.elim)
 ·rintro i h' ⟨out,L,c,r,ne,el⟩
  exact r.ex
 ·rintro i h' h'' ⟨out,L,c,r,ne,el⟩ e
  exact⟨out,L,e _ _ c,r.ext e,ne,el⟩
 ·exact⟨.slice none 0 0,[],c2',Rf.nil (fz_ext _ _),by simp[rowOf],by simpa using El.nil⟩
 ·rintro i hi h' K' ⟨out,L,c,r,ne,el⟩ hK' -
  obtain⟨hib,sv,hx,hsv,hsn⟩:=allX_at l2 hi
  rw[hx]
  refine nx_fn good (by kernel_rfl) ?_
  show callM P qaiZ #[.string b[i].1,.agg (sv::presC b[i].2.told).toArray,ptr bl] h' K'
  refine usersc_ok b[i].1 b[i].2 fbl c r ne (by omega) hsv fun h'' out' c' r' ne'=>hK' _ ⟨out',L++[.string b[i].1::sv::presC b[i].2.told],c',?_,ne',?_⟩
  ·rw[List.flatten_append]; simpa using r'
  ·rw[List.take_succ_eq_append_getElem hib]
   exact el.app (El.sing (by simp[presC]) (by simp[presC,hsv.one.1]) ⟨sv,rfl,hsv⟩)
 ·rintro v h' ⟨out,L,c,r,ne,el⟩
  rw[hlx] at r el
  rw[List.take_of_length_le (Nat.le_refl _)] at el
  have e0:Ext h h':=eA.trans r.ex
  have wA:Wf T (fz T0 h3):=fun j hj=>by
   by_cases hjb:j=bl
   ·subst hjb; exact w _ nbl
   ·cases hh:h j with
    | none=>exact w j hh
    | some o=>rw[f0 j o hjb (e03 _ _ hh)] at hj; cases hj
  have cc:cel h' bl 0=some out:=by simp[cel_of c]
  simp -implicitDefEqProofs[cc]
  exact hk out h' e0 (r.sl wA rfl (el.ext (@UsrR.ext) (fz_of_ext e0)))
theorem sessSame_ok (xs ys : List Sess) {h : Heap} {v u : Value} (x : Sl 4 SessR h v xs) (y : Sl 4 SessR h u ys) (hl : xs.length < 1000000) (hk : K (.bool (decide (xs = ys))) h) : callM P qetZ #[v, u] h K := by
  apply qlYZ
  unfold qfdZ
  have lx := x.len
  have ly := y.len
  by_cases hlen : xs.length = ys.length
  rotate_left
  · have hne : xs ≠ ys := fun e => hlen (by rw [e])
    have hi : ¬ (xs.length : Int) = ys.length := by omega
    simp -implicitDefEqProofs [lx, ly, hi]
    rw [decide_eq_false hne] at hk; exact hk
  · have hi : (xs.length : Int) = ys.length := by omega
    simp -implicitDefEqProofs [lx, ly, hi]
    unfold qhkZ
    rw [seqM_eq]
    unfold qhjZ
    refine loop_on [0, 1, 4] (fun s h' => h' = h ∧ ∃ i : Nat, i ≤ xs.length ∧ s 5 = .int .i64 i ∧ xs.take i = ys.take i) (fun s _ => (xs.length - num (s 5)).toNat) ⟨rfl, 0, by omega, rfl, by simp⟩ ?_
    rintro s h1 hf ⟨rfl, i, hi, s5, hT⟩
    have s0 : s 0 = v := by simpa using hf 0 (by simp)
    have s1 : s 1 = u := by simpa using hf 1 (by simp)
    have s4 : s 4 = .bool false := by simpa using hf 4 (by simp)
    unfold qhiZ
    simp -implicitDefEqProofs only [s5, s0, lx, bin_lss, ov_s, cd_b]
    refine ⟨fun hc => ?_, fun hc => ?_⟩
    · have hlt : i < xs.length := by have : ((i : Int) < xs.length) := by simpa using hc
                                     omega
      have hly : i < ys.length := by omega
      have hw : IntKind.i64.wrap ((i : Int) + 1) = (i + 1 : Nat) := by rw [wrap64_id (by omega) (by omega)]; omega
      obtain ⟨b, p, i1, i2⟩ := sess_ld x (k := .i64) hlt
      obtain ⟨b', p', j1, j2⟩ := sess_ld y (k := .i64) hly
      unfold qhhZ
      simp -implicitDefEqProofs only [s0, s1, s5, i1, j1, ov_s, ldV_n (i2 _ (Ext.refl _)), ldV_n (j2 _ (Ext.refl _)), sessNe, cd_b]
      refine ⟨fun hd => ?_, fun hd => ?_⟩
      · have hne : xs[i] ≠ ys[i] := by simpa using hd
        have hne' : xs ≠ ys := fun e => hne (by subst e; rfl)
        unfold qhfZ
        simp -implicitDefEqProofs [s4]
        rw [decide_eq_false hne'] at hk; exact hk
      · have he : xs[i] = ys[i] := by simpa using hd
        unfold qhgZ
        simp -implicitDefEqProofs [s0, s1, s4, s5, hw, -Int.natCast_add]
        exact ⟨⟨i + 1, by omega, rfl, take_eq_succ hT hlt hly he⟩, by omega⟩
    · have : i = xs.length := by have : ¬ ((i : Int) < xs.length) := by simpa using hc
                                 omega
      subst this
      have he : xs = ys := by
        rw [List.take_of_length_le (Nat.le_refl _), List.take_of_length_le (by omega)] at hT; exact hT
      simp -implicitDefEqProofs
      rw [decide_eq_true he] at hk; exact hk
theorem usr_ld {F:Heap}{v:Value}{l:Book}(x:Sl 5 UsrR F v l){i:Nat}(hi:i<l.length):∃ b p sv,iaV (some (none,5)) v (.int .i64 i)=some (.pointer (some ⟨b,p,none⟩))∧(∀ h',Ext F h'→cel h' b p=some (.string l[i].1)∧cel h' b (p+1)=some sv∧ldV (some (some 3)) (.pointer (some ⟨b,p+2,none⟩)) h'=some (.agg (presC l[i].2.told).toArray))∧Sl 4 SessR F sv l[i].2.ss:=by
 obtain⟨b,p,c,h1,h2,h3⟩:=x.at (k:=.i64) (i:=i) (by omega) (by omega)
 simp -implicitDefEqProofs only[Int.toNat_natCast] at h3
 obtain⟨sv,rfl,hs⟩:=h3
 refine⟨b,p,sv,h1,fun h' e=>?_,hs⟩
 have hc:=cels_ext e h2
 have g:=(cels_get hc).2
 refine⟨g 0 (by simp[presC]),g 1 (by simp[presC]),?_⟩
 have:=cels_sub hc (j:=2) (m:=3) (by omega)
 rw[ldV_n (l:=presC l[i].2.told) (by simpa [presC] using this)]
set_option maxHeartbeats 2000000 in
theorem usrSame_ok (xs ys : Book) {h : Heap} {v u : Value} (x : Sl 5 UsrR h v xs) (y : Sl 5 UsrR h u ys) (hl : xs.length < 1000000) (hs : ∀ z ∈ xs, z.2.ss.length < 1000000) (hk : K (.bool (decide (xs = ys))) h) : callM P qerZ #[v, u] h K := by
  apply qlVZ
  unfold qeYZ
  have lx := x.len
  have ly := y.len
  by_cases hlen : xs.length = ys.length
  rotate_left
  · have hne : xs ≠ ys := fun e => hlen (by rw [e])
    have hi : ¬ (xs.length : Int) = ys.length := by omega
    simp -implicitDefEqProofs [lx, ly, hi]
    rw [decide_eq_false hne] at hk; exact hk
  · have hi : (xs.length : Int) = ys.length := by omega
    simp -implicitDefEqProofs [lx, ly, hi]
    unfold qhaZ
    rw [seqM_eq]
    unfold qgZZ
    refine loop_on [0, 1, 4] (fun s h' => h' = h ∧ ∃ i : Nat, i ≤ xs.length ∧ s 5 = .int .i64 i ∧ xs.take i = ys.take i) (fun s _ => (xs.length - num (s 5)).toNat) ⟨rfl, 0, by omega, rfl, by simp⟩ ?_
    rintro s h1 hf ⟨rfl, i, hi, s5, hT⟩
    have s0 : s 0 = v := by simpa using hf 0 (by simp)
    have s1 : s 1 = u := by simpa using hf 1 (by simp)
    have s4 : s 4 = .bool false := by simpa using hf 4 (by simp)
    unfold qgYZ
    simp -implicitDefEqProofs only [s5, s0, lx, bin_lss, ov_s, cd_b]
    refine ⟨fun hc => ?_, fun hc => ?_⟩
    · have hlt : i < xs.length := by have : ((i : Int) < xs.length) := by simpa using hc
                                     omega
      have hly : i < ys.length := by omega
      have hw : IntKind.i64.wrap ((i : Int) + 1) = (i + 1 : Nat) := by rw [wrap64_id (by omega) (by omega)]; omega
      obtain ⟨b, p, sv, i1, i2, i3⟩ := usr_ld x hlt
      obtain ⟨b', p', sv', j1, j2, j3⟩ := usr_ld y hly
      obtain ⟨p1, p2, p3⟩ := i2 _ (Ext.refl _)
      obtain ⟨q1, q2, q3⟩ := j2 _ (Ext.refl _)
      have hss := hs _ (List.getElem_mem hlt)
      have fin : xs[i] ≠ ys[i] → K (.bool false) h1 := fun hne => by
        have hne' : xs ≠ ys := fun e => hne (by subst e; rfl)
        rw [decide_eq_false hne'] at hk; exact hk
      have hd : xs[i] = ys[i] ↔ xs[i].1 = ys[i].1 ∧ xs[i].2.told = ys[i].2.told ∧ xs[i].2.ss = ys[i].2.ss := by
        constructor
        · intro e; rw [e]; exact ⟨rfl, rfl, rfl⟩
        · rintro ⟨a1, a2, a3⟩
          have : xs[i].2 = ys[i].2 := by cases h1 : xs[i].2; cases h2 : ys[i].2; rw [h1, h2] at a2 a3; simp at a2 a3; rw [a2, a3]
          exact Prod.ext a1 this
      unfold qgXZ
      have bn : binV .neq 3 false (.string xs[i].1) (.string ys[i].1) = some (.bool (!decide (xs[i].1 = ys[i].1))) := bin_neqS _ _ _ _
      by_cases d1 : xs[i].1 = ys[i].1
      rotate_left
      · simp -implicitDefEqProofs [s0, s1, s5, i1, j1, p1, q1, bn, d1]
        unfold qcKZ
        simp -implicitDefEqProofs [s4]
        exact fin fun e => d1 (hd.1 e).1
      by_cases d2 : xs[i].2.told = ys[i].2.told
      rotate_left
      · have p3' : ldV (some (some 3)) (.pointer (some ⟨b, p + 2, none⟩)) h1 = some (.agg #[.int .i64 xs[i].2.told.st, .int .i64 xs[i].2.told.pr, .int .i64 xs[i].2.told.lv]) := p3
        have q3' : ldV (some (some 3)) (.pointer (some ⟨b', p' + 2, none⟩)) h1 = some (.agg #[.int .i64 ys[i].2.told.st, .int .i64 ys[i].2.told.pr, .int .i64 ys[i].2.told.lv]) := q3
        simp -implicitDefEqProofs [s0, s1, s5, i1, j1, p1, q1, bn, d1, p3', q3', presNe, d2]
        unfold qcKZ
        simp -implicitDefEqProofs [s4]
        exact fin fun e => d2 (hd.1 e).2.1
      have p3' : ldV (some (some 3)) (.pointer (some ⟨b, p + 2, none⟩)) h1 = some (.agg #[.int .i64 xs[i].2.told.st, .int .i64 xs[i].2.told.pr, .int .i64 xs[i].2.told.lv]) := p3
      have q3' : ldV (some (some 3)) (.pointer (some ⟨b', p' + 2, none⟩)) h1 = some (.agg #[.int .i64 ys[i].2.told.st, .int .i64 ys[i].2.told.pr, .int .i64 ys[i].2.told.lv]) := q3
      simp -implicitDefEqProofs [s0, s1, s5, i1, j1, p1, q1, p2, q2, bn, d1, p3', q3', presNe, d2]
      refine sessSame_ok _ _ i3 j3 hss ?_
      by_cases d3 : xs[i].2.ss = ys[i].2.ss
      · simp -implicitDefEqProofs [d3]
        unfold qgWZ
        simp -implicitDefEqProofs [s0, s1, s4, s5, hw, -Int.natCast_add]
        exact ⟨⟨i + 1, by omega, rfl, take_eq_succ hT hlt hly (hd.2 ⟨d1, d2, d3⟩)⟩, by omega⟩
      · simp -implicitDefEqProofs [d3]
        unfold qcKZ
        simp -implicitDefEqProofs [s4]
        exact fin fun e => d3 (hd.1 e).2.2
    · have : i = xs.length := by have : ¬ ((i : Int) < xs.length) := by simpa using hc
                                 omega
      subst this
      have he : xs = ys := by
        rw [List.take_of_length_le (Nat.le_refl _), List.take_of_length_le (by omega)] at hT; exact hT
      simp -implicitDefEqProofs
      rw [decide_eq_true he] at hk; exact hk
end Go.Proofs.YtcnphhhcknhhaaaGreat
namespace Go.Den
open Go
set_option linter.unusedVariables false
theorem Rw.appk {P:Program}{t ty e:TypeId}{sz bytes:Nat}{z:Array Value}{g:Tag}{v x:Value}{n:Nat}{xs:List Value}{T:Tags}{h:Heap}{K:Value→Value→Heap→Prop}
  (hb:bsI P t=some (e,sz,z)) (ht:P.underlying t=some (.slice e)) (hi:apC P e=some (sz,bytes,sz)) (hsz:0<sz) (hx:x.cells.size=sz) (h1:∀ u∈x.cells.toList,u.oneCell'=true) (w:Wf T h)
  (hv:Rw T h g sz e v n xs) (h63:n+1≤maxLen) (hby:(n+1)*bytes≤140737488355328) (hs:sz≤16777216) (hg:g≠[])
  (hk:∀ a v' T' h',Only (fun t=>t=g) T h T' h'→Rw T' h' g sz e v' (n+1) (xs++x.cells.toList)→(∀ b o,h b=some o→rowOf v≠some b→h' b=some o)→(rowOf v'=rowOf v∨∃ b,rowOf v'=some b∧h b=none)→K a v' h') :
  bsM (bsI P t) 1 [(0,x)] h fun a h'=>vvM P (Builtin.append_ #[t,t] ty #[v,a]) h' (K a):=by
 refine bs_one hb hx hs fun b h1' hbn he hc=>?_
 have o1:Only (fun t=>t=g) T h T h1':=Only.of_ext w he
 have hv1:Rw T h1' g sz e v n xs:=hv.kp (U:=non) (Only.of_ext w he).k (fun h=>h)
 refine vv_al ?_
 refine app_intro ht hi hsz hv1.1 (cels_one hc hx) h1 h63 hby fun v' h' hr hkp ha hal=>?_
 have hrow:∀ k,rowOf v=some k→T k=g:=hv.2
 have keep:∀ b o,h b=some o→rowOf v≠some b→h' b=some o:=fun k o ek hne=>hkp k o (he _ _ ek) (fun hh=>hne hh.symm)
 rcases ha with ha | ⟨k,ha,hn⟩
 ·have o2:Only (fun t=>t=g) T h1' T h':=by
   refine⟨fun k hk0=>?_,fun _ _ _=>rfl,fun k o e=>hal k o e,fun k o e n=>hkp k o e (fun hh=>n (hrow k hh.symm))⟩
   cases hh:h1' k with
   | none=>exact o1.wf k hh
   | some o=>obtain⟨o',ho'⟩:=hal k o hh; rw[ho'] at hk0; cases hk0
  exact hk _ v' T h' (o1.trans o2) ⟨hr,fun k hk0=>hrow k (by rw[← ha]; exact hk0)⟩ keep (.inl ha)
 ·have hne:∀ j o,h1' j=some o→j≠k:=fun j o e hj=>by subst hj; rw[hn] at e; cases e
  have o2:Only (fun t=>t=g) T h1' (tset T k g) h':=by
   refine⟨fun j hj=>?_,fun j o e=>tset_ne (hne j o e),fun j o e=>hal j o e,fun j o e n=>hkp j o e (fun hh=>n (hrow j hh.symm))⟩
   have hjk:j≠k:=fun e=>by
    subst e
    obtain⟨o,ho⟩:=hr.lt j ha
    rw[ho] at hj; cases hj
   rw[tset_ne hjk]
   cases hh:h1' j with
   | none=>exact o1.wf j hh
   | some o=>obtain⟨o',ho'⟩:=hal j o hh; rw[ho'] at hj; cases hj
  refine hk _ v' (tset T k g) h' (o1.trans o2) ⟨hr,fun j hj=>?_⟩ keep (.inr ⟨k,ha,fresh_of he hn⟩)
  rw[ha] at hj
  simp only[Option.some.injEq] at hj
  subst hj
  simp
end Go.Den
namespace Go.Den
open Go
set_option linter.unusedVariables false
set_option linter.unusedSimpArgs false
theorem Wd.step_ps {W:Wd}{i j:Nat}{p:PR}(hp:W.ps i=some p)(n:Int):(W.step i n).ps j=if j=i then some (p.step (W.ms i) W.H n).1 else W.ps j:=by simp only[Wd.step,hp,bset]
theorem Wd.step_H {W:Wd}{i:Nat}{p:PR}(hp:W.ps i=some p)(n:Int):(W.step i n).H=(p.step (W.ms i) W.H n).2.2:=by simp only[Wd.step,hp]
section
variable {nw nm i k:Nat}{X:Nat→OpD}{want:Nat→Reply}{W:Wd}{M:Tbl}
end
end Go.Den
namespace Go.Den
open Go
set_option linter.unusedVariables false
set_option linter.unusedSimpArgs false
theorem BD.keep {H H':Hall}(b:BD H)(hc:H'.c=H.c)(hn:H'.n=H.n)(v:∀ s,s<H.n→Vm (H.ss s) (H'.ss s)):BD H':=fun s hs=>by
 rw[hn] at hs
 rw[(v s hs).b,hc]; exact b s hs
theorem BD.init (c:Cfg)(n:Nat):BD (hall0 c n):=fun s hs=>rfl
theorem LI.bd_step {W:Wd}{M:Tbl}{k:Nat}(x:LI W M)(hs:HS k W.H)(hk:k<100000){i:Nat}{p:PR}(hp:W.ps i=some p)(n:Int)(b:BD W.H):BD (W.step i n).H:=by
 rw[Wd.step_H hp]
 have h:=pstep_n (m:=W.ms i) hs n hk (x.pa i p hp)
 exact b.keep h.2.1 h.1 fun s h=>x.vm (k:=0) hp n s h
section
variable {nw nm n i k:Nat}{X:Nat→OpD}{Ms:Nat→Tbl}{W:Wd}{M:Tbl}
end
end Go.Den
namespace Go.Proofs.YtcnphhhcknhhaaaGreat
open Go Go.Den Go.MapKept
set_option linter.unusedSimpArgs false
set_option linter.unusedVariables false
set_option maxRecDepth 20000
theorem g4:Gd [4]:=⟨3,[],rfl⟩
end Go.Proofs.YtcnphhhcknhhaaaGreat
namespace Go.Proofs.YtcnphhhcknhhaaaGreat
open Go Go.Den Go.MapKept
set_option linter.unusedSimpArgs false
set_option linter.unusedVariables false
set_option maxRecDepth 20000
def aw15:Nat→WP × Hall
 | 0=>(wp0 (hall0 small 3) 0 annW,hall0 small 3)
 | n+1=>(aw15 n).1.step (aw15 n).2 n
theorem aw15_done:∀ n,n≤7→((aw15 n).1.done=true↔n=7):=by decide +kernel
theorem aw15_end:(aw15 7).1.placed=2∧(aw15 7).2.stored=1:=by decide +kernel
def Aw15 (T0:Tags)(h0:Heap)(hp pp:Nat)(v:Value)(h':Heap):Prop :=
 ∃ (T':Tags) (k:Nat) (W:Wd) (M:Tbl),Only UW T0 h0 T' h'∧WdM T' h' hp (fun _=>pp) W∧WdK k W M∧W.H=(aw15 k).2∧W.ps 0=some (.w (aw15 k).1)∧v = .int .i64 k∧k≤7
variable {K:KTy}
set_option maxHeartbeats 2000000 in
theorem awake15_ok {h:Heap}(hk:∀ h',Ext h h'→K (.bool true) h'):callM P qaYZ #[] h K:=by
 apply qlpZ
 unfold qexZ
 refine small_ok fun h1 e1=>?_
 unfold qgoZ
 have w1:=wf_nil h1
 refine hallNew_ok small smallW w1 g1 (fun hr T2 h2 q o2 y2=>?_) (fun hr=>by simp[rightB,small] at hr)
 have hn3:small.stripes.toNat=3:=by decide
 rw[hn3] at y2
 unfold qgnZ
 have enil:binV .eql 4 true (ptr q) (.pointer none)=some (.bool false):=rfl
 simp -implicitDefEqProofs[enil]
 unfold qgmZ
 rw[bdOpAnnW]
 simp -implicitDefEqProofs only[ov_s]
 refine wdnew_w (i:=0) (A:=fun _=>0) (by omega) annW annWW (by simp[annW]) (.inl ⟨rfl,_,_,rfl⟩) o2.wf (wd0M y2 _) (wd0K smallW hr (by decide)) (fun q h=>by simp[wd0] at h) fun T3 h3 p o3 x3 k3=>?_
 have o0:Only UW (fun _=>[]) h1 T3 h3:=(o2.mono fun _=>.inl).up o3 non_up
 unfold qglZ
 rw[seqM_eq]
 unfold qgjZ
 have hA:bset (fun _=>0) 0 p 0=p:=rfl
 refine loop_on [1,3] (fun s h'=>Aw15 T3 h3 q p (s 4) h') (fun s _=>(9-num (s 4)).toNat) ⟨T3,0,_,_,Only.refl o3.wf,⟨x3.hl,fun i r hr=>?_⟩,k3,rfl,rfl,rfl,by omega⟩ ?_
 ·by_cases hi:i=0
  ·subst hi; exact x3.ps 0 r hr
  ·have hr:bset (wd0 small 3).ps 0 (some (.w (wp0 (hall0 small 3) 0 annW))) i=some r:=hr
   rw[bset_ne hi] at hr; simp[wd0] at hr
 rintro s h4 hf ⟨T4,k,W,M,o4,x4,k4,hH,hP,s4,hk7⟩
 have s1:s 1=ptr q:=by simpa using hf 1 (by simp)
 have s3:s 3=ptr p:=by simpa using hf 3 (by simp)
 have hw:IntKind.i64.wrap ((k:Int)+1)=(k+1:Nat):=by rw[wrap64_id (by omega) (by omega)]; omega
 have hd:=aw15_done k hk7
 have hn9:(k:Int)<9:=by omega
 have xp:=x4.ps 0 _ hP
 unfold qgiZ
 simp -implicitDefEqProofs[s4,s3,hn9]
 refine wdone_ok xp fun h5 e5=>?_
 by_cases h7:k=7
 ·subst h7
  rw[hd.2 rfl]
  simp -implicitDefEqProofs[s3,s4]
  unfold qgkZ
  have o5:Only non T4 h4 T4 h5:=Only.of_ext o4.wf e5
  have x5:=x4.ext o4.wf e5
  have xp:=x5.ps 0 _ hP
  simp -implicitDefEqProofs[s3,s4]
  refine wplaced_ok xp ?_
  rw[aw15_end.1]
  simp -implicitDefEqProofs[s3]
  refine wdone_ok xp fun h6 e6=>?_
  rw[hd.2 rfl]
  simp -implicitDefEqProofs[s1]
  have x6:=x5.ext o5.wf e6
  refine hstored_ok (o5.wf.ext e6) x6.hl k4.hs (by omega) fun h7 e7=>?_
  rw[hH,aw15_end.2]
  simp -implicitDefEqProofs
  exact hk _ (e1.trans ((ext_of_only (o0.trans o4) UW.nil).trans (e5.trans (e6.trans e7))))
 ·have hdf:(aw15 k).1.done=false:=by
   cases hh:(aw15 k).1.done with
   | false=>rfl
   | true=>exact absurd (hd.1 hh) h7
  rw[hdf]
  simp -implicitDefEqProofs
  unfold qghZ
  simp -implicitDefEqProofs only[s3,s1,s4]
  have x5:=x4.ext o4.wf e5
  refine wdstep_w (i:=0) (A:=fun _=>p) k (o4.wf.ext e5) x5 k4 (by omega) hP fun T6 h6 o6 x6=>?_
  unfold qggZ
  simp -implicitDefEqProofs[s1,s3,s4,hw,-Int.natCast_add]
  have hst:W.step 0 k=⟨((aw15 k).1.step (aw15 k).2 k).2,bset W.ps 0 (some (.w ((aw15 k).1.step (aw15 k).2 k).1)),bset W.ms 0 (W.ms 0)⟩:=by
   simp -implicitDefEqProofs only[Wd.step,hP,PR.step,hH]
  refine⟨⟨T6,k+1,_,_,(o4.up (Only.of_ext (U:=non) o4.wf e5) non_up).trans o6,x6,k4.step (by omega) hP k,by rw[hst]; rfl,by rw[hst]; rfl,rfl,by omega⟩,by omega⟩
end Go.Proofs.YtcnphhhcknhhaaaGreat
namespace Go.Proofs.YtcnphhhcknhhaaaGreat
open Go Go.Den Go.MapKept
set_option linter.unusedSimpArgs false
set_option linter.unusedVariables false
set_option maxRecDepth 20000
theorem u8At {F:Heap}{v:Value}{bs:List Int}(x:Sl 1 (IntR .u8) F v bs){i:Nat}(hi:i<bs.length):∃ b p,iaV (some (none,1)) v (.int .i64 i)=some (.pointer (some ⟨b,p,none⟩))∧(∀ h',Ext F h'→cel h' b p=some (.int .u8 bs[i]))∧0≤bs[i]∧bs[i]≤255:=by
 obtain⟨b,o,c,i1,i2,i3,i4⟩:=x.at (k:=.i64) (i:=i) (by omega) (by omega)
 simp -implicitDefEqProofs only[Int.toNat_natCast] at i3 i4
 subst i3
 have hw:=wf_u8 i4
 refine⟨b,o,i1,fun h' e=>?_,hw.1,hw.2⟩
 have:=(cels_get (cels_ext e i2)).2 0 (by simp)
 simpa using this
end Go.Proofs.YtcnphhhcknhhaaaGreat
namespace Go.Proofs.YtcnphhhcknhhaaaGreat
open Go Go.Den Go.MapKept
set_option linter.unusedSimpArgs false
set_option linter.unusedVariables false
set_option maxRecDepth 20000
theorem unSlWP:P.underlying qatZ=some (.slice qcWZ):=by kernel_rfl
theorem apWP:apC P qcWZ=some (1,8,1):=by kernel_rfl
end Go.Proofs.YtcnphhhcknhhaaaGreat
namespace Go.Den
open Go
set_option linter.unusedVariables false
set_option linter.unusedSimpArgs false
def f2 (p:WP):Nat:=if p.k.isBad then 0 else (if 2≤p.at_ then 1 else 0)+(if 6≤p.at_ then 1 else 0)
def fO:Option PR→Nat
 | some (.w p)=>f2 p
 | _=>0
def sumW (ps:Nat→Option PR):Nat→Nat
 | 0=>0
 | n+1=>sumW ps n+fO (ps n)
theorem f2_le (p:WP):f2 p≤2:=by unfold f2; split<;>(try split)<;>(try split)<;>omega
theorem fO_le (x:Option PR):fO x≤2:=by
 cases x with
 | none=>simp[fO]
 | some p=>cases p with
  | w p=>exact f2_le p
  | r p=>simp[fO]
  | h p=>simp[fO]
theorem sumW_le (ps:Nat→Option PR):∀ n,sumW ps n≤2*n
 | 0=>Nat.le_refl _
 | n+1=>by have:=sumW_le ps n; have:=fO_le (ps n); unfold sumW; omega
theorem sumW_ge {ps:Nat→Option PR}{i:Nat}(x:Option PR):∀ {n:Nat},n≤i→sumW (bset ps i x) n=sumW ps n
 | 0,_=>rfl
 | n+1,h=>by
  unfold sumW
  rw[sumW_ge x (by omega),bset_ne (by omega)]
theorem sumW_set {ps:Nat→Option PR}{i:Nat}(x:Option PR):∀ {n:Nat},i<n→sumW (bset ps i x) n+fO (ps i)=sumW ps n+fO x
 | 0,h=>by omega
 | n+1,h=>by
  unfold sumW
  by_cases e:i=n
  ·subst e; rw[sumW_ge x (Nat.le_refl _),bset_same]; omega
  ·have:=sumW_set (ps:=ps) x (show i<n by omega)
   rw[bset_ne (by omega:n≠i)]; omega
theorem wv_step (p:WP)(H:Hall)(n:Int)(s:Nat):((p.step H n).2.ss s).v+f2 p≤(H.ss s).v+f2 (p.step H n).1:=by
 unfold WP.step
 split
 ·split
  ·rename_i hb
   have:f2 { p with err:=1,placed:=n,at_:=7 }=f2 p:=by simp[f2,hb]
   dsimp only; omega
  ·rename_i he hb
   have hb:p.k.isBad=false:=by simpa using hb
   have hl:=enabled_at he
   by_cases h0:p.at_=0
   ·rw[stp0 H n h0]; simp only[f2,hb,h0,Bool.false_eq_true,if_false]
    simp only[Hall.lock]
    split
    ·simp only[Hall.put,sput,Hall.did]; split
     ·rename_i h; subst h; simp
     ·simp
    ·simp
   by_cases h1:p.at_=1
   ·rw[stp1 H n h1]; simp only[f2,hb,h1,Bool.false_eq_true,if_false]
    simp only[Hall.begin,Hall.put,sput,Hall.did]
    split
    ·rename_i h; subst h
     simp only[bgn]; split<;>simp<;>omega
    ·simp; omega
   by_cases h2:p.at_=2
   ·rw[stp2 H n h2]; simp only[f2,hb,h2,Bool.false_eq_true,if_false]; simp[Hall.take,Hall.did]
   by_cases h3:p.at_=3
   ·rw[stp3 H n h3]; simp only[f2,hb,h3,Bool.false_eq_true,if_false]
    have:=(run_ss p.k H p.who p.s p.t s).2.1
    rw[this]; simp
   by_cases h4:p.at_=4
   ·rw[stp4 H n h4]; simp only[f2,hb,h4,Bool.false_eq_true,if_false]
    simp only[Hall.pub,Hall.put,sput,Hall.did]
    split
    ·rename_i h; subst h; simp
    ·simp
   by_cases h5:p.at_=5
   ·rw[stp5 H n h5]; simp only[f2,hb,h5,Bool.false_eq_true,if_false]
    simp only[Hall.end_,Hall.put,sput,Hall.did]
    split
    ·rename_i h; subst h
     simp only[endV]; split<;>simp<;>omega
    ·simp<;>omega
   ·have h6:p.at_=6:=by omega
    rw[stp6 H n (by omega)]; simp only[f2,hb,h6,Bool.false_eq_true,if_false]
    simp only[Hall.unlock]
    split
    ·simp only[Hall.put,sput,Hall.did]; split
     ·rename_i h; subst h; simp
     ·simp
    ·simp
 ·exact Int.le_refl _
theorem wsnap_step (p:WP)(H:Hall)(n:Int)(h4:p.at_≠4)(s:Nat):((p.step H n).2.ss s).snap=(H.ss s).snap:=by
 unfold WP.step
 split
 ·split
  ·rfl
  ·rename_i he hb
   have hl:=enabled_at he
   by_cases h0:p.at_=0
   ·rw[stp0 H n h0]
    simp only[Hall.lock]
    split
    ·simp only[Hall.put,sput,Hall.did]; split
     ·rename_i h; subst h; rfl
     ·rfl
    ·rfl
   by_cases h1:p.at_=1
   ·rw[stp1 H n h1]
    simp only[Hall.begin,Hall.put,sput,Hall.did]
    split
    ·rename_i h; subst h; rfl
    ·rfl
   by_cases h2:p.at_=2
   ·rw[stp2 H n h2]; rfl
   by_cases h3:p.at_=3
   ·rw[stp3 H n h3]
    exact (run_ss p.k H p.who p.s p.t s).2.2.2.1
   by_cases h5:p.at_=5
   ·rw[stp5 H n h5]
    simp only[Hall.end_,Hall.put,sput,Hall.did]
    split
    ·rename_i h; subst h; rfl
    ·rfl
   ·rw[stp6 H n (by omega)]
    simp only[Hall.unlock]
    split
    ·simp only[Hall.put,sput,Hall.did]; split
     ·rename_i h; subst h; rfl
     ·rfl
    ·rfl
 ·rfl
theorem LI.odd {W:Wd}{M:Tbl}{i:Nat}{q:WP}(li:LI W M)(hp:W.ps i=some (.w q))(hb:q.k.isBad=false)(h1:1≤q.at_)(hv:(W.H.ss q.s).v<(W.H.ss q.s).bound)(h7:q.at_=7→(W.H.ss q.s).who=0):wrt (W.H.ss q.s).v=decide (2≤q.at_∧q.at_<6):=by
 have hpa:=li.pa i _ hp
 have hs:q.s<W.H.n:=hpa.1.s
 have h7':q.at_≤7:=hpa.1.a
 by_cases e7:q.at_=7
 ·rcases li.st q.s hs with h | ⟨j,p,a1,a2,a3,a4⟩
  ·rw[h.v]; symm; rw[decide_eq_false_iff_not]; omega
  ·have:=h7 e7; omega
 ·have hd:=li.free_of hp hs (s:=q.s) ⟨hb,h1,by omega,rfl⟩
  by_cases hm:2≤q.at_∧q.at_≤5
  ·rcases hd.v ⟨hb,hm.1,hm.2,rfl⟩ with h | h
   ·rw[h]; symm; rw[decide_eq_true_eq]; omega
   ·omega
  ·have:=(hd.q fun h=>hm ⟨h.2.1,h.2.2.1⟩).1
   rw[this]; symm; rw[decide_eq_false_iff_not]; omega
theorem wwho7 {p:WP}{H:Hall}(n:Int)(he:p.enabled H=true)(hb:p.k.isBad=false)(h6:p.at_=6)(hw:(H.ss p.s).who=p.who+1)(h0:0≤p.who):((p.step H n).2.ss p.s).who=0:=by
 simp only[WP.step,he,hb,if_true,Bool.false_eq_true,if_false]
 rw[stp6 H n (by omega)]
 have:canGive (H.ss p.s).who p.who=true:=by simp[canGive,hw]; omega
 simp[Hall.unlock,this,Hall.put,sput]
end Go.Den
namespace Go.Proofs.YtcnphhhcknhhaaaGreat
open Go Go.Den
set_option maxRecDepth 100000
set_option linter.unusedVariables false
set_option maxHeartbeats 40000000
def qdRZ (a:Post)(m:List Nat)(b:Env)(c d e f g h:Value)(i:Heap):Prop:=a .ret m (puts b [(47,(b 8)),(48,(b 0)),(49,c),(50,d),(53,(b 0)),(54,(b 8)),(55,e),(56,f),(57,g),(58,h),(4,(Value.bool true))]) i
def qdSZ (a:Env)(b:Post)(m:List Nat)(c d e f g h i j k l n o:Value)(p:Heap):Prop:=ov (binV BinOp.add 2 true (a 8) (Value.int IntKind.i64 1)) fun q=>b .normal m (puts a [(47,(a 8)),(48,(a 0)),(49,c),(50,d),(53,(a 0)),(54,(a 8)),(55,e),(56,f),(57,g),(58,h),(59,(a 7)),(60,(a 5)),(61,(a 8)),(62,(a 0)),(63,(a 8)),(64,i),(65,j),(66,k),(67,l),(68,n),(69,o),(7,o),(51,(a 8)),(52,q),(8,q)]) p
def qdTZ (a:Value)(b:Heap)(c:Env)(d:Post)(m:List Nat)(e f g h i j k l n:Value):Prop:=bsM (bsI P qatZ) 1 [(0,a)] b fun o p=>vvM P (Builtin.append_ #[qatZ,qatZ] qatZ #[(c 7),o]) p fun q r=>qdSZ c d m e f g h i j k l n a o q r
def qdUZ (a:Env)(b:Value)(c:Heap)(d:Post)(m:List Nat)(e f g h i j k l:Value):Prop:=callM P qfmZ #[(a 5),(a 8),b] c fun n o=>qdTZ n o a d m e f g h i j k l b
def qdVZ (a:Env)(b:Heap)(c:Post)(m:List Nat)(d e f g h i:Value):Prop:=ov (iaV (some (none,7)) (a 0) (a 8)) fun j=>ov (ldV (some (some 7)) j b) fun k=>callM P qaxZ #[k] b fun l n=>qdUZ a l n c m d e f g h i j k
def qeIZ (a:Value)(b:Post)(m:List Nat)(c:Env)(d e f g:Value)(h:Heap):Prop:=ov (unV UnOp.not a) fun i=>cdM i (qdRZ b m c d e f g a i h) (qdVZ c h b m d e f g a i)
def qeJZ (a:Env)(b:Heap)(c:Post)(m:List Nat)(d e:Value):Prop:=ov (iaV (some (none,7)) (a 0) (a 8)) fun f=>ov (ldV (some (some 7)) f b) fun g=>callM P qdIZ #[g] b fun h i=>qeIZ h c m a d e f g i
def qeKZ (a:Env)(b:Heap)(c:Post)(m:List Nat):Prop:=ov (lnV 7 (a 0)) fun d=>ov (binV BinOp.lss 2 false (a 8) d) fun e=>cdM e (qeJZ a b c m d e) (c (.exit 0) m (puts a [(47,(a 8)),(48,(a 0)),(49,d),(50,e)]) b)
def qeLZ (x0 x1 a b c d e f g h i j k l n o p q r s t u v w:Value)(x:Heap)(y:Post):Prop:=loopM (fun m z aa ab=>qeKZ z aa ab m) [] (puts (envOf [x0,x1]) [(4,(Value.bool false)),(18,a),(19,b),(20,b),(21,c),(22,d),(23,e),(24,f),(25,f),(26,g),(27,h),(28,i),(29,j),(30,j),(31,k),(32,l),(33,n),(34,o),(37,p),(38,q),(36,q),(39,r),(40,s),(5,r),(6,s),(41,s),(42,t),(43,t),(44,u),(45,v),(46,w),(7,(Value.slice none 0 0)),(8,(Value.int IntKind.i64 0))]) x (blkM 0 y)
def qdWZ (a:Post)(m:List Nat)(b:Env)(c d e f g h i j k l n o p q r s t u:Value)(v:Heap):Prop:=a .normal m (puts b [(70,(b 10)),(71,(b 1)),(72,c),(73,d),(76,(b 1)),(77,(b 10)),(78,e),(79,f),(80,g),(81,(b 0)),(82,h),(83,i),(11,i),(84,(b 5)),(85,(b 0)),(86,i),(87,j),(88,k),(89,l),(90,n),(12,n),(91,(b 0)),(92,i),(93,o),(94,p),(95,q),(96,r),(97,(b 7)),(98,i),(99,s),(100,t),(101,(b 5)),(102,(b 10)),(103,u)]) v
def qdXZ (a:Env)(b:Value)(c:Heap)(d:Post)(m:List Nat)(e f g h i j k l n o p q r s:Value):Prop:=ov (iaV (some (none,1)) (a 7) b) fun t=>ov (ldV (some none) t c) fun u=>callM P qahZ #[u,(a 5),(a 10)] c fun v w=>qdWZ d m a e f g h i j b k l n o p q r s t u v w
def qjoZ (a:Post)(m:List Nat)(b:Env)(c d e f g h i j k l n o p q r s t u v w x y z aa ab ac ad ae af ag ah ai aj:Value)(ak:Heap):Prop:=a .ret m (puts b [(110,(b 14)),(111,(b 0)),(112,c),(113,d),(116,(b 14)),(117,(b 11)),(118,e),(119,e),(120,f),(121,g),(122,h),(123,i),(124,j),(125,k),(126,l),(127,n),(128,o),(129,p),(130,p),(131,q),(132,r),(133,s),(134,t),(135,u),(136,u),(137,v),(138,w),(139,x),(140,y),(141,z),(142,z),(143,aa),(144,ab),(145,ab),(146,ac),(147,ad),(148,ae),(149,af),(150,ag),(151,ah),(152,ai),(153,aj),(4,(Value.bool false))]) ak
def qwZ (a:Env)(b:Post)(m:List Nat)(c d e f g h i j k l n o p q r s t u v w x y z aa ab ac ad ae af ag ah ai aj:Value)(ak:Heap):Prop:=ov (binV BinOp.add 2 true (a 14) (Value.int IntKind.i64 1)) fun al=>b .normal m (puts a [(110,(a 14)),(111,(a 0)),(112,c),(113,d),(116,(a 14)),(117,(a 11)),(118,e),(119,e),(120,f),(121,g),(122,h),(123,i),(124,j),(125,k),(126,l),(127,n),(128,o),(129,p),(130,p),(131,q),(132,r),(133,s),(134,t),(135,u),(136,u),(137,v),(138,w),(139,x),(140,y),(141,z),(142,z),(143,aa),(144,ab),(145,ab),(146,ac),(147,ad),(148,ae),(149,af),(150,ag),(151,ah),(152,ai),(153,aj),(114,(a 14)),(115,al),(14,al)]) ak
def qdYZ (a:Env)(b:Heap)(c:Post)(m:List Nat)(d e:Value):Prop:=ov (binV BinOp.neq 2 false (a 14) (a 11)) fun f=>gM (isB f true) (fun g=>g (a 5) b) b fun h i=>gM (isB f true) (fun j=>j (a 0) i) i fun k l=>gM (isB f true) (fun n=>n (a 14) l) l fun o p=>gM (isB f true) (fun q=>ov (iaV (some (none,7)) k o) fun r=>q r p) p fun s t=>gM (isB f true) (fun u=>ov (faV (some 1) s) fun v=>u v t) t fun w x=>gM (isB f true) (fun y=>ov (ldV (some none) w x) fun z=>y z x) x fun aa ab=>gM (isB f true) (fun ac=>callM P qbHZ #[h,aa] ab fun ad ae=>ac ad ae) ab fun af ag=>gM (isB f true) (fun ah=>ah (a 12) ag) ag fun ai aj=>gM (isB f true) (fun ak=>ov (binV BinOp.eql 2 false af ai) fun al=>ak al aj) aj fun am an=>ov (pkV f am (Value.bool false)) fun ao=>gM (isB ao true) (fun ap=>ap (a 14) an) an fun aq ar=>gM (isB ao true) (fun au=>ov (iaV (some (some 8,1)) (a 9) aq) fun av=>au av ar) ar fun aw ax=>gM (isB ao true) (fun ay=>ov (ldV (some none) aw ax) fun az=>ay az ax) ax fun ba bb=>gM (isB ao true) (fun bc=>ov (binV BinOp.gtr 2 true ba (Value.int IntKind.i64 0)) fun bd=>bc bd bb) bb fun be bf=>ov (pkV ao be (Value.bool false)) fun bg=>gM (isB bg true) (fun bh=>bh (a 14) bf) bf fun bi bj=>gM (isB bg true) (fun bk=>ov (iaV (some (some 8,1)) (a 9) bi) fun bl=>bk bl bj) bj fun bm bn=>gM (isB bg true) (fun bo=>ov (ldV (some none) bm bn) fun bp=>bo bp bn) bn fun bq br=>gM (isB bg true) (fun bs=>ov (binV BinOp.lss 2 true bq (Value.int IntKind.i64 7)) fun bt=>bs bt br) br fun bu bv=>ov (pkV bg bu (Value.bool false)) fun bw=>gM (isB bw true) (fun bx=>bx (a 13) bv) bv fun bz ca=>ov (pkV bw bz (Value.bool false)) fun cb=>gM (isB cb true) (fun cc=>cc (a 0) ca) ca fun cd ce=>gM (isB cb true) (fun cf=>cf (a 14) ce) ce fun cg ch=>gM (isB cb true) (fun ci=>ov (iaV (some (none,7)) cd cg) fun cj=>ci cj ch) ch fun ck cl=>gM (isB cb true) (fun cm=>ov (ldV (some (some 7)) ck cl) fun cn=>cm cn cl) cl fun co cp=>gM (isB cb true) (fun cq=>callM P qaxZ #[co] cp fun cr cs=>cq cr cs) cp fun ct cu=>gM (isB cb true) (fun cv=>callM P qdhZ #[ct] cu fun cw cx=>cv cw cx) cu fun cy cz=>gM (isB cb true) (fun da=>ov (unV UnOp.not cy) fun db=>da db cz) cz fun dc dd=>ov (pkV cb dc (Value.bool false)) fun de=>cdM de (qjoZ c m a d e f h k o s w aa af ai am ao aq aw ba be bg bi bm bq bu bw bz cb cd cg ck co ct cy dc de dd) (qwZ a c m d e f h k o s w aa af ai am ao aq aw ba be bg bi bm bq bu bw bz cb cd cg ck co ct cy dc de dd)
def qdZZ (a:Env)(b:Heap)(c:Post)(m:List Nat):Prop:=ov (lnV 7 (a 0)) fun d=>ov (binV BinOp.lss 2 false (a 14) d) fun e=>cdM e (qdYZ a b c m d e) (c (.exit 4) m (puts a [(110,(a 14)),(111,(a 0)),(112,d),(113,e)]) b)
def qeaZ (m:List Nat)(a:Env)(b c d e f g h i j k l n o p q r s t:Value)(u:Heap)(v:Post):Prop:=loopM (fun m w x y=>qdZZ w x y m) m (puts a [(70,(a 10)),(71,(a 1)),(72,b),(73,c),(76,(a 1)),(77,(a 10)),(78,d),(79,e),(80,f),(81,(a 0)),(82,g),(83,h),(11,h),(84,(a 5)),(85,(a 0)),(86,h),(87,i),(88,j),(89,k),(90,l),(12,l),(91,(a 0)),(92,h),(93,n),(94,o),(95,p),(96,q),(104,(a 7)),(105,h),(106,r),(107,s),(108,(a 5)),(109,t),(13,t),(14,(Value.int IntKind.i64 0))]) u (blkM 4 v)
def qebZ (a:Env)(b:Heap)(c:Post)(m:List Nat)(d e f g h i j:Value):Prop:=ov (iaV (some (some 8,1)) (a 9) (a 11)) fun k=>ov (ldV (some none) k b) fun l=>ov (binV BinOp.add 2 true l (Value.int IntKind.i64 1)) fun n=>ov (iaV (some (some 8,1)) (a 9) (a 11)) fun o=>stM (some 1) o n b fun p=>c .normal m (puts a [(154,(a 5)),(155,(a 12)),(156,d),(157,e),(15,e),(158,(a 11)),(159,f),(160,g),(16,g),(161,(a 7)),(162,(a 11)),(163,h),(164,i),(165,(a 5)),(166,(a 10)),(167,j),(168,(a 13)),(169,(a 11)),(170,k),(171,l),(172,n),(173,o)]) p
def qecZ (a:Post)(m:List Nat)(b:Env)(c d e f g h i:Value)(j:Heap):Prop:=a .normal m (puts b [(154,(b 5)),(155,(b 12)),(156,c),(157,d),(15,d),(158,(b 11)),(159,e),(160,f),(16,f),(161,(b 7)),(162,(b 11)),(163,g),(164,h),(165,(b 5)),(166,(b 10)),(167,i),(168,(b 13))]) j
def qedZ (a:Env)(b:Heap)(c:Post)(m:List Nat)(d e f g h i j:Value):Prop:=cdM (a 13) (qebZ a b c m d e f g h i j) (qecZ c m a d e f g h i j b)
def qjpZ (a:Post)(m:List Nat)(b:Env)(c d e f g h i j k:Value)(l:Heap):Prop:=a .ret m (puts b [(174,(b 16)),(175,c),(176,c),(177,d),(178,e),(179,f),(180,g),(181,h),(182,i),(183,j),(184,k),(4,(Value.bool false))]) l
def qjqZ (a:Post)(m:List Nat)(b:Env)(c d e f g h i j k l n o p q r s t u v w x y z:Value)(aa:Heap):Prop:=a .ret m (puts b [(174,(b 16)),(175,c),(176,c),(177,d),(178,e),(179,f),(180,g),(181,h),(182,i),(183,j),(184,k),(185,(b 5)),(186,(b 12)),(187,l),(188,n),(189,o),(17,o),(190,o),(191,(b 11)),(192,p),(193,q),(194,r),(195,r),(196,s),(197,t),(198,u),(199,v),(200,w),(201,x),(202,x),(203,y),(204,z),(4,(Value.bool false))]) aa
def qlZ (a:Post)(m:List Nat)(b:Env)(c d e f g h i j k l n o p q r s t u v w x y z:Value)(aa:Heap):Prop:=a .normal m (puts b [(174,(b 16)),(175,c),(176,c),(177,d),(178,e),(179,f),(180,g),(181,h),(182,i),(183,j),(184,k),(185,(b 5)),(186,(b 12)),(187,l),(188,n),(189,o),(17,o),(190,o),(191,(b 11)),(192,p),(193,q),(194,r),(195,r),(196,s),(197,t),(198,u),(199,v),(200,w),(201,x),(202,x),(203,y),(204,z)]) aa
def qeeZ (a:Value)(b:Env)(c:Heap)(d:Post)(m:List Nat)(e f g h i j k l n:Value):Prop:=ov (binV BinOp.rem 2 true a (Value.int IntKind.u64 2)) fun o=>ov (binV BinOp.eql 2 true o (Value.int IntKind.u64 1)) fun p=>ov (iaV (some (some 8,1)) (b 9) (b 11)) fun q=>ov (ldV (some none) q c) fun r=>ov (binV BinOp.geq 2 true r (Value.int IntKind.i64 2)) fun s=>gM (isB s true) (fun t=>t (b 11) c) c fun u v=>gM (isB s true) (fun w=>ov (iaV (some (some 8,1)) (b 9) u) fun x=>w x v) v fun y z=>gM (isB s true) (fun aa=>ov (ldV (some none) y z) fun ab=>aa ab z) z fun ac ad=>gM (isB s true) (fun ae=>ov (binV BinOp.lss 2 true ac (Value.int IntKind.i64 6)) fun af=>ae af ad) ad fun ag ah=>ov (pkV s ag (Value.bool false)) fun ai=>ov (binV BinOp.neq 1 false p ai) fun aj=>gM (isB aj true) (fun ak=>ak (b 13) ah) ah fun al am=>ov (pkV aj al (Value.bool false)) fun an=>cdM an (qjqZ d m b e f g h i j k l n a o p q r s u y ac ag ai aj al an am) (qlZ d m b e f g h i j k l n a o p q r s u y ac ag ai aj al an am)
def qcAZ (a:Env)(b:Heap)(c:Post)(m:List Nat)(d e f g h i j k l:Value):Prop:=callM P qfnZ #[(a 5),(Value.int IntKind.i64 9),(a 12)] b fun n o=>qeeZ n a o c m d e f g h i j k l
def qcBZ (a:Env)(b:Heap)(c:Post)(m:List Nat):Prop:=ov (binV BinOp.neq 2 true (a 16) (Value.int IntKind.i64 4)) fun d=>gM (isB d true) (fun e=>e (a 5) b) b fun f g=>gM (isB d true) (fun h=>h (a 12) g) g fun i j=>gM (isB d true) (fun k=>callM P qdHZ #[f,(Value.int IntKind.i64 9),i] j fun l n=>k l n) j fun o p=>gM (isB d true) (fun q=>callM P qcIZ #[o] p fun r s=>q r s) p fun t u=>gM (isB d true) (fun v=>v (a 15) u) u fun w x=>gM (isB d true) (fun y=>callM P qerZ #[t,w] x fun z aa=>y z aa) x fun ab ac=>gM (isB d true) (fun ad=>ov (unV UnOp.not ab) fun ae=>ad ae ac) ac fun af ag=>ov (pkV d af (Value.bool false)) fun ah=>cdM ah (qjpZ c m a d f i o t w ab af ah ag) (qcAZ a ag c m d f i o t w ab af ah)
def qefZ (a:Env)(b:Heap)(m:List Nat)(c d e f g h i:Value)(j:Post):Prop:=seqM (fun k=>qedZ a b k m c d e f g h i) (fun m l n=>qcBZ l n j m) (blkM 3 j)
def qegZ (a:Env)(b:Heap)(m:List Nat)(c d:Value)(e:Post):Prop:=ov (iaV (some (some 8,1)) (a 9) (a 11)) fun f=>ov (ldV (some none) f b) fun g=>ov (iaV (some (none,1)) (a 7) (a 11)) fun h=>ov (ldV (some none) h b) fun i=>callM P qahZ #[i,(a 5),(a 10)] b fun j k=>qefZ a k m c d f g h i j e
def qehZ (a:Value)(b:Heap)(c:Env)(m:List Nat)(d:Post):Prop:=callM P qcIZ #[a] b fun e f=>qegZ c f m a e d
def qcCZ (a:Env)(b:Heap)(m:List Nat)(c:Post):Prop:=callM P qdHZ #[(a 5),(Value.int IntKind.i64 9),(a 12)] b fun d e=>qehZ d e a m c
def qeiZ (m:List Nat)(a:Env)(b c d e f g h i j k l n o p q r s t:Value)(u:Heap)(v:Post):Prop:=seqM (fun w=>qeaZ m a b c d e f g h i j k l n o p q r s t u w) (fun m x y=>qcCZ x y m v) (blkM 3 v)
def qcDZ (a:Env)(b:Value)(c:Heap)(m:List Nat)(d e f g h i j k l n o p q r:Value)(s:Post):Prop:=ov (iaV (some (none,1)) (a 7) b) fun t=>ov (ldV (some none) t c) fun u=>callM P qcHZ #[u,(a 5)] c fun v w=>qeiZ m a d e f g h i b j k l n o p q r t u v w s
def qejZ (a:Value)(b:Env)(c:Value)(d:Heap)(e:Post)(m:List Nat)(f g h i j k l n o p q r s:Value):Prop:=cdM a (qdXZ b c d e m f g h i j k l n o p q r s a) (qcDZ b c d m f g h i j k l n o p q r s a e)
def qekZ (a:Value)(b:Heap)(c:Env)(d:Value)(e:Post)(m:List Nat)(f g h i j k l n o p q r:Value):Prop:=callM P qdhZ #[a] b fun s t=>qejZ s c d t e m f g h i j k l n o p q r a
def qelZ (a:Env)(b:Value)(c:Heap)(d:Post)(m:List Nat)(e f g h i j k l n o:Value):Prop:=ov (iaV (some (none,7)) (a 0) b) fun p=>ov (ldV (some (some 7)) p c) fun q=>callM P qaxZ #[q] c fun r s=>qekZ r s a b d m e f g h i j k l n o p q
def qcEZ (a:Env)(b:Heap)(c:Post)(m:List Nat)(d e:Value):Prop:=ov (iaV (some (none,1)) (a 1) (a 10)) fun f=>ov (ldV (some none) f b) fun g=>ov (cvV (some .i64) g) fun h=>ov (lnV 7 (a 0)) fun i=>ov (binV BinOp.rem 2 false h i) fun j=>ov (iaV (some (none,7)) (a 0) j) fun k=>ov (faV (some 1) k) fun l=>ov (ldV (some none) l b) fun n=>callM P qbHZ #[(a 5),n] b fun o p=>qelZ a j p c m d e f g h i k l n o
def qemZ (a:Env)(b:Heap)(m:List Nat)(c d:Value)(e:Post):Prop:=seqM (fun f=>qcEZ a b f m c d) (fun m g h=>ov (binV BinOp.add 2 true (g 10) (Value.int IntKind.i64 1)) fun i=>e .normal m (puts g [(74,(g 10)),(75,i),(10,i)]) h) e
def qenZ (a:Env)(b:Heap)(m:List Nat)(c:Post):Prop:=ov (lnV 7 (a 1)) fun d=>ov (binV BinOp.lss 2 false (a 10) d) fun e=>cdM e (qemZ a b m d e c) (c (.exit 2) m (puts a [(70,(a 10)),(71,(a 1)),(72,d),(73,e)]) b)
def qeoZ (m:List Nat)(a:Env)(b:Value)(c:Heap)(d:Post):Prop:=loopM (fun m e f g=>qenZ e f m g) m (puts a [(9,b),(10,(Value.int IntKind.i64 0))]) c (blkM 2 d)
def qepZ (a:Heap)(m:List Nat)(b:Env)(K:KTy):Prop:=nwM (zc P ty_8_int) ty_8_int a fun c d=>seqM (fun e=>qeoZ m b c d e) (fun m f g=>(retM P [.tmp 4] K) .ret m (puts f [(4,(Value.bool true))]) g) (retM P [.tmp 4] K)
def qeMZ (x0 x1 a b c d e f g h i j k l n o p q r s t u v w:Value)(x:Heap)(K:KTy):Prop:=seqM (fun y=>qeLZ x0 x1 a b c d e f g h i j k l n o p q r s t u v w x y) (fun m z aa=>qepZ aa m z K) (retM P [.tmp 4] K)
def qeNZ (a:Value)(b:Heap)(K:KTy)(x0 x1 c d e f g h i j k l m n o p q:Value):Prop:=ov (exV a 0) fun r=>ov (exV a 1) fun s=>ov (binV BinOp.neq 2 true s (Value.int IntKind.i64 0)) fun t=>gM (isB t false) (fun u=>u r b) b fun v w=>gM (isB t false) (fun x=>ov (binV BinOp.eql 4 true v (Value.pointer none)) fun y=>x y w) w fun z aa=>ov (pkV t (Value.bool true) z) fun ab=>cdM ab (K (Value.bool false) aa) (qeMZ x0 x1 c d e f g h i j k l m n o p q a r s t v z ab aa K)
def qeOZ (a:Value)(b:Heap)(K:KTy)(x0 x1 c d e f g h i j k l m n o p:Value):Prop:=callM P qiTZ #[a] b fun q r=>qeNZ q r K x0 x1 c d e f g h i j k l m n o p a
def qePZ (a:Heap)(K:KTy)(x0 x1 b c d e f g h i j k l m n o:Value):Prop:=callM P qcGZ #[] a fun p q=>qeOZ p q K x0 x1 b c d e f g h i j k l m n o
def qeQZ (a x0:Value)(b:Heap)(x1:Value)(K:KTy):Prop:=ov (unV UnOp.not a) fun c=>gM (isB c false) (fun d=>d x0 b) b fun e f=>gM (isB c false) (fun g=>ov (lnV 7 e) fun h=>g h f) f fun i j=>gM (isB c false) (fun k=>ov (binV BinOp.eql 2 true i (Value.int IntKind.i64 0)) fun l=>k l j) j fun m n=>ov (pkV c (Value.bool true) m) fun o=>gM (isB o false) (fun p=>p x0 n) n fun q r=>gM (isB o false) (fun s=>ov (lnV 7 q) fun t=>s t r) r fun u v=>gM (isB o false) (fun w=>ov (binV BinOp.gtr 2 true u (Value.int IntKind.i64 8)) fun x=>w x v) v fun y z=>ov (pkV o (Value.bool true) y) fun aa=>gM (isB aa false) (fun ab=>ab x1 z) z fun ac ad=>gM (isB aa false) (fun ae=>ov (lnV 7 ac) fun af=>ae af ad) ad fun ag ah=>gM (isB aa false) (fun ai=>ov (binV BinOp.gtr 2 true ag (Value.int IntKind.i64 300)) fun aj=>ai aj ah) ah fun ak al=>ov (pkV aa (Value.bool true) ak) fun am=>cdM am (callM P qaYZ #[] al fun an ao=>K an ao) (qePZ al K x0 x1 a c e i m o q u y aa ac ag ak am)
def qdgZ (x0 x1:Value)(h:Heap)(K:KTy):Prop:=callM P qaYZ #[] h fun a b=>qeQZ a x0 b x1 K
variable {K:KTy}
theorem qjZZ {x0 x1:Value}{h:Heap}(hd:qdgZ x0 x1 h K):callM P qdaZ #[x0,x1] h K :=
 call_of good mixed (fn:=Tryz.f6) (args:=[x0,x1]) Tryz.func6 rfl (by kernel_rfl) (of_decide_eq_true rfl) (B:=qdgZ x0 x1 h K) (by kernel_rfl) hd
end Go.Proofs.YtcnphhhcknhhaaaGreat
namespace Go.Proofs.YtcnphhhcknhhaaaGreat
open Go Go.Den Go.MapKept
set_option linter.unusedSimpArgs false
set_option linter.unusedVariables false
set_option maxRecDepth 20000
def UO (t:Tag):Prop:=UW t∨t=[6]∨t=lc
theorem UO.nil:¬ UO []:=by
 rintro (h | h | h)
 ·exact UW.nil h
 ·cases h
 ·simp -implicitDefEqProofs[lc] at h
def stN (W:Wd)(i:Nat):Nat:=match W.ps i with
 | some (.w q)=>if q.k.isBad then 0 else q.at_
 | _=>0
def stC (f:Nat→Nat):List Value:=(List.range 8).map fun i=>.int .i64 (f i)
theorem stC_at {h:Heap}{b:Nat}{f:Nat→Nat}(c:h b=some (.cells (stC f).toArray ty_8_int (0,0))){i:Nat}(hi:i<8):cel h b i=some (.int .i64 (f i)):=by
 rw[cel_of c]; simp[stC,hi]
theorem ia8 (b:Nat){i:Nat}(hi:i<8):iaV (some (some 8,1)) (ptr b) (.int .i64 i)=some (.pointer (some ⟨b,i,none⟩)):=by
 have:(0:Int)≤i∧(i:Int)<8:=by omega
 simp -implicitDefEqProofs[iaV,this]
theorem stC_over (f:Nat→Nat){i:Nat}(hi:i<8)(x:Nat):over (stC f).toArray i [.int .i64 x]=(stC (bset f i x)).toArray:=by
 have e:∀ g:Nat→Nat,stC g=[.int .i64 (g 0),.int .i64 (g 1),.int .i64 (g 2),.int .i64 (g 3),.int .i64 (g 4),.int .i64 (g 5),.int .i64 (g 6),.int .i64 (g 7)]:=fun g=>by simp[stC,List.range_succ]
 rw[e,e]
 have hc:i=0∨i=1∨i=2∨i=3∨i=4∨i=5∨i=6∨i=7:=by omega
 rcases hc with rfl | rfl | rfl | rfl | rfl | rfl | rfl | rfl<;>simp[over,bset]
theorem stC_set {h:Heap}{b:Nat}{f:Nat→Nat}(c:h b=some (.cells (stC f).toArray ty_8_int (0,0))){i:Nat}(hi:i<8)(x:Nat){K:Heap→Prop}:stM (some 1) (.pointer (some ⟨b,i,none⟩)) (.int .i64 x) h K=K (upd h b (.cells (stC (bset f i x)).toArray ty_8_int (0,0))):=by
 rw[stm_at c (by simp) (by simp[stC]; omega) (by simp)]
 rw[show (Value.int .i64 (x:Int)).cells.toList=[.int .i64 x] from rfl,stC_over f hi x]
structure WoW (nw N m:Nat)(ws:List OpD)(hp:Nat)(X:Nat→OpD)(A:Nat→Nat)(W:Wd)(M:Tbl)(T':Tags)(h':Heap):Prop where
 x:WdM T' h' hp A W
 k:WdK m W M
 c:W.H.c=small
 n:W.H.n=3
 p:∀ i,i<nw→∃ q,W.ps i=some (.w q)∧q.k=wkOf (X i)∧q.s=(stripeOf (X i).user 3).toNat
 e:∀ i,nw≤i→W.ps i=none
 v:∀ s,(W.H.ss s).v≤sumW W.ps 8
 b:BD W.H
section
variable {nw m hp n i:Nat}{ws:List OpD}{X:Nat→OpD}{A:Nat→Nat}{W:Wd}{M:Tbl}{T' T'':Tags}{h' h'':Heap}
theorem WoW.ext (y:WoW nw 3 m ws hp X A W M T' h')(w:Wf T' h')(e:Ext h' h''):WoW nw 3 m ws hp X A W M T' h'':=⟨y.x.ext w e,y.k,y.c,y.n,y.p,y.e,y.v,y.b⟩
theorem WoW.kp {U:Tag→Prop}(y:WoW nw 3 m ws hp X A W M T' h')(o:Only U T' h' T'' h'')(f:∀ t,UW t→¬ U t)(nn:¬ U []):WoW nw 3 m ws hp X A W M T'' h'':=⟨y.x.up o f nn,y.k,y.c,y.n,y.p,y.e,y.v,y.b⟩
theorem WoW.did (y:WoW nw 3 m ws hp X A W M T' h')(o:Only (pre [1]) T' h' T'' h''){w k p:Int}(x:HallR T'' h'' [1] hp (W.H.did w k p)):WoW nw 3 (m+1) ws hp X A { W with H:=W.H.did w k p } M T'' h'' :=
 ⟨⟨x,fun j p hp=>(y.x.ps j p hp).kp o.k (d12i j) (by simp[pre])⟩,⟨y.k.li.did w k p,y.k.hs.did w k p,y.k.ts.mono (by omega)⟩,y.c,y.n,y.p,y.e,y.v,y.b⟩
variable {K:KTy}
theorem wo_step (y:WoW nw 3 m ws hp X A W M T' h')(w:Wf T' h')(hm:m<100000)(hn:nw≤8)(hi:i<nw){q:WP}(hp':W.ps i=some (.w q))(z:Int)
  (hK:∀ T'' h'' M',Only UW T' h' T'' h''→WoW nw 3 (m+1) ws hp X A (W.step i z) M' T'' h''→K (.tuple #[]) h''):callM P qahZ #[ptr (A i),ptr hp,.int .i64 z] h' K:=by
 refine wdstep_w z w y.x y.k hm hp' fun T2 h2 o2 x2=>?_
 have hst:W.step i z=⟨(q.step W.H z).2,bset W.ps i (some (.w (q.step W.H z).1)),bset W.ms i (W.ms i)⟩:=by simp only[Wd.step,hp',PR.step]
 have hnn:=wstep_n q W.H z
 refine hK T2 h2 _ o2 ⟨x2,y.k.step hm hp' z,by rw[hst]; exact hnn.2.trans y.c,by rw[hst]; exact hnn.1.trans y.n,fun j hj=>?_,fun j hj=>?_,fun s=>?_,y.k.li.bd_step y.k.hs hm hp' z y.b⟩
 ·by_cases h:j=i
  ·subst h
   obtain⟨q',e1,e2,e3⟩:=y.p j hj
   rw[hp'] at e1; cases e1
   obtain⟨k1,k2,k3⟩:=wstep_k q W.H z
   exact⟨_,by rw[Wd.step_ps hp',if_pos rfl]; rfl,k1.trans e2,k3.trans e3⟩
  ·rw[Wd.step_ps hp',if_neg h]; exact y.p j hj
 ·rw[Wd.step_ps hp',if_neg (by omega)]; exact y.e j hj
 ·have h1:=wv_step q W.H z s
  have h2:=sumW_set (ps:=W.ps) (some (.w (q.step W.H z).1)) (show i<8 by omega)
  rw[hst]
  dsimp only
  rw[hp'] at h2
  simp -implicitDefEqProofs only[fO] at h2
  have:=y.v s
  omega
theorem WoW.alone (y:WoW nw 3 m ws hp X A W M T' h'){k:Nat}(hi:i<nw)(hk:k<nw)(hne:k≠i){q r:WP}(hq:W.ps i=some (.w q))(hr:W.ps k=some (.w r))(hb:q.k.isBad=false)(hs:r.s=q.s)(he:q.enabled W.H=true)(h0:0<stN W k)(h7:stN W k<7):False:=by
 unfold stN at h0 h7
 rw[hr] at h0 h7
 dsimp only at h0 h7
 have hrb:r.k.isBad=false:=by
  cases h:r.k.isBad with
  | false=>rfl
  | true=>rw[h] at h0; simp at h0
 rw[hrb] at h0 h7
 simp -implicitDefEqProofs only[Bool.false_eq_true,if_false] at h0 h7
 have hsn:q.s<W.H.n:=(y.k.li.pa i _ hq).1.s
 have hw:=y.k.li.own k _ q.s hsn hr ⟨hrb,h0,by omega,hs.symm⟩
 have hl:=enabled_at he
 by_cases h:q.at_=0
 ·have hwt:q.waits=q.s:=by simp[WP.waits,hb,h]
  simp -implicitDefEqProofs[WP.enabled,hwt] at he
  omega
 ·have:=y.k.li.own i _ q.s hsn hq ⟨hb,by omega,by omega,rfl⟩
  omega
theorem wstep_at2 {q:WP}{H:Hall}(z:Int)(hb:q.k.isBad=false):(q.step H z).1.at_=if q.enabled H=true then q.at_+1 else q.at_:=by
 unfold WP.step
 split
 ·rename_i he
  rw[if_neg (by simp[hb])]
  exact stp_at q H z (enabled_at he)
 ·rfl
end
end Go.Proofs.YtcnphhhcknhhaaaGreat
namespace Go.Proofs.YtcnphhhcknhhaaaGreat
open Go Go.Den Go.MapKept
set_option linter.unusedSimpArgs false
set_option linter.unusedVariables false
set_option maxRecDepth 20000
def WoK (h2:Heap)(nw:Nat)(jv:Value)(h':Heap):Prop:=∃ k:Nat,Ext h2 h'∧jv = .int .i64 k∧k≤nw
structure WoI (T5:Tags)(h5:Heap)(hp m:Nat)(ws:List OpD)(X:Nat→OpD)(A:Nat→Nat)(av:Value)(bx:Nat)(f:Nat→Nat)(W:Wd)(M:Tbl)(T':Tags)(h':Heap):Prop where
 o:Only UO T5 h5 T' h'
 y:WoW ws.length 3 m ws hp X A W M T' h'
 a:Rw T' h' [6] 1 qcWZ av ws.length (seqF ws.length fun i=>[ptr (A i)])
 b:h' bx=some (.cells (stC f).toArray ty_8_int (0,0))∧T' bx=lc
def WoJ (T5:Tags)(h5:Heap)(hp m:Nat)(ws:List OpD)(X:Nat→OpD)(A:Nat→Nat)(av:Value)(bx:Nat)(h':Heap):Prop:=∃ (T':Tags) (W:Wd) (M:Tbl),WoI T5 h5 hp m ws X A av bx (stN W) W M T' h'
section
variable {T5 T' T'':Tags}{h5 h' h'':Heap}{hp m n i bx:Nat}{ws:List OpD}{ts:List Int}{X:Nat→OpD}{A:Nat→Nat}{av v bv:Value}{W:Wd}{M:Tbl}{f:Nat→Nat}
theorem uoW:∀ t,UW t→¬ (t=[6]∨t=lc):=fun t h hh=>by
 rcases hh with rfl | rfl
 ·rcases h with h | h<;>simp[pre] at h
 ·rcases h with h | h<;>simp[pre,lc] at h
theorem WoI.ext (y:WoI T5 h5 hp m ws X A av bx f W M T' h')(e:Ext h' h''):WoI T5 h5 hp m ws X A av bx f W M T' h'' :=
 have o:=Only.of_ext (U:=non) y.o.wf e
 ⟨y.o.up o non_up,y.y.ext y.o.wf e,y.a.kp o.k (not_non _),e _ _ y.b.1,y.b.2⟩
theorem WoI.row (y:WoI T5 h5 hp m ws X A av bx f W M T' h')(hi:i<ws.length):∃ b,iaV (some (none,1)) av (.int .i64 i)=some (.pointer (some ⟨b,i,none⟩))∧cel h' b i=some (ptr (A i)):=by
 obtain⟨b,_,h1,h2⟩:=row1_at (k:=.i64) y.a.1 hi
 exact⟨b,h1,h2⟩
theorem WoI.go {W':Wd}{M':Tbl}{m':Nat}(y:WoI T5 h5 hp m ws X A av bx f W M T' h')(o:Only UW T' h' T'' h'')(y':WoW ws.length 3 m' ws hp X A W' M' T'' h''):WoI T5 h5 hp m' ws X A av bx f W' M' T'' h'' :=
 ⟨y.o.trans (o.mono fun _=>.inl),y',y.a.kp o.k (fun h=>uoW _ h (.inl rfl)),o.k.at y.b.1 y.b.2 fun h=>uoW _ h (.inr rfl)⟩
theorem WoI.did (y:WoI T5 h5 hp m ws X A av bx f W M T' h')(o:Only (pre [1]) T' h' T'' h''){w k p:Int}(x:HallR T'' h'' [1] hp (W.H.did w k p)):WoI T5 h5 hp (m+1) ws X A av bx f { W with H:=W.H.did w k p } M T'' h'' :=
 y.go (o.mono fun _=>.inl) (y.y.did o x)
theorem WoI.mono {k:Nat}(y:WoI T5 h5 hp m ws X A av bx f W M T' h')(h:m≤k):WoI T5 h5 hp k ws X A av bx f W M T' h' :=
 ⟨y.o,⟨y.y.x,⟨y.y.k.li,y.y.k.hs.mono h,y.y.k.ts.mono h⟩,y.y.c,y.y.n,y.y.p,y.y.e,y.y.v,y.y.b⟩,y.a,y.b⟩
structure TwE (v bv av:Value)(hp bx n:Nat)(s:Env):Prop where
 s0:s 0=v
 s1:s 1=bv
 s4:s 4 = .bool false
 s5:s 5=ptr hp
 s7:s 7=av
 s9:s 9=ptr bx
 s10:s 10 = .int .i64 n
set_option maxHeartbeats 8000000 in
theorem wo39 (hn:n<300)(hm:m<10000)(y:WoI T5 h5 hp m ws X A av bx (stN W) W M T' h'){s:Env}(t:TwE v bv av hp bx n s)(hi:i<ws.length)(h8:ws.length≤8){q:WP}(hq:W.ps i=some (.w q))(hb:q.k.isBad=false){can:Bool}{before:Nat}{wv:Value}{b0:Book}
  (s11:s 11 = .int .i64 i) (s12:s 12 = .int .i64 q.s) (s13:s 13 = .bool can) (s15:s 15=wv) (s16:s 16 = .int .i64 before) (hw:Sl 5 UsrR (fz T' h') wv b0) (hsn:before≠4→(W.H.ss q.s).snap=b0)
  (hcan:can=true→1≤q.at_) (h7:can=true→q.at_=7→(W.H.ss q.s).who=0) {Q:Post}
  (hQ:∀ s' h'',TwE v bv av hp bx n s'→WoJ T5 h5 hp (m+2) ws X A av bx h''→Q .normal [] s' h''):qcBZ s h' Q []:=by
 obtain⟨t0,t1,t4,t5,t7,t9,t10⟩:=t
 have hsn3:q.s<3:=by have:=(y.y.k.li.pa i _ hq).1.s; rw[y.y.n] at this; exact this
 have hsN:q.s<W.H.n:=by rw[y.y.n]; exact hsn3
 have ac:=y.y.k.hs.ac
 -- the epoch
 have tail:∀ (s':Env) (T'':Tags) (h'':Heap) (W':Wd),W'.ps=W.ps→W'.H.ss=W.H.ss→WoI T5 h5 hp (m+1) ws X A av bx (stN W') W' M T'' h''→TwE v bv av hp bx n s'→s' 11 = .int .i64 i→s' 12 = .int .i64 q.s→s' 13 = .bool can→∀ a1 a2 a3 a4 a5 a6 a7 a8 a9:Value,qcAZ s' h'' Q [] a1 a2 a3 a4 a5 a6 a7 a8 a9:=by
  intro s' T2 h2 W2 e1 e2 y2 t' q11 q12 q13 a1 a2 a3 a4 a5 a6 a7 a8 a9
  obtain⟨t0,t1,t4,t5,t7,t9,t10⟩:=t'
  have ac2:=y2.y.k.hs.ac
  unfold qcAZ
  simp -implicitDefEqProofs only[t5,q12]
  refine epoch_ok 9 (s:=q.s) y2.o.wf g1 y2.y.x.hl (by rw[y2.y.n]; exact hsn3) (by rw[y2.y.n]; omega) (by omega) fun T3 h3 o3 x3=>?_
  have y3:=y2.did o3 x3
  have hss:(W2.H.ss q.s)=W.H.ss q.s:=by rw[e2]
  rw[hss]
  have hv:=y.y.v q.s
  have hsw:=sumW_le W.ps 8
  have hbd:=y.y.b q.s hsN
  have hbd:(W.H.ss q.s).bound=100:=by rw[hbd,y.y.c]; rfl
  have hst:=(y.y.k.hs.st q.s hsN).wr.1
  have hv0:0≤(W.H.ss q.s).v:=hst.1
  have hrem:((W.H.ss q.s).v).tmod 2=(W.H.ss q.s).v % 2:=Int.tmod_eq_emod_of_nonneg hv0
  have c9:=stC_at y3.b.1 (i:=i) (by omega)
  have hstN:stN W2 i=q.at_:=by unfold stN; rw[e1,hq]; simp[hb]
  have hstN3:stN W2 i=q.at_:=hstN
  rw[hstN3] at c9
  unfold qeeZ
  have hodd:can=true→wrt (W.H.ss q.s).v=decide (2≤q.at_∧q.at_<6):=fun hc=>y.y.k.li.odd hq hb (hcan hc) (by omega) (h7 hc)
  have i8:=ia8 bx (show i<8 by omega)
  have fin:∀ s'':Env,TwE v bv av hp bx n s''→Q .normal [] s'' h3:=fun s'' a=>hQ s'' h3 a ⟨T3,{ W2 with H:=W2.H.did 9 3 (4*q.s+2) },M,y3⟩
  have hwd:∀ x:Int,wrt x=decide (x % 2=1):=fun x=>by simp[wrt]
  by_cases b2:2≤q.at_
  ·have b2':(2:Int)≤q.at_:=by omega
   by_cases b6:q.at_<6
   ·have b6':(q.at_:Int)<6:=by omega
    cases can with
    | false =>
     by_cases hv2:(W.H.ss q.s).v % 2=1
     ·simp -implicitDefEqProofs[hrem,t9,q11,i8,c9,q13,b2',b6',hv2]
      unfold qlZ
      exact fin _ ⟨by simp[t0],by simp[t1],by simp[t4],by simp[t5],by simp[t7],by simp[t9],by simp[t10]⟩
     ·simp -implicitDefEqProofs[hrem,t9,q11,i8,c9,q13,b2',b6',hv2]
      unfold qlZ
      exact fin _ ⟨by simp[t0],by simp[t1],by simp[t4],by simp[t5],by simp[t7],by simp[t9],by simp[t10]⟩
    | true =>
     have hv2:(W.H.ss q.s).v % 2=1:=by
      have:=hodd rfl
      rw[hwd,decide_eq_true (show 2≤q.at_∧q.at_<6 from ⟨b2,b6⟩)] at this
      simpa using this
     simp -implicitDefEqProofs[hrem,t9,q11,i8,c9,q13,b2',b6',hv2]
     unfold qlZ
     exact fin _ ⟨by simp[t0],by simp[t1],by simp[t4],by simp[t5],by simp[t7],by simp[t9],by simp[t10]⟩
   ·have b6':¬ (q.at_:Int)<6:=by omega
    cases can with
    | false =>
     by_cases hv2:(W.H.ss q.s).v % 2=1
     ·simp -implicitDefEqProofs[hrem,t9,q11,i8,c9,q13,b2',b6',hv2]
      unfold qlZ
      exact fin _ ⟨by simp[t0],by simp[t1],by simp[t4],by simp[t5],by simp[t7],by simp[t9],by simp[t10]⟩
     ·simp -implicitDefEqProofs[hrem,t9,q11,i8,c9,q13,b2',b6',hv2]
      unfold qlZ
      exact fin _ ⟨by simp[t0],by simp[t1],by simp[t4],by simp[t5],by simp[t7],by simp[t9],by simp[t10]⟩
    | true =>
     have hv2:¬ (W.H.ss q.s).v % 2=1:=by
      have:=hodd rfl
      rw[hwd,decide_eq_false (show ¬ (2≤q.at_∧q.at_<6) from fun h=>b6 h.2)] at this
      simpa using this
     simp -implicitDefEqProofs[hrem,t9,q11,i8,c9,q13,b2',b6',hv2]
     unfold qlZ
     exact fin _ ⟨by simp[t0],by simp[t1],by simp[t4],by simp[t5],by simp[t7],by simp[t9],by simp[t10]⟩
  ·have b2':¬ (2:Int)≤q.at_:=by omega
   cases can with
   | false =>
    by_cases hv2:(W.H.ss q.s).v % 2=1
    ·simp -implicitDefEqProofs[hrem,t9,q11,i8,c9,q13,b2',hv2]
     unfold qlZ
     exact fin _ ⟨by simp[t0],by simp[t1],by simp[t4],by simp[t5],by simp[t7],by simp[t9],by simp[t10]⟩
    ·simp -implicitDefEqProofs[hrem,t9,q11,i8,c9,q13,b2',hv2]
     unfold qlZ
     exact fin _ ⟨by simp[t0],by simp[t1],by simp[t4],by simp[t5],by simp[t7],by simp[t9],by simp[t10]⟩
   | true =>
    have hv2:¬ (W.H.ss q.s).v % 2=1:=by
     have:=hodd rfl
     rw[hwd,decide_eq_false (show ¬ (2≤q.at_∧q.at_<6) from fun h=>b2 h.1)] at this
     simpa using this
    simp -implicitDefEqProofs[hrem,t9,q11,i8,c9,q13,b2',hv2]
    unfold qlZ
    exact fin _ ⟨by simp[t0],by simp[t1],by simp[t4],by simp[t5],by simp[t7],by simp[t9],by simp[t10]⟩
 unfold qcBZ
 by_cases h4:before=4
 ·subst h4
  simp -implicitDefEqProofs[s16]
  refine tail _ T' h' W rfl rfl (y.mono (by omega)) ⟨by simp[t0],by simp[t1],by simp[t4],by simp[t5],by simp[t7],by simp[t9],by simp[t10]⟩ (by simp[s11]) (by simp[s12]) (by simp[s13]) _ _ _ _ _ _ _ _ _
 have h4':¬ (before:Int)=4:=by omega
 simp -implicitDefEqProofs[s16,h4',t5,s12]
 refine snap_ok 9 (s:=q.s) y.o.wf g1 y.y.x.hl hsN (by rw[y.y.n]; omega) (by omega) fun T2 h2 ka va o2 x2 xb=>?_
 have y2:=y.did o2 x2
 have st:=y.y.k.hs.st q.s hsN
 have bl:=st.sn.bl
 have bn:=st.sn.bn
 refine users08_ok _ (by omega) y2.o.wf xb fun uv h3 e3 su=>?_
 have y3:=y2.ext e3
 simp -implicitDefEqProofs[s15]
 have hw3:Sl 5 UsrR h3 wv b0:=(hw.ext (@UsrR.ext) (o2.ext (by simp[pre]))).ext (@UsrR.ext) ((fz_ext _ _).trans e3)
 refine usrSame_ok _ _ (su.ext (@UsrR.ext) (fz_ext _ _)) hw3 (by omega) (fun z hz=>by have:=bn z hz; omega) ?_
 rw[hsn h4]
 simp -implicitDefEqProofs
 refine tail _ T2 h3 { W with H:=W.H.snap 9 q.s } rfl rfl y3 ⟨by simp[t0],by simp[t1],by simp[t4],by simp[t5],by simp[t7],by simp[t9],by simp[t10]⟩ (by simp[s11]) (by simp[s12]) (by simp[s13]) _ _ _ _ _ _ _ _ _
set_option maxHeartbeats 8000000 in
theorem wo32 (hn:n<300)(hm:m<9000)(y:WoI T5 h5 hp m ws X A av bx (stN W) W M T' h'){s:Env}(t:TwE v bv av hp bx n s)(hi:i<ws.length)(h8:ws.length≤8){q:WP}(hq:W.ps i=some (.w q))(hb:q.k.isBad=false)
  (s11:s 11 = .int .i64 i) (s12:s 12 = .int .i64 q.s) (s13:s 13 = .bool (q.enabled W.H)) {Q:Post}
  (hQ:∀ s' h'',TwE v bv av hp bx n s'→WoJ T5 h5 hp (m+4) ws X A av bx h''→Q .normal [] s' h''):qcCZ s h' [] Q:=by
 obtain⟨t0,t1,t4,t5,t7,t9,t10⟩:=t
 have hpa:=y.y.k.li.pa i _ hq
 have hsN:q.s<W.H.n:=hpa.1.s
 have ac:=y.y.k.hs.ac
 unfold qcCZ
 simp -implicitDefEqProofs only[t5,s12]
 refine snap_ok 9 (s:=q.s) y.o.wf g1 y.y.x.hl hsN (by rw[y.y.n]; omega) (by omega) fun T2 h2 ka va o2 x2 xb=>?_
 have y2:=y.did o2 x2
 have st:=y.y.k.hs.st q.s hsN
 have bl:=st.sn.bl
 unfold qehZ
 refine users08_ok _ (by omega) y2.o.wf xb fun uv h3 e3 su=>?_
 have y3:=y2.ext e3
 obtain⟨W2,hW2⟩:∃ W2:Wd,W2={ W with H:=W.H.did 9 3 (4*q.s+3) }:=⟨_,rfl⟩
 have y3:WoI T5 h5 hp (m+1) ws X A av bx (stN W2) W2 M T2 h3:=by rw[hW2]; exact y3
 have hq2:W2.ps i=some (.w q):=by rw[hW2]; exact hq
 have hss2:∀ s,W2.H.ss s=W.H.ss s:=fun s=>by rw[hW2]; rfl
 have hen2:q.enabled W2.H=q.enabled W.H:=by rw[hW2]; rfl
 have hstN:stN W2 i=q.at_:=by unfold stN; rw[hq2]; simp[hb]
 obtain⟨b,ia,cb⟩:=y3.row hi
 have c9:=stC_at y3.b.1 (i:=i) (by omega)
 rw[hstN] at c9
 have i8:=ia8 bx (show i<8 by omega)
 have hl7:q.at_≤7:=hpa.1.a
 unfold qegZ
 simp -implicitDefEqProofs[t9,s11,i8,c9,t7,ia,cb,t5,t10]
 refine wo_step y3.y y3.o.wf (by omega) h8 hi hq2 (n:Int) fun T4 h4 M' o4 y4w=>?_
 have y4:=y3.go o4 y4w
 have hps4:(W2.step i n).ps i=some (.w (q.step W2.H n).1):=by rw[Wd.step_ps hq2,if_pos rfl]; rfl
 obtain⟨k1,k2,k3⟩:=wstep_k q W2.H n
 have hb':(q.step W2.H n).1.k.isBad=false:=by rw[k1]; exact hb
 have hat:=wstep_at2 (q:=q) (H:=W2.H) (n:Int) hb
 have hne:∀ j,j≠i→stN (W2.step i n) j=stN W2 j:=fun j hj=>by unfold stN; rw[Wd.step_ps hq2,if_neg hj]
 have hni:stN (W2.step i n) i=(q.step W2.H n).1.at_:=by unfold stN; rw[hps4]; simp[hb']
 have hH4:(W2.step i n).H=(q.step W2.H n).2:=by rw[Wd.step_H hq2]; rfl
 have su4:Sl 5 UsrR (fz T4 h4) uv (W.H.ss q.s).snap:=su.ext (@UsrR.ext) (o4.ext UW.nil)
 have hsn4:q.at_≠4→((W2.step i n).H.ss (q.step W2.H n).1.s).snap=(W.H.ss q.s).snap:=fun h=>by rw[hH4,k3,wsnap_step q W2.H n h,hss2]
 unfold qefZ
 rw[seqM_eq]
 unfold qedZ
 cases he:q.enabled W.H with
 | false =>
  rw[he] at hen2
  have hst:q.step W2.H n=(q,W2.H):=by simp[WP.step,hen2]
  have hfun:stN (W2.step i n)=stN W2:=funext fun j=>by
   by_cases h:j=i
   ·subst h; rw[hni,hst,hstN]
   ·exact hne j h
  have y5:WoI T5 h5 hp (m+1+1) ws X A av bx (stN (W2.step i n)) (W2.step i n) M' T4 h4:=by rw[hfun]; exact y4
  simp -implicitDefEqProofs[s13,he]
  unfold qecZ
  simp -implicitDefEqProofs
  refine wo39 (can:=false) (before:=q.at_) hn (by omega) y5 ⟨by simp[t0],by simp[t1],by simp[t4],by simp[t5],by simp[t7],by simp[t9],by simp[t10]⟩ hi h8 hps4 hb' (by simp[s11]) (by rw[k3]; simp[s12]) (by simp[s13,he]) (by simp) (by simp) su4 hsn4 (fun h=>by cases h) (fun h=>by cases h) fun s' h'' a b=>hQ s' h'' a b
 | true =>
  rw[he] at hen2
  rw[if_pos hen2] at hat
  have hl:=enabled_at he
  have hfun:stN (W2.step i n)=bset (stN W2) i (q.at_+1):=funext fun j=>by
   by_cases h:j=i
   ·subst h; rw[hni,hat,bset_same]
   ·rw[hne j h,bset_ne h]
  have hw1:IntKind.i64.wrap ((q.at_:Int)+1)=(q.at_+1:Nat):=by rw[wrap64_id (by omega) (by omega)]; omega
  have c94:=stC_at y4.b.1 (i:=i) (by omega)
  rw[hstN] at c94
  simp -implicitDefEqProofs[s13,he]
  unfold qebZ
  simp -implicitDefEqProofs[t9,s11,i8,c94,hw1,-Int.natCast_add]
  rw[stC_set y4.b.1 (show i<8 by omega)]
  have o5:Only (fun t:Tag=>t=lc) T4 h4 T4 (upd h4 bx (.cells (stC (bset (stN W2) i (q.at_+1))).toArray ty_8_int (0,0))):=Only.upd y4.o.wf y4.b.1 y4.b.2
  have n5:¬ (fun t:Tag=>t=lc) []:=by simp[lc]
  have y5:WoI T5 h5 hp (m+1+1) ws X A av bx (stN (W2.step i n)) (W2.step i n) M' T4 (upd h4 bx (.cells (stC (bset (stN W2) i (q.at_+1))).toArray ty_8_int (0,0))):=by
   rw[hfun]
   exact⟨y4.o.trans (o5.mono fun _ h=>.inr (.inr h)),y4.y.kp o5 (fun t ht hh=>uoW t ht (.inr hh)) n5,y4.a.kp o5.k (by simp[lc]),upd_same' _ _ _,y4.b.2⟩
  have hwho:(q.step W2.H n).1.at_=7→((W2.step i n).H.ss (q.step W2.H n).1.s).who=0:=fun h7=>by
   have h6:q.at_=6:=by omega
   have hh:=y3.y.k.li.own i _ q.s (by rw[y3.y.n,← y.y.n]; exact hsN) hq2 ⟨hb,by omega,by omega,rfl⟩
   rw[hH4,k3]
   have hwq:q.who=i:=hpa.2.w
   exact wwho7 n hen2 hb h6 (by rw[hwq]; exact hh) (by omega)
  simp -implicitDefEqProofs
  refine wo39 (can:=true) (before:=q.at_) hn (by omega) y5 ⟨by simp[t0],by simp[t1],by simp[t4],by simp[t5],by simp[t7],by simp[t9],by simp[t10]⟩ hi h8 hps4 hb' (by simp[s11]) (by rw[k3]; simp[s12]) (by simp[s13,he]) (by simp) (by simp) (su4.ext (@UsrR.ext) (o5.ext n5)) hsn4 (fun _=>by omega) (fun _=>hwho) fun s' h'' a b=>hQ s' h'' a b
theorem ops_user {F:Heap}{v:Value}{xs:List OpD}(x:Sl 7 OpR F v xs){i:Nat}(hi:i<xs.length):∃ b p u,iaV (some (none,7)) v (.int .i64 i)=some (.pointer (some ⟨b,p,none⟩))∧(∀ h',Ext F h'→ldV (some (some 7)) (.pointer (some ⟨b,p,none⟩)) h'=some (.agg (opC xs[i] u).toArray)∧cel h' b (p+1)=some (.string xs[i].user))∧Sl 1 StrR F u xs[i].users∧OpW xs[i]:=by
 obtain⟨b,o,c,i1,i2,i3⟩:=x.at (k:=.i64) (i:=i) (by omega) (by omega)
 obtain⟨u,h1,h2,h3⟩:=i3
 simp -implicitDefEqProofs only[Int.toNat_natCast] at h1 h2 h3
 refine⟨b,o,u,i1,fun h' e=>?_,h2,h3⟩
 have hc:=cels_ext e i2
 refine⟨by rw[ldV_n hc,h1],?_⟩
 have:=(cels_get hc).2 1 (by rw[h1]; simp[opC])
 rw[this]; simp[h1,opC]
set_option maxHeartbeats 8000000 in
theorem wo25 (hn:n<300)(hm:m<9000)(hv:Sl 7 OpR (fz T5 h5) v ws)(hX:∀ j (h:j<ws.length),X j=wrOp ws[j])(y:WoI T5 h5 hp m ws X A av bx (stN W) W M T' h'){s:Env}(t:TwE v bv av hp bx n s)(hi:i<ws.length)(h8:ws.length≤8){q:WP}(hq:W.ps i=some (.w q))(hb:q.k.isBad=false)
  {Q:Post} (hQ:∀ s' h'',TwE v bv av hp bx n s'→WoJ T5 h5 hp (m+4) ws X A av bx h''→Q .normal [] s' h'') (a1 a2 a3 a4 a5 a6 a7 a8 a9 a11 a12 a13 a14:Value) :
  qcDZ s (.int .i64 i) h' [] a1 a2 a3 a4 a5 a6 a7 a8 a9 (.int .i64 q.s) a11 a12 a13 a14 Q:=by
 obtain⟨t0,t1,t4,t5,t7,t9,t10⟩:=t
 obtain⟨b,ia,cb⟩:=y.row hi
 have hsN:q.s<W.H.n:=(y.y.k.li.pa i _ hq).1.s
 have vl:=hv.len
 unfold qcDZ
 simp -implicitDefEqProofs[t7,ia,cb,t5]
 refine wenabled_ok y.o.wf (y.y.x.ps i _ hq) y.y.x.hl hsN fun h2 e2=>?_
 have y2:=y.ext e2
 unfold qeiZ
 rw[seqM_eq]
 unfold qeaZ
 refine loop_on [0,1,4,5,7,9,10,11,12,13] (fun s h''=>WoK h2 ws.length (s 14) h'') (fun s _=>(10-num (s 14)).toNat) ⟨0,Ext.refl _,by simp,by omega⟩ ?_
 rintro r h3 hf ⟨k,e3,r14,hk⟩
 have r0:r 0=v:=by simpa [t0] using hf 0 (by simp)
 have r1:r 1=bv:=by simpa [t1] using hf 1 (by simp)
 have r4:r 4 = .bool false:=by simpa [t4] using hf 4 (by simp)
 have r5:r 5=ptr hp:=by simpa [t5] using hf 5 (by simp)
 have r7:r 7=av:=by simpa [t7] using hf 7 (by simp)
 have r9:r 9=ptr bx:=by simpa [t9] using hf 9 (by simp)
 have r10:r 10 = .int .i64 n:=by simpa [t10] using hf 10 (by simp)
 have r11:r 11 = .int .i64 i:=by simpa using hf 11 (by simp)
 have r12:r 12 = .int .i64 q.s:=by simpa using hf 12 (by simp)
 have r13:r 13 = .bool (q.enabled W.H):=by simpa using hf 13 (by simp)
 have y3:=y2.ext e3
 unfold qdZZ
 simp -implicitDefEqProofs[r0,vl,r14]
 refine⟨fun hc=>?_,fun hc=>?_⟩
 ·have hlt:k<ws.length:=by omega
  have hw1:IntKind.i64.wrap ((k:Int)+1)=(k+1:Nat):=by rw[wrap64_id (by omega) (by omega)]; omega
  have eF:=(y3.o.ext UO.nil).trans (fz_ext _ _)
  obtain⟨bo,po,uo,o1,o2,o3,o4⟩:=ops_user hv hlt
  obtain⟨l1,l2⟩:=o2 _ eF
  have i8:=ia8 bx (show k<8 by omega)
  have ck:=stC_at y3.b.1 (i:=k) (by omega)
  have hst3:W.H.c.stripes=3:=by rw[y.y.c]; rfl
  have sc:W.H.c.stripes≤8:=by rw[hst3]; omega
  unfold qdYZ
  by_cases hki:k=i
  ·have:(k:Int)=i:=by omega
   simp -implicitDefEqProofs[r14,r11,this]
   unfold qwZ
   simp -implicitDefEqProofs[r0,r1,r4,r5,r7,r9,r10,r11,r12,r13,r14,t0,t1,t4,t5,t7,t9,t10,hw1,-Int.natCast_add]
   exact⟨⟨k+1,e3,rfl,by omega⟩,by omega⟩
  have hki':¬ (k:Int)=i:=by omega
  by_cases hst:stripeOf ws[k].user 3=q.s
  rotate_left
  ·simp -implicitDefEqProofs[r14,r11,hki',r0,o1,l2,r5]
   refine hstripe_ok _ o4.s1 y3.y.x.hl sc ?_
   rw[hst3]
   simp -implicitDefEqProofs[r12,hst]
   unfold qwZ
   simp -implicitDefEqProofs[r0,r1,r4,r5,r7,r9,r10,r11,r12,r13,r14,t0,t1,t4,t5,t7,t9,t10,hw1,-Int.natCast_add]
   exact⟨⟨k+1,e3,rfl,by omega⟩,by omega⟩
  by_cases z0:stN W k=0
  ·rw[z0] at ck
   simp -implicitDefEqProofs[r14,r11,hki',r0,o1,l2,r5]
   refine hstripe_ok _ o4.s1 y3.y.x.hl sc ?_
   rw[hst3]
   simp -implicitDefEqProofs[r12,hst,r9,r14,i8,ck]
   unfold qwZ
   simp -implicitDefEqProofs[r0,r1,r4,r5,r7,r9,r10,r11,r12,r13,r14,t0,t1,t4,t5,t7,t9,t10,hw1,-Int.natCast_add]
   exact⟨⟨k+1,e3,rfl,by omega⟩,by omega⟩
  have z0':0<stN W k:=by omega
  have z0'':(0:Int)<stN W k:=by omega
  by_cases z7:stN W k<7
  rotate_left
  ·have z7':¬ (stN W k:Int)<7:=by omega
   simp -implicitDefEqProofs[r14,r11,hki',r0,o1,l2,r5]
   refine hstripe_ok _ o4.s1 y3.y.x.hl sc ?_
   rw[hst3]
   simp -implicitDefEqProofs[r12,hst,r9,r14,i8,ck,z0',z7']
   unfold qwZ
   simp -implicitDefEqProofs[r0,r1,r4,r5,r7,r9,r10,r11,r12,r13,r14,t0,t1,t4,t5,t7,t9,t10,hw1,-Int.natCast_add]
   exact⟨⟨k+1,e3,rfl,by omega⟩,by omega⟩
  have z7':(stN W k:Int)<7:=by omega
  cases he:q.enabled W.H with
  | false =>
   rw[he] at r13
   simp -implicitDefEqProofs[r14,r11,hki',r0,o1,l2,r5]
   refine hstripe_ok _ o4.s1 y3.y.x.hl sc ?_
   rw[hst3]
   simp -implicitDefEqProofs[r12,hst,r9,r14,i8,ck,z0',z7',r13]
   unfold qwZ
   simp -implicitDefEqProofs[r0,r1,r4,r5,r7,r9,r10,r11,r12,r13,r14,t0,t1,t4,t5,t7,t9,t10,hw1,-Int.natCast_add]
   exact⟨⟨k+1,e3,rfl,by omega⟩,by omega⟩
  | true =>
   exfalso
   obtain⟨r',f1,f2,f3⟩:=y.y.p k hlt
   refine y.y.alone hi hlt hki hq f1 hb ?_ he z0' z7
   rw[f3,hX k hlt]
   show (stripeOf ws[k].user 3).toNat=q.s
   rw[hst]; simp
 ·exact wo32 hn hm y3 ⟨by simp[r0],by simp[r1],by simp[r4],by simp[r5],by simp[r7],by simp[r9],by simp[r10]⟩ hi h8 hq hb (by simp[r11]) (by simp[r12]) (by simp[r13]) hQ
set_option maxHeartbeats 8000000 in
theorem wo19 (tn:ts.length≤300)(hlt:n<ts.length)(hm:m<9000)(hv:Sl 7 OpR (fz T5 h5) v ws)(ht:Sl 1 (IntR .u8) (fz T5 h5) bv ts)(h0:0<ws.length)(hX:∀ j (h:j<ws.length),X j=wrOp ws[j])(hsh:∀ x∈ws,shortB x=true)(y:WoI T5 h5 hp m ws X A av bx (stN W) W M T' h'){s:Env}(t:TwE v bv av hp bx n s)(h8:ws.length≤8)
  {Q:Post} (hQ:∀ s' h'',TwE v bv av hp bx n s'→WoJ T5 h5 hp (m+4) ws X A av bx h''→Q .normal [] s' h'') (a1 a2:Value):qcEZ s h' Q [] a1 a2:=by
 have t':=t
 obtain⟨t0,t1,t4,t5,t7,t9,t10⟩:=t'
 have vl:=hv.len
 have eF:=(y.o.ext UO.nil).trans (fz_ext _ _)
 obtain⟨ub,up,u1,u2,u3,u4⟩:=u8At ht hlt
 obtain⟨z,hz⟩:∃ z:Nat,ts[n]=z:=⟨ts[n].toNat,by omega⟩
 obtain⟨i,hi'⟩:∃ i,i=z % ws.length:=⟨_,rfl⟩
 have hi:i<ws.length:=by rw[hi']; exact Nat.mod_lt _ h0
 have hcv:cvV (some .i64) (.int .u8 (z:Int))=some (.int .i64 z):=by rw[cvV_i,wrap64_id (by omega) (by omega)]
 have brem:binV .rem 2 false (.int .i64 (z:Int)) (.int .i64 (ws.length:Int))=some (.int .i64 (i:Int)):=by
  have r:((z:Int)).tmod ws.length=(z % ws.length:Nat):=by rw[Int.tmod_eq_emod_of_nonneg (by omega)]; simp
  have:¬ (ws.length:Int)=0:=by omega
  simp -implicitDefEqProofs only[binV,intV,if_true,if_neg this,r,hi']
 rw[hz] at u2
 obtain⟨bo,po,uo,o1,o2,o3,o4⟩:=ops_user hv hi
 obtain⟨l1,l2⟩:=o2 _ eF
 have hsx:=hsh _ (List.getElem_mem hi)
 have lx:ws[i].users.length≤20:=by simp[shortB] at hsx; exact hsx.2.1
 have hst3:W.H.c.stripes=3:=by rw[y.y.c]; rfl
 unfold qcEZ
 simp -implicitDefEqProofs[t1,t10,u1,u2 _ eF,hcv,t0,vl,brem,o1,l2,t5]
 refine hstripe_ok _ o4.s1 y.y.x.hl (by rw[hst3]; omega) ?_
 rw[hst3]
 unfold qelZ
 simp -implicitDefEqProofs[t0,o1,l1]
 refine writing15_ok _ o3.one fun h2 e2=>?_
 have y2:=y.ext e2
 have eF2:=(y2.o.ext UO.nil).trans (fz_ext _ _)
 have hXi:=hX i hi
 have Xw:OpW (X i):=by rw[hXi]; exact wrOp_w o4
 have Xu:(X i).users=ws[i].users:=by rw[hXi]; rfl
 have Xus:(X i).user=ws[i].user:=by rw[hXi]; rfl
 unfold qekZ
 rw[← hXi]
 refine refBad_ok (X i) Xw (by rw[Xu]; exact o3.ext (@StrR.ext) eF2) (by rw[Xu]; omega) fun h3 e3=>?_
 have y3:=y2.ext e3
 obtain⟨q,hq,hqk,hqs⟩:=y.y.p i hi
 have hbad:q.k.isBad=badB (X i):=by rw[hqk,wkOf_bad]
 unfold qejZ
 cases hbX:badB (X i) with
 | true =>
  rw[hbX] at hbad
  simp -implicitDefEqProofs
  unfold qdXZ
  obtain⟨b,ia,cb⟩:=y3.row hi
  simp -implicitDefEqProofs[t7,ia,cb,t5,t10]
  refine wo_step y3.y y3.o.wf (by omega) h8 hi hq (n:Int) fun T4 h4 M' o4 y4w=>?_
  have y4:=y3.go o4 y4w
  have hfun:stN (W.step i n)=stN W:=funext fun j=>by
   unfold stN
   by_cases h:j=i
   ·subst h
    rw[Wd.step_ps hq,if_pos rfl,hq]
    show (if (q.step W.H n).1.k.isBad=true then 0 else (q.step W.H n).1.at_)=if q.k.isBad=true then 0 else q.at_
    rw[(wstep_k q W.H n).1,hbad]; simp
   ·rw[Wd.step_ps hq,if_neg h]
  unfold qdWZ
  exact hQ _ _ ⟨by simp[t0],by simp[t1],by simp[t4],by simp[t5],by simp[t7],by simp[t9],by simp[t10]⟩ ⟨T4,_,_,by rw[hfun]; exact y4.mono (by omega)⟩
 | false =>
  rw[hbX] at hbad
  simp -implicitDefEqProofs
  have hsi:stripeOf ws[i].user 3=q.s:=by
   have:=stripeOf_lt (u:=ws[i].user) (n:=3) (by omega)
   rw[hqs,Xus]; omega
  rw[hsi]
  exact wo25 (by omega) hm hv hX y3 t hi h8 hq hbad hQ _ _ _ _ _ _ _ _ _ _ _ _ _
end
end Go.Proofs.YtcnphhhcknhhaaaGreat
namespace Go.Proofs.YtcnphhhcknhhaaaGreat
open Go Go.Den Go.MapKept
set_option linter.unusedSimpArgs false
set_option linter.unusedVariables false
set_option maxRecDepth 20000
structure WoC (T5:Tags)(h5:Heap)(hp i:Nat)(ws:List OpD)(X:Nat→OpD)(A:Nat→Nat)(av:Value)(W:Wd)(M:Tbl)(T':Tags)(h':Heap):Prop where
 o:Only UO T5 h5 T' h'
 y:WoW i 3 0 ws hp X A W M T' h'
 a:Rw T' h' [6] 1 qcWZ av i (seqF i fun i=>[ptr (A i)])
 z:stN W=fun _=>0
def WoD (T5:Tags)(h5:Heap)(hp:Nat)(ws:List OpD)(X:Nat→OpD)(av iv:Value)(h':Heap):Prop:=∃ (T':Tags) (W:Wd) (M:Tbl) (A:Nat→Nat) (i:Nat),WoC T5 h5 hp i ws X A av W M T' h'∧iv = .int .i64 i∧i≤ws.length
def WoL (T5:Tags)(h5:Heap)(hp:Nat)(ws:List OpD)(X:Nat→OpD)(A:Nat→Nat)(av:Value)(bx L:Nat)(nv:Value)(h':Heap):Prop:=∃ n:Nat,WoJ T5 h5 hp (4*n) ws X A av bx h'∧nv = .int .i64 n∧n≤L
theorem zc8I:zc P ty_8_int=some (stC fun _=>0).toArray:=by kernel_rfl
theorem bsWP:bsI P qatZ=some (qcWZ,1,#[.pointer none]):=by kernel_rfl
variable {K:KTy}
set_option maxHeartbeats 8000000 in
theorem writeOnly_ok (ws:List OpD)(ts:List Int){h:Heap}{v bv:Value}(x:Sl 7 OpR h v ws)(xt:Sl 1 (IntR .u8) h bv ts)(hk:∀ h',Ext h h'→K (.bool true) h') :
  callM P qdaZ #[v,bv] h K:=by
 apply qjZZ
 unfold qdgZ
 have wl:=x.len
 have tl:=xt.len
 refine awake15_ok fun h1 e1=>?_
 unfold qeQZ
 have stop:K (.bool true) h1→callM P qaYZ #[] h1 fun v40 h41=>K v40 h41:=fun _=>awake15_ok fun h2 e2=>hk _ (e1.trans e2)
 by_cases h0:ws.length=0
 ·have h0':(ws.length:Int)=0:=by omega
  have hn:ws=[]:=List.length_eq_zero_iff.1 h0
  simp -implicitDefEqProofs[wl,h0',hn]
  exact awake15_ok fun h2 e2=>hk _ (e1.trans e2)
 have h0':¬ (ws.length:Int)=0:=by omega
 have hne:ws≠[]:=fun h=>h0 (by simp[h])
 by_cases h8:ws.length≤8
 rotate_left
 ·have h8':(8:Int)<ws.length:=by omega
  simp -implicitDefEqProofs[wl,h0',hne,h8']
  exact awake15_ok fun h2 e2=>hk _ (e1.trans e2)
 have h8':¬ (8:Int)<ws.length:=by omega
 by_cases h3:ts.length≤300
 rotate_left
 ·have h3':(300:Int)<ts.length:=by omega
  simp -implicitDefEqProofs[wl,h0',hne,h8',tl,h3']
  exact awake15_ok fun h2 e2=>hk _ (e1.trans e2)
 have h3':¬ (300:Int)<ts.length:=by omega
 simp -implicitDefEqProofs[wl,h0',hne,h8',tl,h3']
 unfold qePZ
 refine small_ok fun h2 e2=>?_
 have e02:=e1.trans e2
 unfold qeOZ
 refine hallNew_ok small smallW (wf_nil h2) g1 (fun hr T5 h5 hp o5 y5=>?_) (fun hr=>by simp[rightB,small] at hr)
 have hn3:small.stripes.toNat=3:=by decide
 rw[hn3] at y5
 have hr:rightB small=true:=by decide
 have enil:binV .eql 4 true (ptr hp) (.pointer none)=some (.bool false):=rfl
 unfold qeNZ
 simp -implicitDefEqProofs[enil]
 have o25:Only UO (fun _=>[]) h2 T5 h5:=o5.mono fun _ h=>.inl (.inl h)
 have xF:Sl 7 OpR (fz T5 h5) v ws:=by
  have:Sl 7 OpR (fz (fun _=>[]) h2) v ws:=by rw[fz_nil]; exact x.ext (@OpR.ext) e02
  exact this.ext (@OpR.ext) (o25.ext UO.nil)
 have tF:Sl 1 (IntR .u8) (fz T5 h5) bv ts:=by
  have:Sl 1 (IntR .u8) (fz (fun _=>[]) h2) bv ts:=by rw[fz_nil]; exact xt.ext (fun _ r=>r) e02
  exact this.ext (fun _ r=>r) (o25.ext UO.nil)
 have kE:∀ {T' h'},Only UO T5 h5 T' h'→∀ {h''},Ext h' h''→K (.bool true) h'':=fun {T' h'} o {h''} e=>hk _ (e02.trans ((ext_of_only (o25.trans o) UO.nil).trans e))
 obtain⟨X,hX⟩:∃ X:Nat→OpD,∀ j (h:j<ws.length),X j=wrOp ws[j]:=⟨fun i=>if h:i<ws.length then wrOp ws[i] else ⟨0,⟨#[]⟩,0,0,0,0,[]⟩,fun i h=>by simp[h]⟩
 unfold qeMZ
 rw[seqM_eq]
 unfold qeLZ
 have c0:WoC T5 h5 hp 0 ws X (fun _=>0) (.slice none 0 0) (wd0 small 3) (tbl0 small 3) T5 h5:=by
  refine⟨Only.refl o5.wf,⟨wd0M y5 _,wd0K smallW hr (by decide),rfl,rfl,fun i hi=>by omega,fun _ _=>rfl,fun s=>?_,BD.init _ _⟩,Rw.nil _ _ _ _ _,rfl⟩
  show (0:Int)≤_
  omega
 refine loop_on [0,1,4,5] (fun s h'=>WoD T5 h5 hp ws X (s 7) (s 8) h'∧∀ y∈ws.take (num (s 8)).toNat,shortB y=true) (fun s _=>(ws.length-num (s 8)).toNat) ⟨⟨T5,_,_,_,0,by simpa using c0,by simp,by omega⟩,by simp[num]⟩ ?_
 rintro s h6 hf ⟨⟨T6,W,M,A,i,y,s8,hi⟩,hall⟩
 have s0:s 0=v:=by simpa using hf 0 (by simp)
 have s1:s 1=bv:=by simpa using hf 1 (by simp)
 have s4:s 4 = .bool false:=by simpa using hf 4 (by simp)
 have s5:s 5=ptr hp:=by simpa using hf 5 (by simp)
 rw[s8] at hall
 simp -implicitDefEqProofs only[num,Int.toNat_natCast] at hall
 unfold qeKZ
 simp -implicitDefEqProofs[s0,wl,s8]
 refine⟨fun hc=>?_,fun hc=>?_⟩
 ·have hlt:i<ws.length:=by omega
  have hw1:IntKind.i64.wrap ((i:Int)+1)=(i+1:Nat):=by rw[wrap64_id (by omega) (by omega)]; omega
  have eF:=(y.o.ext UO.nil).trans (fz_ext _ _)
  obtain⟨b,p,u,i1,i2,i3,i4⟩:=opsAt xF hlt
  unfold qeJZ
  simp -implicitDefEqProofs[s0,s8,i1,i2 _ eF]
  refine short_ok ws[i] (i3.ext (@StrR.ext) eF) fun h7 e7=>?_
  unfold qeIZ
  cases hsx:shortB ws[i] with
  | false =>
   simp -implicitDefEqProofs
   unfold qdRZ
   simp -implicitDefEqProofs
   exact kE y.o e7
  | true =>
  have lx:ws[i].users.length≤20:=by simp[shortB] at hsx; exact hsx.2.1
  simp -implicitDefEqProofs
  unfold qdVZ
  simp -implicitDefEqProofs[s0,s8,i1,i2 _ (eF.trans e7)]
  refine writing15_ok _ i3.one fun h8 e8=>?_
  have e68:=e7.trans e8
  have o68:Only non T6 h6 T6 h8:=Only.of_ext y.o.wf e68
  have hXi:=hX i hlt
  have Xw:OpW (X i):=by rw[hXi]; exact wrOp_w i4
  have Xu:(X i).users=ws[i].users:=by rw[hXi]; rfl
  have x8:=y.y.x.ext y.o.wf e68
  unfold qdUZ
  rw[← hXi]
  simp -implicitDefEqProofs[s5,s8]
  have o08:Only UO T5 h5 T6 h8:=y.o.up o68 non_up
  refine wdnew_w (i:=i) (by omega) (X i) Xw (by rw[Xu]; omega) (by rw[Xu]; exact i3.ext (@StrR.ext) (o08.ext UO.nil)) o68.wf x8 y.y.k (fun q hq=>by rw[y.y.e i (Nat.le_refl _)] at hq; cases hq) fun T9 h9 q o9 x9 k9=>?_
  have a9:=(y.a.kp o68.k (not_non _)).kp o9.k (not_non _)
  unfold qdTZ
  refine Rw.appk bsWP unSlWP apWP (by omega) rfl (by simp) o9.wf a9 (by unfold maxLen; omega) (by omega) (by omega) (by simp) fun a' v' T10 h10 o10 row10 _ _=>?_
  have n10:¬ (fun t:Tag=>t=[6]) []:=by simp
  have f10:∀ t,UW t→¬ (fun t:Tag=>t=[6]) t:=fun t ht hh=>uoW t ht (.inl hh)
  have hps:W.ps i=none:=y.y.e i (Nat.le_refl _)
  have hz:(wp0 W.H i (X i)).at_=0:=rfl
  have c10:WoC T5 h5 hp (i+1) ws X (bset A i q) v' { W with ps:=bset W.ps i (some (.w (wp0 W.H i (X i)))) } M T10 h10:=by
   refine⟨(o08.up o9 non_up).trans (o10.mono fun _ h=>.inr (.inl h)),⟨x9.up o10 f10 n10,k9,y.y.c,y.y.n,fun j hj=>?_,fun j hj=>?_,fun s'=>?_,y.y.b⟩,?_,?_⟩
   ·by_cases h:j=i
    ·subst h
     refine⟨_,bset_same _ _ _,rfl,?_⟩
     show (stripeOf (X j).user W.H.c.stripes).toNat=_
     rw[y.y.c]; rfl
    ·obtain⟨q',f1,f2,f3⟩:=y.y.p j (by omega)
     exact⟨q',by show bset _ _ _ _=_; rw[bset_ne h]; exact f1,f2,f3⟩
   ·show bset _ _ _ _=_
    rw[bset_ne (by omega)]; exact y.y.e j (by omega)
   ·have h1:=y.y.v s'
    have h2:=sumW_set (ps:=W.ps) (some (.w (wp0 W.H i (X i)))) (show i<8 by omega)
    rw[hps] at h2
    have h3:fO (some (.w (wp0 W.H i (X i))))=0:=by simp[fO,f2,hz]
    simp -implicitDefEqProofs only[fO] at h2 h3
    show (W.H.ss s').v≤_
    dsimp only
    omega
   ·have:(seqF (i+1) fun j=>[ptr (bset A i q j)])=(seqF i fun j=>[ptr (A j)])++(ptr q).cells.toList:=by
     rw[seqF_succ,bset_same]
     congr 1
     exact seqF_congr fun j hj=>by rw[bset_ne (by omega)]
    rw[this]; exact row10
   ·funext j
    have hzj:=congrFun y.z j
    unfold stN at hzj ⊢
    by_cases h:j=i
    ·subst h; rw[show ({ W with ps:=bset W.ps j (some (.w (wp0 W.H j (X j)))) }:Wd).ps j=some (.w (wp0 W.H j (X j))) from bset_same _ _ _]; simp[hz]
    ·rw[show ({ W with ps:=bset W.ps i (some (.w (wp0 W.H i (X i)))) }:Wd).ps j=W.ps j from bset_ne h]; exact hzj
  unfold qdSZ
  simp -implicitDefEqProofs[s0,s1,s4,s5,s8,hw1,-Int.natCast_add]
  refine⟨⟨⟨T10,_,_,_,i+1,c10,rfl,by omega⟩,fun y' hy=>?_⟩,by omega⟩
  rw[List.take_succ_eq_append_getElem hlt,List.mem_append,List.mem_singleton] at hy
  rcases hy with hy | rfl
  ·exact hall y' hy
  ·exact hsx
 have hie:i=ws.length:=by omega
 subst hie
 rw[List.take_of_length_le (Nat.le_refl _)] at hall
 simp -implicitDefEqProofs
 unfold qepZ
 rw[zc8I]
 refine nw_tag y.o.wf lc fun bx T7 h7 n7 o7 t7 c7=>?_
 have y7:WoI T5 h5 hp 0 ws X A (s 7) bx (stN W) W M T7 h7:=⟨y.o.up o7 non_up,y.y.kp o7 (fun _ _ h=>h) (not_non _),y.a.kp o7.k (not_non _),by rw[y.z]; exact c7,t7⟩
 rw[seqM_eq]
 unfold qeoZ
 refine loop_on [0,1,4,5,7,9] (fun r h'=>WoL T5 h5 hp ws X A (s 7) bx ts.length (r 10) h') (fun r _=>(ts.length-num (r 10)).toNat) ⟨0,⟨T7,W,M,y7⟩,by simp,by omega⟩ ?_
 rintro r h9 hf9 ⟨n,⟨T9,W9,M9,y9⟩,r10,hn⟩
 have r0:r 0=v:=by simpa [s0] using hf9 0 (by simp)
 have r1:r 1=bv:=by simpa [s1] using hf9 1 (by simp)
 have r4:r 4 = .bool false:=by simpa [s4] using hf9 4 (by simp)
 have r5:r 5=ptr hp:=by simpa [s5] using hf9 5 (by simp)
 have r7:r 7=s 7:=by simpa using hf9 7 (by simp)
 have r9:r 9=ptr bx:=by simpa using hf9 9 (by simp)
 unfold qenZ
 simp -implicitDefEqProofs[r1,tl,r10]
 refine⟨fun hc=>?_,fun hc=>?_⟩
 rotate_left
 ·exact kE y9.o (Ext.refl _)
 have hw1:IntKind.i64.wrap ((n:Int)+1)=(n+1:Nat):=by rw[wrap64_id (by omega) (by omega)]; omega
 unfold qemZ
 rw[seqM_eq]
 refine wo19 h3 (by omega) (by omega) xF tF (by omega) hX hall y9 ⟨r0,r1,r4,r5,r7,r9,r10⟩ h8 (fun s' h'' t' J=>?_) _ _
 obtain⟨t0,t1,t4,t5,t7',t9,t10⟩:=t'
 simp -implicitDefEqProofs[r0,r1,r4,r5,r7,r9,r10,t0,t1,t4,t5,t7',t9,t10,s0,s1,s4,s5,hw1,-Int.natCast_add]
 exact⟨⟨n+1,by rw[show 4*(n+1)=4*n+4 by omega]; exact J,rfl,by omega⟩,by omega⟩
end Go.Proofs.YtcnphhhcknhhaaaGreat
namespace Go.Proofs.YtcnphhhcknhhaaaGreat
open Go Go.Den
variable {K:KTy}
theorem writeOnly_row {ws:List OpD}{ts:List Int}{v bv:Value}{h:Heap}(hx:Sl 7 OpR h v ws)(hb:Sl 1 (IntR .u8) h bv ts)(hk:∀ h',Ext h h'→K (.bool true) h') :
  callM P qdaZ #[v,bv] h K:=writeOnly_ok ws ts hx hb hk
end Go.Proofs.YtcnphhhcknhhaaaGreat
