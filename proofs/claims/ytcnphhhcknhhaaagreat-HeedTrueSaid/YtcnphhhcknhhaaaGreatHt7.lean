/- Words, plain data and contracts of the Go functions that this claim reaches. No condition beyond the hypotheses that each theorem states. -/
import Derived.Test.YtcnphhhcknhhaaaGreatHt6
set_option linter.unusedSimpArgs false
set_option linter.unusedVariables false
namespace Go.Proofs.YtcnphhhcknhhaaaGreat
open Go Go.Den Go.MapKept
set_option linter.unusedSimpArgs false
set_option linter.unusedVariables false
set_option maxRecDepth 20000
structure HdL (T:Tags)(h:Heap)(hp:Nat)(A B:Nat→Nat)(lo nm:Nat)(W:Wd):Prop where
 hl:HallR T h [1] hp W.H
 ps:∀ i p,W.ps i=some p→PRh T h [2,i] (A i) (B i) p
 ms:∀ i,lo≤i∧i<nm→MineR T h [5,i] (B i) (W.ms i)
theorem HdL.up {U:Tag→Prop}{T T':Tags}{h h':Heap}{hp lo nm:Nat}{A B:Nat→Nat}{W:Wd}(x:HdL T h hp A B lo nm W)(o:Only U T h T' h')(f:∀ t,UH t→¬ U t)(n:¬ U []):HdL T' h' hp A B lo nm W :=
 ⟨x.hl.up o (fun t ht=>f t (.inl ht)) n,fun i p hp=>(x.ps i p hp).kp o.k (fun t ht=>f t (.inr (.inl (pre_trans (g:=[2]) (s:=[i]) ht)))) n,fun i hi=>(x.ms i hi).kp o.k fun t ht=>f t (.inr (.inr (pre_trans (g:=[5]) (s:=[i]) ht)))⟩
theorem HdL.ext {T:Tags}{h h':Heap}{hp lo nm:Nat}{A B:Nat→Nat}{W:Wd}(x:HdL T h hp A B lo nm W)(w:Wf T h)(e:Ext h h'):HdL T h' hp A B lo nm W:=x.up (Only.of_ext (U:=non) w e) (fun _ _ h=>h) (not_non _)
theorem HdL.put {U:Tag→Prop}{T T':Tags}{h h':Heap}{hp i lo nm:Nat}{A B:Nat→Nat}{W:Wd}{p:PR}(x:HdL T h hp A B lo nm W)(o:Only U T h T' h')(u:∀ j,j≠i→Off U [2,j])(v:∀ j,j≠i→Off U [5,j])(n:¬ U []){k:Int}(hp':W.ps i=some p)
  (y':HallR T' h' [1] hp (p.step (W.ms i) W.H k).2.2) (x':PRh T' h' [2,i] (A i) (B i) (p.step (W.ms i) W.H k).1) (z':lo≤i∧i<nm→MineR T' h' [5,i] (B i) (p.step (W.ms i) W.H k).2.1):HdL T' h' hp A B lo nm (W.step i k):=by
 have e:W.step i k=⟨(p.step (W.ms i) W.H k).2.2,bset W.ps i (some (p.step (W.ms i) W.H k).1),bset W.ms i (p.step (W.ms i) W.H k).2.1⟩:=by simp only[Wd.step,hp']
 rw[e]
 refine⟨y',fun j q hq=>?_,fun j hj=>?_⟩
 ·have hq:bset W.ps i (some (p.step (W.ms i) W.H k).1) j=some q:=hq
  by_cases hji:j=i
  ·subst hji
   rw[bset_same] at hq
   simp -implicitDefEqProofs only[Option.some.injEq] at hq; subst hq
   exact x'
  ·rw[bset_ne hji] at hq
   exact (x.ps j q hq).kp o.k (u j hji) n
 ·show MineR T' h' [5,j] (B j) (bset W.ms i (p.step (W.ms i) W.H k).2.1 j)
  by_cases hji:j=i
  ·subst hji; rw[bset_same]; exact z' hj
  ·rw[bset_ne hji]; exact (x.ms j hj).kp o.k (v j hji)
section
variable {T:Tags}{h:Heap}{hp k i lo nm:Nat}{A B:Nat→Nat}{W:Wd}{M:Tbl}{K:KTy}
theorem hlstep_w {p:WP}(n:Int)(w:Wf T h)(x:HdL T h hp A B lo nm W)(y:WdK k W M)(hk:k<100000)(hp':W.ps i=some (.w p))(hK:∀ T' h',Only UH T h T' h'→HdL T' h' hp A B lo nm (W.step i n)→K (.tuple #[]) h'):callM P qcXZ #[ptr (A i),ptr hp,.int .i64 n] h K:=by
 have hpa:=y.li.pa i _ hp'
 refine wstep_ok n w g1 (d12i i) (d2i1 i) (g2i i) (x.ps i _ hp') x.hl y.hs hk hpa.1 fun T' h' o x' y'=>?_
 have nn:¬ two (pre [2,i]) (pre [1]) []:=by rintro (h | h)<;>simp[pre] at h
 refine hK T' h' (o.mono fun t ht=>ht.elim UH.i2 UH.i1) (x.put o (fun j hj=>dtwo (Ne.symm hj)) (fun j hj t ht hh=>hh.elim (d25 i j t ht) (d15 j t ht)) nn hp' y' x' fun hi=>?_)
 exact (x.ms i hi).kp o.k fun t ht hh=>hh.elim (d25 i i t ht) (d15 i t ht)
theorem hlstep_h {p:HP}(n:Int)(w:Wf T h)(x:HdL T h hp A B lo nm W)(y:WdK k W M)(hk:k<100000)(hi:lo≤i∧i<nm)(hp':W.ps i=some (.h p))(hK:∀ T' h',Only UH T h T' h'→HdL T' h' hp A B lo nm (W.step i n)→K (.tuple #[]) h'):callM P qaQZ #[ptr (A i),ptr hp,.int .i64 n] h K:=by
 have hpa:=y.li.pa i _ hp'
 refine hestep_ok n w (g2i i) g1 (g5i i) (d2i1 i) (d25 i i) (d12i i) (d15 i) (d52 i i) (d51 i) (x.ps i _ hp') x.hl (x.ms i hi) y.hs hk hpa.1 fun T' h' o x' y' z'=>?_
 have nn:¬ U3p [2,i] [1] [5,i] []:=by rintro (h | h | h)<;>simp[pre] at h
 refine hK T' h' (o.mono fun t ht=>ht.elim UH.i2 fun ht=>ht.elim UH.i1 UH.i5) (x.put o (fun j hj t ht hh=>hh.elim (d2ij (Ne.symm hj) t ht) fun hh=>hh.elim (d12i j t ht) (d52 i j t ht)) (fun j hj t ht hh=>hh.elim (d25 i j t ht) fun hh=>hh.elim (d15 j t ht) (d55 (Ne.symm hj) t ht)) nn hp' y' x' fun _=>z')
theorem HdL.new {U:Tag→Prop}{T':Tags}{h':Heap}{q:Nat}{p:PR}(x:HdL T h hp A B lo nm W)(o:Only U T h T' h')(f1:Off U [1])(u:∀ j,j≠i→Off U [2,j])(v:∀ j,Off U [5,j])(n:¬ U [])(x':PRh T' h' [2,i] q (B i) p):HdL T' h' hp (bset A i q) B lo nm { W with ps:=bset W.ps i (some p) }:=by
 refine⟨x.hl.up o f1 n,fun j r hr=>?_,fun j hj=>(x.ms j hj).kp o.k (v j)⟩
 have hr:bset W.ps i (some p) j=some r:=hr
 by_cases hji:j=i
 ·subst hji
  rw[bset_same] at hr ⊢
  simp -implicitDefEqProofs only[Option.some.injEq] at hr; subst hr
  exact x'
 ·rw[bset_ne hji] at hr ⊢
  exact (x.ps j r hr).kp o.k (u j hji) n
theorem hlnew_w (hi:i≤900)(o:OpD)(ow:OpW o)(hl:o.users.length<1000000){v:Value}(hv:Sl 1 StrR (fz T h) v o.users)(w:Wf T h)(x:HdL T h hp A B lo nm W)(y:WdK k W M)(hi':∀ q,W.ps i=some q→Idle q (W.ms i) W.H.c)
  (hK:∀ T' h' q,Only UH T h T' h'→HdL T' h' hp (bset A i q) B lo nm { W with ps:=bset W.ps i (some (.w (wp0 W.H i o))) }→WdK k { W with ps:=bset W.ps i (some (.w (wp0 W.H i o))) } M→K (ptr q) h'):callM P qipZ #[ptr hp,.int .i64 i,.agg (opC o v).toArray] h K:=by
 have n8:=y.hs.n8
 have nn:=y.hs.nn
 refine wnew_ok i o ow w (g2i i) x.hl hv hl (by omega) fun T' h' q o' nq x'=>?_
 exact hK T' h' q (o'.mono non_up) (x.new o' (Off.non _) (fun _ _=>Off.non _) (fun _=>Off.non _) (not_non _) x') ⟨y.li.start (wp0_pa y.hs hi ow) (Idle.w _ _ rfl) hi',y.hs,y.ts⟩
theorem hlnew_h (hi:i<8)(o:OpD)(ow:OpW o)(hl:o.users.length<1000000)(h6:badB o=false→6≤o.kind){v:Value}(hv:Sl 1 StrR (fz T h) v o.users)(w:Wf T h)(x:HdL T h hp A B lo nm W)(y:WdK k W M)(hi':∀ q,W.ps i=some q→Idle q (W.ms i) W.H.c)
  (hK:∀ T' h' q,Only UH T h T' h'→HdL T' h' hp (bset A i q) B lo nm { W with ps:=bset W.ps i (some (.h (hp0 W.H i o))) }→WdK k { W with ps:=bset W.ps i (some (.h (hp0 W.H i o))) } M→K (ptr q) h'):callM P qfNZ #[ptr hp,ptr (B i),.int .i64 i,.agg (opC o v).toArray] h K:=by
 have n8:=y.hs.n8
 have nn:=y.hs.nn
 refine henew_ok i o ow w (g2i i) (d2i1 i) x.hl hv hl (by omega) nn fun T' h' q o' x'=>?_
 exact hK T' h' q (o'.mono fun _=>UH.i2) (x.new o' (d2i1 i) (fun j hj=>d2ij (Ne.symm hj)) (fun j=>d25 i j) (by simp[pre]) x') ⟨y.li.start (hp0_pa y.hs hi ow h6) (Idle.hh _ _ rfl) hi',y.hs,y.ts⟩
end
end Go.Proofs.YtcnphhhcknhhaaaGreat
namespace Go.Den
open Go
set_option linter.unusedVariables false
set_option linter.unusedSimpArgs false
theorem wstep_placed (p:WP)(H:Hall)(n:Int):(p.step H n).1.placed=if p.enabled H=true∧p.places=true then n else p.placed:=by
 cases he:p.enabled H with
 | false=>simp[WP.step,he]
 | true =>
  by_cases hb:p.k.isBad=true
  ·simp[WP.step,he,hb,WP.places]
  ·have hb:p.k.isBad=false:=by simpa using hb
   have e1:p.step H n=p.stp H n:=by simp[WP.step,he,hb]
   have hl:=enabled_at he
   rw[e1]
   have hc:p.at_=0∨p.at_=1∨p.at_=2∨p.at_=3∨p.at_=4∨p.at_=5∨p.at_=6:=by omega
   rcases hc with h | h | h | h | h | h | h
   ·rw[stp0 H n h]; simp[WP.places,hb,h]
   ·rw[stp1 H n h]; simp[WP.places,hb,h]
   ·rw[stp2 H n h]; simp[WP.places,hb,h]
   ·rw[stp3 H n h]; simp[WP.places,hb,h]
   ·rw[stp4 H n h]; simp[WP.places,hb,h]
   ·rw[stp5 H n h]; simp[WP.places,hb,h]
   ·rw[stp6 H n (by omega)]; simp[WP.places,hb,h]
theorem hstep_placed (p:HP)(m:Mine)(H:Hall)(n:Int):(p.step m H n).1.placed=if p.enabled H=true∧p.places=true then n else p.placed:=by
 cases he:p.enabled H with
 | false=>simp[HP.step,he]
 | true =>
  have hl:=HP.lt_of_en he
  simp only[HP.step,he,if_true,true_and]
  unfold HP.stp
  by_cases hb:badB p.x=true
  ·simp[hb,HP.places,HP.one]
  have hb:badB p.x=false:=by simpa using hb
  by_cases h9:p.x.kind=9
  ·simp[hb,h9,HP.places,HP.one]
  by_cases h8:p.x.kind=8
  ·have h1:=(HP.poll_of hb h8).1
   simp only[hb,h8,Bool.false_eq_true,if_false,if_true,HP.places,h1,Bool.false_or]
   unfold HP.stpP
   by_cases ha:p.at_<p.k
   ·have:¬ p.at_=p.k:=by omega
    simp[ha,this]
   by_cases hk:p.at_=p.k
   ·simp[hk]
   ·simp only[ha,hk,if_false,decide_false,Bool.false_eq_true,show ¬ (8:Int)=9 by decide]
    by_cases h2:p.at_≤2*p.k
    ·simp[h2]
    ·simp[h2]
  ·have h1:=(HP.kind_of hb h9 h8).1
   simp only[hb,h8,h9,Bool.false_eq_true,if_false,HP.places,h1,Bool.false_or]
   unfold HP.stpW
   by_cases h0:p.at_=0
   ·simp[h0]
   by_cases ha:p.at_=1
   ·simp[ha]
   ·simp only[h0,ha,if_false,decide_false,Bool.false_eq_true]
    repeat' split
    all_goals rfl
def PlW (p:WP):Prop:=p.placed = -1∨(0≤p.placed∧if p.k.isBad=true then 7≤p.at_ else 3≤p.at_)
def PlH (p:HP):Prop:=p.placed = -1∨(0≤p.placed∧p.pl<p.at_)
theorem PlW.no {p:WP}{H:Hall}(h:0≤p.placed)(x:PlW p):¬ (p.enabled H=true∧p.places=true):=by
 rintro⟨he,hp⟩
 have hl:=enabled_at he
 rcases x with x | ⟨_,x⟩
 ·omega
 ·unfold WP.places at hp
  by_cases hb:p.k.isBad=true
  ·rw[if_pos hb] at x; omega
  ·rw[if_neg hb] at x
   simp[hb] at hp; omega
theorem PlH.no {p:HP}{H:Hall}(h:0≤p.placed)(x:PlH p):¬ (p.enabled H=true∧p.places=true):=by
 rintro⟨he,hp⟩
 have hl:=HP.lt_of_en he
 rw[places_pl p hl] at hp
 have hp:p.at_=p.pl:=by simpa using hp
 rcases x with x | ⟨_,x⟩<;>omega
theorem PlW.step {p:WP}(x:PlW p)(H:Hall){n:Int}(hn:0≤n):PlW (p.step H n).1:=by
 have hk:=(wstep_k p H n).1
 have hp:=wstep_placed p H n
 by_cases hpl:p.enabled H=true∧p.places=true
 ·rw[if_pos hpl] at hp
  refine .inr ⟨by rw[hp]; exact hn,?_⟩
  obtain⟨he,hq⟩:=hpl
  rw[hk]
  by_cases hb:p.k.isBad=true
  ·have e1:p.step H n=({ p with err:=1,placed:=n,at_:=7 },H):=by simp[WP.step,he,hb]
   rw[if_pos hb,e1]; exact Nat.le_refl 7
  ·have e1:p.step H n=p.stp H n:=by simp[WP.step,he,hb]
   have h2:p.at_=2:=by simpa [WP.places,hb] using hq
   rw[if_neg hb,e1,stp_at p H n (by omega)]; omega
 ·rw[if_neg hpl] at hp
  rcases x with x | ⟨x,y⟩
  ·exact .inl (by rw[hp]; exact x)
  ·refine .inr ⟨by rw[hp]; exact x,?_⟩
   rw[hk]
   have:p.at_≤(p.step H n).1.at_:=by
    cases he:p.enabled H with
    | false=>simp[WP.step,he]
    | true =>
     have hl:=enabled_at he
     by_cases hb:p.k.isBad=true
     ·rw[if_pos hb] at y; omega
     ·have e1:p.step H n=p.stp H n:=by simp[WP.step,he,hb]
      rw[e1,stp_at p H n hl]; omega
   split at y
   ·rename_i hb; rw[if_pos hb]; omega
   ·rename_i hb; rw[if_neg hb]; omega
theorem PlH.step {p:HP}(x:PlH p)(m:Mine)(H:Hall){n:Int}(hn:0≤n):PlH (p.step m H n).1:=by
 have hk:=hstep_k p m H n
 have hp:=hstep_placed p m H n
 have hat:=hstep_at p m H n
 have hpl':(p.step m H n).1.pl=p.pl:=by unfold HP.pl HP.one; rw[hk.2.1,hk.2.2.1]
 by_cases hpl:p.enabled H=true∧p.places=true
 ·rw[if_pos hpl] at hp
  obtain⟨he,hq⟩:=hpl
  rw[places_pl p (HP.lt_of_en he)] at hq
  have hq:p.at_=p.pl:=by simpa using hq
  rw[if_pos he] at hat
  exact .inr ⟨by rw[hp]; exact hn,by rw[hpl',hat]; omega⟩
 ·rw[if_neg hpl] at hp
  rcases x with x | ⟨x,y⟩
  ·exact .inl (by rw[hp]; exact x)
  ·refine .inr ⟨by rw[hp]; exact x,?_⟩
   rw[hpl',hat]; split<;>omega
theorem PlW.ev {p:WP}(x:PlW p)(H:Hall){n:Int}(hn:0≤n):(p.placed<0∧(p.step H n).1.placed=n)↔(p.enabled H=true∧p.places=true):=by
 rw[wstep_placed]
 constructor
 ·rintro⟨h1,h2⟩
  by_cases h:p.enabled H=true∧p.places=true
  ·exact h
  ·rw[if_neg h] at h2; omega
 ·intro h
  rw[if_pos h]
  refine⟨?_,rfl⟩
  by_cases h0:0≤p.placed
  ·exact absurd h (x.no h0)
  ·omega
theorem PlH.ev {p:HP}(x:PlH p)(m:Mine)(H:Hall){n:Int}(hn:0≤n):(p.placed<0∧(p.step m H n).1.placed=n)↔(p.enabled H=true∧p.places=true):=by
 rw[hstep_placed]
 constructor
 ·rintro⟨h1,h2⟩
  by_cases h:p.enabled H=true∧p.places=true
  ·exact h
  ·rw[if_neg h] at h2; omega
 ·intro h
  rw[if_pos h]
  refine⟨?_,rfl⟩
  by_cases h0:0≤p.placed
  ·exact absurd h (x.no h0)
  ·omega
end Go.Den
namespace Go.Den
open Go
set_option linter.unusedVariables false
set_option linter.unusedSimpArgs false
theorem LI.ss_away {W:Wd}{M:Tbl}{k m:Nat}(x:LI W M)(hs:HS k W.H)(ts:TS m M){i j:Nat}{p q:PR}(hp:W.ps i=some p)(hq:W.ps j=some q)(hij:j≠i)(n:Int){s:Nat}(hn:s<W.H.n)(h:q.holds s):(W.step i n).H.ss s=W.H.ss s:=by
 have hH:(W.step i n).H=(p.step (W.ms i) W.H n).2.2:=by simp only[Wd.step,hp]
 rw[hH]
 have hw:=x.own j q s hn hq h
 by_cases he:p.enabled W.H=true
 ·have l:=x.loc hs ts hp n he hn
  have nh:¬ p.holds s:=fun hh=>by have:=x.own i p s hn hp hh; omega
  rcases l.b nh with ⟨h1,_⟩ | ⟨h0,_⟩
  ·exact h1
  ·omega
 ·rw[pstep_off (by simpa using he)]
theorem Wd.step_ps {W:Wd}{i j:Nat}{p:PR}(hp:W.ps i=some p)(n:Int):(W.step i n).ps j=if j=i then some (p.step (W.ms i) W.H n).1 else W.ps j:=by simp only[Wd.step,hp,bset]
theorem Wd.step_ms {W:Wd}{i j:Nat}{p:PR}(hp:W.ps i=some p)(n:Int):(W.step i n).ms j=if j=i then (p.step (W.ms i) W.H n).2.1 else W.ms j:=by simp only[Wd.step,hp,bset]
theorem Wd.step_H {W:Wd}{i:Nat}{p:PR}(hp:W.ps i=some p)(n:Int):(W.step i n).H=(p.step (W.ms i) W.H n).2.2:=by simp only[Wd.step,hp]
theorem LI.po_away {W:Wd}{M:Tbl}{k m:Nat}(x:LI W M)(hs:HS k W.H)(hk:k<100000)(ts:TS m M){i j:Nat}{p q:PR}(hp:W.ps i=some p)(hq:W.ps j=some q)(hij:j≠i)(n:Int){r:Reply}(po:PO q (W.ms j) W.H r):PO q ((W.step i n).ms j) (W.step i n).H r:=by
 rw[Wd.step_ms hp,if_neg hij]
 have hc:(W.step i n).H.c=W.H.c:=by rw[Wd.step_H hp]; exact (pstep_n (m:=W.ms i) hs n hk (x.pa i p hp)).2.1
 exact po.frame (x.pa j q hq) hc fun s h1 h2=>x.ss_away hs ts hp hq hij n h2 h1
structure Crw (nw nm:Nat)(X:Nat→OpD)(want:Nat→Reply)(W:Wd):Prop where
 w:∀ i q,i<nw→W.ps i=some q→∃ p,q = .w p∧p.k=wkOf (X i)∧PlW p
 h:∀ i q,nw≤i→W.ps i=some q→∃ p,q = .h p∧p.x=X i∧PlH p∧HO p (W.ms i) W.H (want i)
 o:∀ i,nm≤i→W.ps i=none
 k:∀ i,i<nw→(X i).kind=1∨(X i).kind=2∨(X i).kind=3
section
variable {nw nm i k:Nat}{X:Nat→OpD}{want:Nat→Reply}{W:Wd}{M:Tbl}
theorem Crw.step_w (c:Crw nw nm X want W)(li:LI W M)(hs:HS k W.H)(hk:k<100000)(ts:TS k M){p:WP}(hp:W.ps i=some (.w p))(hi:i<nw)(hm:i<nm)(h8:nm≤8){n:Int}(hn:0≤n) :
  Crw nw nm X want (W.step i n)∧(PR.w p).tb W.H M=(if p.placed<0∧(p.step W.H n).1.placed=n then (M.do_ i (X i)).1 else M):=by
 obtain⟨p',e,hkk,pl⟩:=c.w i _ hi hp
 cases e
 refine⟨⟨fun j q hj hq=>?_,fun j q hj hq=>?_,fun j hj=>?_,c.k⟩,?_⟩
 ·rw[Wd.step_ps hp] at hq
  by_cases hji:j=i
  ·subst hji
   rw[if_pos rfl] at hq; cases hq
   exact⟨_,rfl,by rw[(wstep_k p W.H n).1]; exact hkk,pl.step W.H hn⟩
  ·rw[if_neg hji] at hq
   exact c.w j q hj hq
 ·have hji:j≠i:=by omega
  rw[Wd.step_ps hp,if_neg hji] at hq
  obtain⟨r,e,hx,pr,po⟩:=c.h j q hj hq
  subst e
  exact⟨r,rfl,hx,pr,li.po_away hs hk ts hp hq hji n (r:=want j) po⟩
 ·rw[Wd.step_ps hp,if_neg (by omega)]; exact c.o j hj
 ·show (if p.enabled W.H=true∧p.places=true then (p.k.bef p.s M).1 else M)=_
  rw[hkk,bef_do (c.k i hi) (i:=i) (by omega)]
  by_cases h:p.enabled W.H=true∧p.places=true
  ·rw[if_pos h,if_pos ((pl.ev W.H hn).2 h)]
  ·rw[if_neg h,if_neg fun hh=>h ((pl.ev W.H hn).1 hh)]
theorem Crw.step_h (c:Crw nw nm X want W)(li:LI W M)(hs:HS k W.H)(hk:k<100000)(ts:TS k M){p:HP}(hp:W.ps i=some (.h p))(hi:nw≤i)(hm:i<nm){n:Int}(hn:0≤n) :
  Crw nw nm X (if p.placed<0∧(p.step (W.ms i) W.H n).1.placed=n then bset want i (M.do_ i (X i)).2 else want) (W.step i n)∧(PR.h p).tb W.H M=(if p.placed<0∧(p.step (W.ms i) W.H n).1.placed=n then (M.do_ i (X i)).1 else M):=by
 obtain⟨p',e,hx,pl,po⟩:=c.h i _ hi hp
 cases e
 have hpa:=li.pa i _ hp
 have hw:p.who=i:=hpa.2.w
 have po:=li.po_step hs ts hp n (r:=want i) po
 have po:HO (p.step (W.ms i) W.H n).1 (p.step (W.ms i) W.H n).2.1 (p.step (W.ms i) W.H n).2.2 (if p.enabled W.H=true∧p.places=true then (M.do_ p.who p.x).2 else want i):=po
 rw[hw,hx] at po
 refine⟨⟨fun j q hj hq=>?_,fun j q hj hq=>?_,fun j hj=>?_,c.k⟩,?_⟩
 ·have hji:j≠i:=by omega
  rw[Wd.step_ps hp,if_neg hji] at hq
  exact c.w j q hj hq
 ·rw[Wd.step_ps hp] at hq
  by_cases hji:j=i
  ·subst hji
   rw[if_pos rfl] at hq; cases hq
   refine⟨_,rfl,by rw[(hstep_k p (W.ms j) W.H n).2.1]; exact hx,pl.step (W.ms j) W.H hn,?_⟩
   rw[Wd.step_ms hp,if_pos rfl,Wd.step_H hp]
   have e:(if p.placed<0∧(p.step (W.ms j) W.H n).1.placed=n then bset want j (M.do_ j (X j)).2 else want) j=(if p.enabled W.H=true∧p.places=true then (M.do_ j (X j)).2 else want j):=by
    by_cases h:p.enabled W.H=true∧p.places=true
    ·rw[if_pos h,if_pos ((pl.ev (W.ms j) W.H hn).2 h),bset_same]
    ·rw[if_neg h,if_neg fun hh=>h ((pl.ev (W.ms j) W.H hn).1 hh)]
   rw[e]; exact po
  ·rw[if_neg hji] at hq
   obtain⟨r,e,hx',pr,po'⟩:=c.h j q hj hq
   subst e
   refine⟨r,rfl,hx',pr,?_⟩
   have e:(if p.placed<0∧(p.step (W.ms i) W.H n).1.placed=n then bset want i (M.do_ i (X i)).2 else want) j=want j:=by
    split
    ·exact bset_ne hji
    ·rfl
   rw[e]
   exact li.po_away hs hk ts hp hq hji n (r:=want j) po'
 ·rw[Wd.step_ps hp,if_neg (by omega)]; exact c.o j hj
 ·show (if p.enabled W.H=true∧p.places=true then (M.do_ p.who p.x).1 else M)=_
  rw[hw,hx]
  by_cases h:p.enabled W.H=true∧p.places=true
  ·rw[if_pos h,if_pos ((pl.ev (W.ms i) W.H hn).2 h)]
  ·rw[if_neg h,if_neg fun hh=>h ((pl.ev (W.ms i) W.H hn).1 hh)]
theorem Crw.new_w (c:Crw nw nm X want W){p:WP}(hk:p.k=wkOf (X i))(hpl:p.placed = -1)(hi:i<nw)(hm:i<nm):Crw nw nm X want { W with ps:=bset W.ps i (some (.w p)) }:=by
 refine⟨fun j q hj hq=>?_,fun j q hj hq=>?_,fun j hj=>?_,c.k⟩
 ·by_cases hji:j=i
  ·subst hji
   have hq:bset W.ps j (some (.w p)) j=some q:=hq
   rw[bset_same] at hq; cases hq
   exact⟨_,rfl,hk,.inl hpl⟩
  ·have hq:bset W.ps i (some (.w p)) j=some q:=hq
   rw[bset_ne hji] at hq
   exact c.w j q hj hq
 ·have hji:j≠i:=by omega
  have hq:bset W.ps i (some (.w p)) j=some q:=hq
  rw[bset_ne hji] at hq
  exact c.h j q hj hq
 ·show bset W.ps i (some (.w p)) j=none
  rw[bset_ne (by omega)]; exact c.o j hj
theorem Crw.new_h (c:Crw nw nm X want W)(x:OpD)(hi:nw≤i)(hm:i<nm):Crw nw nm (bset X i x) want { W with ps:=bset W.ps i (some (.h (hp0 W.H i x))) }:=by
 refine⟨fun j q hj hq=>?_,fun j q hj hq=>?_,fun j hj=>?_,fun j hj=>?_⟩
 ·have hji:j≠i:=by omega
  have hq:bset W.ps i (some (.h (hp0 W.H i x))) j=some q:=hq
  rw[bset_ne hji] at hq
  rw[bset_ne hji]
  exact c.w j q hj hq
 ·by_cases hji:j=i
  ·subst hji
   have hq:bset W.ps j (some (.h (hp0 W.H j x))) j=some q:=hq
   rw[bset_same] at hq; cases hq
   refine⟨_,rfl,by rw[bset_same]; rfl,.inl rfl,?_⟩
   exact⟨fun _=>.inl ⟨rfl,rfl⟩,fun _ _=>⟨rfl,rfl,fun _=>⟨rfl,rfl,rfl⟩,fun h=>absurd h (by simp[hp0]),fun h=>absurd h (by simp[hp0])⟩,fun _ _=>⟨fun _=>rfl,fun h=>absurd h (by simp[hp0]),fun h=>absurd h (by simp[hp0])⟩⟩
  ·have hq:bset W.ps i (some (.h (hp0 W.H i x))) j=some q:=hq
   rw[bset_ne hji] at hq
   rw[bset_ne hji]
   exact c.h j q hj hq
 ·show bset W.ps i (some (.h (hp0 W.H i x))) j=none
  rw[bset_ne (by omega)]; exact c.o j hj
 ·rw[bset_ne (by omega)]; exact c.k j hj
theorem Crw.fin (c:Crw nw nm X want W)(li:LI W M)(n1:1≤W.H.n){p:HP}(hp:W.ps i=some (.h p))(hi:nw≤i)(hd:p.done=true):p.rep=want i:=by
 obtain⟨p',e,hx,pl,po⟩:=c.h i _ hi hp
 cases e
 have hg:=(li.pa i _ hp).1
 have hk:=hg.k
 have ha:=hg.a
 simp[HP.done] at hd
 exact po.fin (by omega) (by omega)
end
end Go.Den
namespace Go.Proofs.YtcnphhhcknhhaaaGreat
open Go Go.Den Go.MapKept
set_option linter.unusedSimpArgs false
set_option linter.unusedVariables false
set_option maxRecDepth 20000
def pollO:OpD:=⟨8,⟨#[]⟩,0,0,0,0,[]⟩
theorem pollW:OpW pollO:=⟨by simp[pollO,I64],by simp[pollO,I64],by simp[pollO,I64],by simp[pollO,I64],by simp[pollO,U64],by simp[pollO,maxLen]; decide⟩
theorem bdOpPoll:bdV (binf P qxZ) [(0,.int .i64 8)]=some (.agg (opC pollO (.slice none 0 0)).toArray):=by kernel_rfl
def aw17:Nat→HP × Mine × Hall
 | 0=>(hp0 (hall0 small 3) 0 pollO,[],hall0 small 3)
 | n+1=>(aw17 n).1.step (aw17 n).2.1 (aw17 n).2.2 n
theorem aw17_done:∀ n,n≤10→((aw17 n).1.done=true↔n=10):=by decide +kernel
theorem aw17_end:(aw17 10).1.placed=3:=by decide +kernel
def Aw17 (T0:Tags)(h0:Heap)(hp pp mp:Nat)(v:Value)(h':Heap):Prop :=
 ∃ (T':Tags) (k:Nat) (W:Wd) (M:Tbl),Only UH T0 h0 T' h'∧HdM T' h' hp (fun _=>pp) (fun _=>mp) 1 W∧WdK k W M∧W.H=(aw17 k).2.2∧W.ps 0=some (.h (aw17 k).1)∧W.ms 0=(aw17 k).2.1∧(∀ j,j≠0→W.ps j=none)∧v = .int .i64 k∧k≤10
variable {K:KTy}
set_option maxHeartbeats 1000000 in
theorem awake17_ok {h:Heap}(hk:∀ h',Ext h h'→K (.bool true) h'):callM P qdvZ #[] h K:=by
 apply qrUZ
 unfold qgCZ
 refine small_ok fun h1 e1=>?_
 unfold qjNZ
 have w1:=wf_nil h1
 refine hallNew_ok small smallW w1 g1 (fun hr T2 h2 q o2 y2=>?_) (fun hr=>by simp[rightB,small] at hr)
 have hn3:small.stripes.toNat=3:=by decide
 have r2:=RH.init smallW hr o2.wf y2 (fun _=>0)
 rw[hn3] at r2 y2
 unfold qjMZ
 have enil:binV .eql 4 true (ptr q) (.pointer none)=some (.bool false):=rfl
 simp -implicitDefEqProofs[enil]
 unfold qjLZ
 refine newMine_ok o2.wf (g5i 0) fun T3 h3 mp o3 n3 z3=>?_
 have r3:=rh_mine r2 o3 z3
 unfold qjKZ
 rw[bdOpPoll]
 simp -implicitDefEqProofs only[ov_s]
 obtain⟨A,x3⟩:=r3.x
 have hB:bset (fun _=>0) 0 mp 0=mp:=rfl
 have h6:badB pollO=false→6≤pollO.kind:=fun _=>by simp[pollO]
 have:=hdnew_h (i:=0) (by omega) pollO pollW (by simp[pollO]) h6 (v:=.slice none 0 0) (.inl ⟨rfl,_,_,rfl⟩) o3.wf x3 r3.k (fun p h=>by simp[wd0] at h) (K:=fun v19 h20=>qfPZ (.agg (cfgC small).toArray) (.tuple #[ptr q,.int .i64 0]) (ptr q) (.int .i64 0) (.bool false) (ptr q) (.bool false) (.bool false) (ptr mp) (.agg (opC pollO (.slice none 0 0)).toArray) v19 h20 K)
 rw[hB] at this
 refine this fun T4 h4 p o4 x4 k4=>?_
 clear this
 have o0:Only UH (fun _=>[]) h1 T4 h4:=((o2.mono fun _=>UH.i1).up o3 non_up).trans o4
 unfold qfPZ
 rw[seqM_eq]
 unfold qjJZ
 refine loop_on [1,3] (fun s h'=>Aw17 T4 h4 q p mp (s 4) h') (fun s _=>(20-num (s 4)).toNat) ⟨T4,0,_,_,Only.refl o4.wf,⟨x4.hl,fun i r hr=>?_,fun i hi=>?_⟩,k4,rfl,rfl,rfl,fun j hj=>?_,rfl,by omega⟩ ?_
 ·by_cases hi:i=0
  ·subst hi; exact x4.ps 0 r hr
  ·have hr:bset (wd0 small 3).ps 0 (some (.h (hp0 (hall0 small 3) 0 pollO))) i=some r:=hr
   rw[bset_ne hi] at hr; simp[wd0] at hr
 ·have hi0:i=0:=by omega
  subst hi0
  exact x4.ms 0 (by omega)
 ·show bset (wd0 small 3).ps 0 _ j=none
  rw[bset_ne hj]; rfl
 rintro s h4' hf ⟨T4',k,W,M,o4',x4',k4',hH,hP,hM,hO,s4,hk7⟩
 have s1:s 1=ptr q:=by simpa using hf 1 (by simp)
 have s3:s 3=ptr p:=by simpa using hf 3 (by simp)
 have hw:IntKind.i64.wrap ((k:Int)+1)=(k+1:Nat):=by rw[wrap64_id (by omega) (by omega)]; omega
 have hd:=aw17_done k hk7
 have hn20:(k:Int)<20:=by omega
 have xp:=x4'.ps 0 _ hP
 unfold qjIZ
 simp -implicitDefEqProofs[s4,s3,hn20]
 refine hedone_ok xp ?_
 by_cases h7:k=10
 ·subst h7
  rw[hd.2 rfl]
  simp -implicitDefEqProofs[s3,s4]
  unfold qjeZ
  simp -implicitDefEqProofs[s3,s4]
  refine heplaced_ok xp ?_
  rw[aw17_end]
  simp -implicitDefEqProofs[s1,s3,s4]
  exact hk _ (e1.trans (ext_of_only (o0.trans o4') UH.nil))
 ·have hdf:(aw17 k).1.done=false:=by
   cases hh:(aw17 k).1.done with
   | false=>rfl
   | true=>exact absurd (hd.1 hh) h7
  rw[hdf]
  simp -implicitDefEqProofs
  unfold qjHZ
  simp -implicitDefEqProofs only[s3,s1,s4]
  refine hdstep_h (i:=0) (A:=fun _=>p) (B:=fun _=>mp) (hp:=q) (W:=W) (p:=(aw17 k).1) (k:Int) o4'.wf x4' k4' (by omega) (by omega) hP fun T6 h6 o6 x6=>?_
  unfold qjGZ
  simp -implicitDefEqProofs[s1,s3,s4,hw,-Int.natCast_add]
  have hst:W.step 0 k=⟨((aw17 k).1.step (aw17 k).2.1 (aw17 k).2.2 k).2.2,bset W.ps 0 (some (.h ((aw17 k).1.step (aw17 k).2.1 (aw17 k).2.2 k).1)),bset W.ms 0 ((aw17 k).1.step (aw17 k).2.1 (aw17 k).2.2 k).2.1⟩:=by
   simp -implicitDefEqProofs only[Wd.step,hP,PR.step,hH,hM]
  refine⟨⟨T6,k+1,_,_,o4'.trans o6,x6,k4'.step (by omega) hP k,by rw[hst]; rfl,by rw[hst]; rfl,by rw[hst]; rfl,fun j hj=>?_,rfl,by omega⟩,by omega⟩
  rw[hst]
  show bset W.ps 0 _ j=none
  rw[bset_ne hj]; exact hO j hj
end Go.Proofs.YtcnphhhcknhhaaaGreat
namespace Go.Proofs.YtcnphhhcknhhaaaGreat
open Go Go.Den Go.MapKept
set_option linter.unusedSimpArgs false
set_option linter.unusedVariables false
set_option maxRecDepth 20000
theorem short_users {x:OpD}(h:shortB x=true):x.users.length≤20:=by simp[shortB] at h; exact h.2.1
end Go.Proofs.YtcnphhhcknhhaaaGreat
namespace Go.Proofs.YtcnphhhcknhhaaaGreat
open Go Go.Den Go.MapKept
set_option linter.unusedSimpArgs false
set_option linter.unusedVariables false
set_option maxRecDepth 20000
def UB (t:Tag):Prop:=UH t∨pre [4] t
theorem UB.nil:¬ UB []:=by rintro (h | h); exact UH.nil h; simp[pre] at h
theorem dUH4:Off UH [4]:=fun t ht hh=>hh.elim (off_pre (g:=[]) (x:=[1]) (y:=[4]) (by simp) (by simp) t ht) fun hh=>hh.elim (off_pre (g:=[]) (x:=[2]) (y:=[4]) (by simp) (by simp) t ht) (off_pre (g:=[]) (x:=[5]) (y:=[4]) (by simp) (by simp) t ht)
theorem d4UH:∀ t,UH t→¬ pre [4] t:=fun t ht h4=>dUH4 t h4 ht
theorem UH.b {t:Tag}(h:UH t):UB t:=.inl h
section
variable {T5 T' T'':Tags}{h5 h' h'':Heap}{hp tp m k N nm:Nat}{c:Cfg}{B:Nat→Nat}{W W':Wd}{M M':Tbl}
end
theorem rep_len {m:Nat}{M:Tbl}(hs:TS m M)(who:Int)(X:OpD)(hk:6≤X.kind∧X.kind≤9):(M.do_ who X).2.vals=[]∧(M.do_ who X).2.evs.length≤128:=by
 have n8:=ts_n8 hs
 have htot:∀ l:List (List Evt),(∀ x∈l,x.length≤16)→totE l≤16*l.length:=by
  intro l
  induction l with
  | nil=>intro _; simp[totE]
  | cons a l ih =>
   intro hh
   have h1:=ih fun x hx=>hh x (by simp[hx])
   have h2:=hh a (by simp)
   simp -implicitDefEqProofs[totE] at h1 ⊢; omega
 have hp:(M.poll who).2.vals=[]∧(M.poll who).2.evs.length≤128:=by
  refine⟨rfl,?_⟩
  show (mergeE (M.toldTo who M.n)).length≤128
  refine Nat.le_trans (merge_len _) ?_
  have hlen:(M.toldTo who M.n).length=M.n:=by simp[Tbl.toldTo]
  have:=htot (M.toldTo who M.n) fun l hl=>by
   obtain⟨j,hj,rfl⟩:=List.getElem_of_mem hl
   have:(M.toldTo who M.n)[j]=(M.fd j).told who:=by simp[Tbl.toldTo]
   rw[this]
   unfold Feed.told
   split
   ·rename_i hcl
    exact ((hs.fd j (by omega)).qs _ (by simp[clientB] at hcl; omega)).2.2
   ·simp -implicitDefEqProofs
  omega
 have hn:¬ (X.kind=1∨X.kind=2∨X.kind=3):=by omega
 have hw:(M.watch who X.user).2.vals=[]∧(M.watch who X.user).2.evs=[]:=by unfold Tbl.watch; split<;>exact⟨rfl,rfl⟩
 unfold Tbl.do_
 by_cases hb:badB X=true
 ·simp -implicitDefEqProofs[hb,repE]
 by_cases hc:clientB who=true
 rotate_left
 ·simp -implicitDefEqProofs[hb,hc,repE]
 by_cases h8:X.kind=8
 ·simpa [hb,hc,h8] using hp
 by_cases hcl:M.t.closed=true
 ·simp -implicitDefEqProofs[hb,hc,hn,h8,hcl,repE]
 by_cases h6:X.kind=6
 ·simp -implicitDefEqProofs[hb,hc,hn,h8,hcl,h6,hw.1,hw.2]
 by_cases h7:X.kind=7
 ·simp -implicitDefEqProofs[hb,hc,hn,h8,hcl,h6,h7,rep0]
 have h9:X.kind=9:=by omega
 simp -implicitDefEqProofs[hb,hc,hn,h8,hcl,h6,h7,h9,rep0]
end Go.Proofs.YtcnphhhcknhhaaaGreat
namespace Go.Proofs.YtcnphhhcknhhaaaGreat
open Go Go.Den Go.MapKept
set_option linter.unusedSimpArgs false
set_option linter.unusedVariables false
set_option maxRecDepth 20000
variable {K:KTy}
theorem mkRow {t e:TypeId}{bytes n:Nat}{z:Value}{g:Tag}{T:Tags}{h:Heap}(ht:P.underlying t=some (.slice e))(hi:apC P e=some (1,bytes,1))(hz:zc P e=some #[z])(hb:bytes≤100)(hn:n≤8)(w:Wf T h)
  (hk:∀ T' h' v,Only non T h T' h'→Rw T' h' g 1 e v n (seqF n fun _=>[z])→K v h'):vvM P (Instr.makeSlice t (.int .i64 n) (.int .i64 n)) h K:=by
 have hb':bytes*n≤100*8:=Nat.mul_le_mul hb hn
 refine makeSlice_vv ht hi hz (by omega) (by omega) (by unfold maxLen; omega) fun b h1 n1 e1 c1=>?_
 refine hk (tset T b g) h1 _ (Only.enew g w e1 n1 c1) ⟨made_row (by unfold maxLen; omega) c1,fun b' hb'=>?_⟩
 simp -implicitDefEqProofs only[rowOf,Option.some.injEq] at hb'
 subst hb'
 exact tset_same _ _ _
theorem rw1_st {e:TypeId}{g:Tag}{T:Tags}{h:Heap}{v x:Value}{n i:Nat}{F:Nat→Value}{k:IntKind}{K:Heap→Prop}(w:Wf T h)(r:Rw T h g 1 e v n (seqF n fun j=>[F j]))(hi:i<n)(hx:x.cells=#[x])(h1:x.oneCell'=true)
  (hk:∀ h',Only (fun t=>t=g) T h T h'→Rw T h' g 1 e v n (seqF n fun j=>[bset F i x j])→K h'):ov (iaV (some (none,1)) v (.int k i)) fun p=>stM (some 1) p x h K:=by
 obtain⟨b,hb,hia,hc⟩:=row1_at (k:=k) r.1 hi
 rw[hia]
 simp -implicitDefEqProofs only[ov_s]
 have tb:=r.2 b hb
 refine row1_st r.1 hb hi hx h1 fun h' ho hr=>hk h' ?_ ⟨?_,r.2⟩
 ·obtain⟨c,hcb⟩:∃ c,h b=some c:=by
   cases hh:h b with
   | none=>simp[cel,hh] at hc
   | some c=>exact⟨c,rfl⟩
  obtain⟨g',hg',_,hc'⟩:=row1_at (k:=k) hr hi
  have hbg:g'=b:=by rw[hb] at hg'; cases hg'; rfl
  subst hbg
  refine⟨fun j hj=>?_,fun _ _ _=>rfl,fun j z hz=>?_,fun j z hz hn=>?_⟩
  ·by_cases hjb:j=g'
   ·subst hjb; simp[cel,hj] at hc'
   ·rw[ho j hjb] at hj; exact w j hj
  ·by_cases hjb:j=g'
   ·subst hjb
    cases hh:h' j with
    | none=>simp[cel,hh] at hc'
    | some c=>exact⟨c,rfl⟩
   ·exact⟨z,by rw[ho j hjb]; exact hz⟩
  ·rw[ho j fun hjb=>hn (by subst hjb; exact tb)]; exact hz
 ·exact hr
def ptO (W:Wd)(A:Nat→Nat)(i:Nat):Value:=if (W.ps i).isSome then ptr (A i) else .pointer none
def U17 (t:Tag):Prop:=UB t∨t=[6]∨t=[7]∨t=[8]∨t=[9]
theorem U17.nil:¬ U17 []:=by rintro (h | h | h | h | h)<;>first | exact UB.nil h | cases h
theorem off6 {t:Tag}(h:t=[6]∨t=[7]∨t=[8]∨t=[9]):¬ UB t:=by
 rintro ((h1 | h1 | h1) | h1)<;>rcases h with rfl | rfl | rfl | rfl<;>simp[pre] at h1
structure HtW (nw nh:Nat)(av xv wv tv:Value)(Pa Px:Nat→Value)(want:Nat→Reply)(ats:Nat→Nat)(T':Tags)(h':Heap):Prop where
 a:Rw T' h' [6] 1 qgcZ av nw (seqF nw fun i=>[Pa i])
 x:Rw T' h' [7] 1 qwZ xv nh (seqF nh fun j=>[Px j])
 w:∃ vv ev:Nat→Value,Rw T' h' [8] 4 qcZ wv nh (seqF nh fun j=>rplC (want j) (vv j) (ev j))∧∀ j,j<nh→RpX (fz T' h') (want j) (vv j) (ev j)
 t:Rw T' h' [9] 1 qjZ tv nh (seqF nh fun j=>[.int .i64 (ats j)])
theorem HtW.kp {nw nh:Nat}{av xv wv tv:Value}{Pa Px:Nat→Value}{want:Nat→Reply}{ats:Nat→Nat}{U:Tag→Prop}{T T':Tags}{h h':Heap}(y:HtW nw nh av xv wv tv Pa Px want ats T h)(o:Only U T h T' h')(f:∀ t,t=[6]∨t=[7]∨t=[8]∨t=[9]→¬ U t)(n:¬ U []):HtW nw nh av xv wv tv Pa Px want ats T' h':=by
 obtain⟨vv,ev,hw,hr⟩:=y.w
 exact⟨y.a.kp o.k (f _ (by simp)),y.x.kp o.k (f _ (by simp)),⟨vv,ev,hw.kp o.k (f _ (by simp)),fun j hj=>(hr j hj).ext (o.ext n)⟩,y.t.kp o.k (f _ (by simp))⟩
theorem HtW.congr {nw nh:Nat}{av xv wv tv:Value}{Pa Px Pa' Px':Nat→Value}{want want':Nat→Reply}{ats ats':Nat→Nat}{T:Tags}{h:Heap}(y:HtW nw nh av xv wv tv Pa Px want ats T h)(ha:∀ i,i<nw→Pa i=Pa' i)(hx:∀ j,j<nh→Px j=Px' j)(hw:∀ j,j<nh→want j=want' j)(ht:∀ j,j<nh→ats j=ats' j):HtW nw nh av xv wv tv Pa' Px' want' ats' T h:=by
 obtain⟨vv,ev,w1,w2⟩:=y.w
 refine⟨⟨row1_congr y.a.1 ha,y.a.2⟩,⟨row1_congr y.x.1 hx,y.x.2⟩,⟨vv,ev,⟨?_,w1.2⟩,fun j hj=>by rw[← hw j hj]; exact w2 j hj⟩,⟨row1_congr y.t.1 fun j hj=>by rw[ht j hj],y.t.2⟩⟩
 have:(seqF nh fun j=>rplC (want j) (vv j) (ev j))=seqF nh fun j=>rplC (want' j) (vv j) (ev j):=seqF_congr fun j hj=>by rw[hw j hj]
 rw[← this]; exact w1.1
structure HtI (T5:Tags)(h5:Heap)(hp tp k nw nh:Nat)(ws:List OpD)(hs:List (List OpD))(B:Nat→Nat)(av xv wv tv:Value)(W:Wd)(M Md:Tbl)(A:Nat→Nat)(X:Nat→OpD)(want wm:Nat→Reply)(ats am:Nat→Nat)(T':Tags)(h':Heap):Prop where
 o:Only U17 T5 h5 T' h'
 m:HdL T' h' hp A B nw (nw+nh) W
 k:WdK k W M
 d:MdR T' h' [4] tp Md
 c:Crw nw (nw+nh) X want W
 r:HtW nw nh av xv wv tv (ptO W A) (fun j=>ptO W A (nw+j)) (fun j=>wm (nw+j)) am T' h'
 l:∀ j,j<nh→(want (nw+j)).vals=[]∧(want (nw+j)).evs.length≤128
 ta:∀ j (hj:j<hs.length),ats j≤hs[j].length∧((W.ps (nw+j)).isSome=true→∃ h:ats j-1<hs[j].length,1≤ats j∧X (nw+j)=heOp (hs[j][ats j-1]))
 tw:∀ i (hi:i<ws.length),i<nw→X i=wrOp ws[i]
section
variable {T5 T':Tags}{h5 h':Heap}{hp tp k nw nh i:Nat}{ws:List OpD}{hs:List (List OpD)}{B A:Nat→Nat}{av xv wv tv:Value}{W:Wd}{M:Tbl}{X:Nat→OpD}{want:Nat→Reply}{ats:Nat→Nat}{K:KTy}
theorem isSome_step {p:PR}(hp:W.ps i=some p)(n:Int)(j:Nat):((W.step i n).ps j).isSome=(W.ps j).isSome:=by
 rw[Wd.step_ps hp]
 by_cases h:j=i
 ·subst h; rw[if_pos rfl,hp]; rfl
 ·rw[if_neg h]
theorem UH.u17 {t:Tag}(h:UH t):U17 t:=.inl (.inl h)
theorem row_UH:∀ t:Tag,t=[6]∨t=[7]∨t=[8]∨t=[9]→¬ UH t:=fun t h hh=>off6 h (.inl hh)
theorem ht_wstep (y:HtI T5 h5 hp tp k nw nh ws hs B av xv wv tv W M M A X want want ats ats T' h')(hi:i<nw)(h8:nw+nh≤8)(hk:k<100000){p:WP}(hp':W.ps i=some (.w p)){n:Int}(hn:0≤n)
  (hK:∀ T'' h'' M',M'=(if p.placed<0∧(p.step W.H n).1.placed=n then (M.do_ i (X i)).1 else M)→(W.step i n).ps i=some (.w (p.step W.H n).1)→HtI T5 h5 hp tp (k+1) nw nh ws hs B av xv wv tv (W.step i n) M' M A X want want ats ats T'' h''→K (.tuple #[]) h'') :
  callM P qcXZ #[ptr (A i),ptr hp,.int .i64 n] h' K:=by
 refine hlstep_w n y.o.wf y.m y.k hk hp' fun T2 h2 o2 m2=>?_
 obtain⟨c2,e2⟩:=y.c.step_w y.k.li y.k.hs hk y.k.ts hp' hi (by omega) h8 hn
 have k2:=y.k.step hk hp' n
 refine hK T2 h2 _ e2 (by rw[Wd.step_ps hp',if_pos rfl]; rfl) ⟨y.o.trans (o2.mono fun _=>UH.u17),m2,k2,y.d.kp o2.k dUH4 UH.nil,c2,?_,y.l,fun j hj=>?_,y.tw⟩
 ·refine (y.r.kp o2 row_UH UH.nil).congr (fun j hj=>?_) (fun j hj=>?_) (fun _ _=>rfl) (fun _ _=>rfl)
  ·unfold ptO; rw[isSome_step hp' n]
  ·unfold ptO; rw[isSome_step hp' n]
 ·rw[isSome_step hp' n]; exact y.ta j hj
theorem ht_hstep (y:HtI T5 h5 hp tp k nw nh ws hs B av xv wv tv W M M A X want want ats ats T' h')(hi:nw≤i)(hm:i<nw+nh)(hk:k<100000){p:HP}(hp':W.ps i=some (.h p)){n:Int}(hn:0≤n)(hX:6≤(X i).kind∧(X i).kind≤9)
  (hK:∀ T'' h'' M' want',M'=(if p.placed<0∧(p.step (W.ms i) W.H n).1.placed=n then (M.do_ i (X i)).1 else M)→want'=(if p.placed<0∧(p.step (W.ms i) W.H n).1.placed=n then bset want i (M.do_ i (X i)).2 else want)→(W.step i n).ps i=some (.h (p.step (W.ms i) W.H n).1) →
   HtI T5 h5 hp tp (k+1) nw nh ws hs B av xv wv tv (W.step i n) M' M A X want' want ats ats T'' h''→K (.tuple #[]) h'') :
  callM P qaQZ #[ptr (A i),ptr hp,.int .i64 n] h' K:=by
 refine hlstep_h n y.o.wf y.m y.k hk ⟨hi,hm⟩ hp' fun T2 h2 o2 m2=>?_
 obtain⟨c2,e2⟩:=y.c.step_h y.k.li y.k.hs hk y.k.ts hp' hi hm hn
 have k2:=y.k.step hk hp' n
 refine hK T2 h2 _ _ e2 rfl (by rw[Wd.step_ps hp',if_pos rfl]; rfl) ⟨y.o.trans (o2.mono fun _=>UH.u17),m2,k2,y.d.kp o2.k dUH4 UH.nil,c2,?_,fun j hj=>?_,fun j hj=>?_,y.tw⟩
 ·refine (y.r.kp o2 row_UH UH.nil).congr (fun j hj=>?_) (fun j hj=>?_) (fun _ _=>rfl) (fun _ _=>rfl)
  ·unfold ptO; rw[isSome_step hp' n]
  ·unfold ptO; rw[isSome_step hp' n]
 ·split
  ·by_cases hji:nw+j=i
   ·rw[hji,bset_same]; exact rep_len y.k.ts i (X i) hX
   ·rw[bset_ne hji]; exact y.l j hj
  ·exact y.l j hj
 ·rw[isSome_step hp' n]; exact y.ta j hj
theorem ht_do {M':Tbl}{wm:Nat→Reply}(y:HtI T5 h5 hp tp k nw nh ws hs B av xv wv tv W M' M A X want wm ats ats T' h')(x:OpD)(hx:OpW x)(hl:x.users.length<1000000){uv:Value}(hu:Sl 1 StrR (fz T' h') uv x.users)(hts:TS k M)(hk:k<100000)(hM:M'=(M.do_ i x).1)
  (hK:∀ T'' h'' vv ev,Only (pre [4]) T' h' T'' h''→RpX (fz T'' h'') (M.do_ i x).2 vv ev→HtI T5 h5 hp tp k nw nh ws hs B av xv wv tv W M' M' A X want wm ats ats T'' h''→K (.agg (rplC (M.do_ i x).2 vv ev).toArray) h'') :
  callM P qdSZ #[ptr tp,.int .i64 i,.agg (opC x uv).toArray] h' K:=by
 refine mdo_ok i x hx hl hu y.o.wf g4 y.d hts hk fun T2 h2 vv ev o2 d2 rx=>?_
 rw[← hM] at d2
 refine hK T2 h2 vv ev o2 rx ⟨y.o.trans (o2.mono fun _ h=>.inl (.inr h)),y.m.up o2 d4UH (by simp[pre]),y.k,d2,y.c,y.r.kp o2 (fun t h hh=>off6 h (.inr hh)) (by simp[pre]),y.l,y.ta,y.tw⟩
theorem HtI.h1 {M' Md:Tbl}{wm:Nat→Reply}(y:HtI T5 h5 hp tp k nw nh ws hs B av xv wv tv W M' Md A X want wm ats ats T' h'):1≤W.H.n:=y.k.hs.n8.1
theorem ht_wnew (y:HtI T5 h5 hp tp k nw nh ws hs B av xv wv tv W M M A X want want ats ats T' h')(hi:i<nw)(h8:nw+nh≤8)(hdn:∀ q,W.ps i=some q→q.done=true)(xw:OpW (X i))(hl:(X i).users.length<1000000){uv:Value}(hu:Sl 1 StrR (fz T' h') uv (X i).users)
  (hK:∀ h2 q,(∀ (Kh:Heap→Prop),(∀ T3 h3,HtI T5 h5 hp tp k nw nh ws hs B av xv wv tv { W with ps:=bset W.ps i (some (.w (wp0 W.H i (X i)))) } M M (bset A i q) X want want ats ats T3 h3→Kh h3)→ov (iaV (some (none,1)) av (.int .i64 i)) fun pv=>stM (some 1) pv (ptr q) h2 Kh)→K (ptr q) h2) :
  callM P qipZ #[ptr hp,.int .i64 i,.agg (opC (X i) uv).toArray] h' K:=by
 refine hlnew_w (by omega) (X i) xw hl hu y.o.wf y.m y.k (fun q hq=>Idle.done (y.k.li.pa i q hq) (hdn q hq) y.h1) fun T2 h2 q o2 m2 k2=>?_
 refine hK h2 q fun Kh hKh=>?_
 have r2:=y.r.kp o2 row_UH UH.nil
 refine rw1_st o2.wf r2.a hi rfl rfl fun h3 o3 a3=>?_
 have n3:¬ (fun t:Tag=>t=[6]) []:=by simp
 have f3:∀ t,UB t→¬ (fun t:Tag=>t=[6]) t:=fun t ht hh=>off6 (.inl hh) ht
 obtain⟨vv,ev,w1,w2⟩:=r2.w
 have rr:HtW nw nh av xv wv tv (bset (ptO W A) i (ptr q)) (fun j=>ptO W A (nw+j)) (fun j=>want (nw+j)) ats T2 h3 :=
  ⟨a3,r2.x.kp o3.k (by simp),⟨vv,ev,w1.kp o3.k (by simp),fun j hj=>(w2 j hj).ext (o3.ext n3)⟩,r2.t.kp o3.k (by simp)⟩
 have hps:∀ j,j≠i→bset W.ps i (some (.w (wp0 W.H i (X i)))) j=W.ps j:=fun j hj=>bset_ne hj
 refine hKh T2 h3 ⟨(y.o.trans (o2.mono fun _=>UH.u17)).trans (o3.mono fun t h=>.inr (.inl h)),m2.up o3 (fun t ht=>f3 t (.inl ht)) n3,k2,(y.d.kp o2.k dUH4 UH.nil).kp o3.k (fun t ht=>f3 t (.inr ht)) n3,y.c.new_w rfl rfl hi (by omega),rr.congr (fun j hj=>?_) (fun j hj=>?_) (fun _ _=>rfl) (fun _ _=>rfl),y.l,fun j hj=>?_,y.tw⟩
 ·by_cases hji:j=i
  ·subst hji
   rw[bset_same]
   simp -implicitDefEqProofs[ptO,bset_same]
  ·rw[bset_ne hji]
   simp -implicitDefEqProofs[ptO,bset_ne hji]
 ·have hji:nw+j≠i:=by omega
  simp -implicitDefEqProofs[ptO,bset_ne hji]
 ·have hji:nw+j≠i:=by omega
  rw[show ({ W with ps:=bset W.ps i (some (.w (wp0 W.H i (X i)))) }:Wd).ps (nw+j)=W.ps (nw+j) from bset_ne hji]
  exact y.ta j hj
theorem ht_hnew {j:Nat}(y:HtI T5 h5 hp tp k nw nh ws hs B av xv wv tv W M M A X want want ats ats T' h')(hj:j<nh)(h8:nw+nh≤8)(hdn:∀ q,W.ps (nw+j)=some q→q.done=true)(x:OpD)(xw:OpW x)(h6:6≤x.kind)(hl:x.users.length<1000000)(hjs:j<hs.length)(hat:ats j<hs[j].length)(hx:x=heOp (hs[j][ats j])){uv:Value}(hu:Sl 1 StrR (fz T' h') uv x.users)
  (hK:∀ h2 q,(∀ (Kh:Heap→Prop),(∀ T3 h3,Ext (fz T' h') (fz T3 h3)→HtI T5 h5 hp tp k nw nh ws hs B av xv wv tv { W with ps:=bset W.ps (nw+j) (some (.h (hp0 W.H (nw+j) x))) } M M (bset A (nw+j) q) (bset X (nw+j) x) want want (bset ats j (ats j+1)) ats T3 h3→Kh h3)→ov (iaV (some (none,1)) xv (.int .i64 j)) fun pv=>stM (some 1) pv (ptr q) h2 Kh)→K (ptr q) h2) :
  callM P qfNZ #[ptr hp,ptr (B (nw+j)),.int .i64 (nw+j:Nat),.agg (opC x uv).toArray] h' K:=by
 refine hlnew_h (by omega) x xw hl (fun _=>h6) hu y.o.wf y.m y.k (fun q hq=>Idle.done (y.k.li.pa _ q hq) (hdn q hq) y.h1) fun T2 h2 q o2 m2 k2=>?_
 refine hK h2 q fun Kh hKh=>?_
 have r2:=y.r.kp o2 row_UH UH.nil
 refine rw1_st o2.wf r2.x hj rfl rfl fun h3 o3 x3=>?_
 have n3:¬ (fun t:Tag=>t=[7]) []:=by simp
 have f3:∀ t,UB t→¬ (fun t:Tag=>t=[7]) t:=fun t ht hh=>off6 (.inr (.inl hh)) ht
 obtain⟨vv,ev,w1,w2⟩:=r2.w
 have rr:HtW nw nh av xv wv tv (ptO W A) (bset (fun j=>ptO W A (nw+j)) j (ptr q)) (fun j=>want (nw+j)) ats T2 h3 :=
  ⟨r2.a.kp o3.k (by simp),x3,⟨vv,ev,w1.kp o3.k (by simp),fun j hj=>(w2 j hj).ext (o3.ext n3)⟩,r2.t.kp o3.k (by simp)⟩
 refine hKh T2 h3 ((o2.ext UH.nil).trans (o3.ext n3)) ⟨(y.o.trans (o2.mono fun _=>UH.u17)).trans (o3.mono fun t h=>.inr (.inr (.inl h))),m2.up o3 (fun t ht=>f3 t (.inl ht)) n3,k2,(y.d.kp o2.k dUH4 UH.nil).kp o3.k (fun t ht=>f3 t (.inr ht)) n3,y.c.new_h x (by omega) (by omega),rr.congr (fun i hi=>?_) (fun i hi=>?_) (fun _ _=>rfl) (fun _ _=>rfl),y.l,fun i hi=>?_,fun i hi hi2=>?_⟩
 ·have hji:i≠nw+j:=by omega
  simp -implicitDefEqProofs[ptO,bset_ne hji]
 ·by_cases hji:i=j
  ·subst hji
   rw[bset_same]
   simp -implicitDefEqProofs[ptO,bset_same]
  ·have:nw+i≠nw+j:=by omega
   rw[bset_ne hji]
   simp -implicitDefEqProofs[ptO,bset_ne this]
 ·by_cases hji:i=j
  ·subst hji
   rw[bset_same,bset_same]
   refine⟨by omega,fun _=>⟨by omega,by omega,?_⟩⟩
   rw[hx]; simp
  ·have hne:nw+i≠nw+j:=by omega
   rw[bset_ne hji,bset_ne hne]
   rw[show ({ W with ps:=bset W.ps (nw+j) (some (.h (hp0 W.H (nw+j) x))) }:Wd).ps (nw+i)=W.ps (nw+i) from bset_ne hne]
   exact y.ta i hi
 ·rw[bset_ne (by omega)]; exact y.tw i hi hi2
theorem ht_want {j:Nat}{M' Md:Tbl}{want' wm:Nat→Reply}{am:Nat→Nat}{R:Reply}{vv ev:Value}(y:HtI T5 h5 hp tp k nw nh ws hs B av xv wv tv W M' Md A X want' wm ats am T' h')(hj:j<nh)(hw:want'=bset wm (nw+j) R)(rx:RpX (fz T' h') R vv ev){Kh:Heap→Prop}
  (hK:∀ T3 h3,HtI T5 h5 hp tp k nw nh ws hs B av xv wv tv W M' Md A X want' want' ats am T3 h3→Kh h3):ov (iaV (some (none,4)) wv (.int .i64 j)) fun p=>stM (some 4) p (.agg (rplC R vv ev).toArray) h' Kh:=by
 obtain⟨vf,ef,w1,w2⟩:=y.r.w
 obtain⟨b,hb,hia⟩:=w1.1.ia (k:=.i64) hj
 rw[hia]
 simp -implicitDefEqProofs only[ov_s]
 have vo:=rx.v.one
 have eo:=rx.e.one
 have tb:=w1.2 b hb
 have hF:∀ i,i<nh→(rplC (wm (nw+i)) (vf i) (ef i)).length=4:=fun _ _=>rfl
 refine w1.1.st hb (o:=j*4) (m:=4) (by simp[rplC]) (by omega) (by simp[rplC,vo.1,eo.1]) fun h3 ho hr=>?_
 have e:=seqF_spl (sz:=4) (F:=fun j=>rplC (wm (nw+j)) (vf j) (ef j)) (n:=nh) hF (i:=j) (off:=0) (l:=rplC R vv ev) hj (by simp[rplC])
 rw[Nat.add_zero] at e
 rw[show (Value.agg (rplC R vv ev).toArray).cells.toList=rplC R vv ev from rfl,e,spl_whole (xs:=rplC (wm (nw+j)) (vf j) (ef j)) (l:=rplC R vv ev) rfl] at hr
 have o3:Only (fun t:Tag=>t=[8]) T' h' T' h3:=by
  have hal:∀ q:Nat,(∃ z,h' q=some z)→∃ z,h3 q=some z:=fun q hq=>by
   by_cases hqb:q=b
   ·subst hqb
    obtain⟨g,cap,cur,hv,hb3,_⟩:=hr.own (by omega)
    rw[hv] at hb
    simp -implicitDefEqProofs only[rowOf,Option.some.injEq] at hb
    subst hb
    exact⟨_,hb3⟩
   ·rw[ho q hqb]; exact hq
  refine⟨fun q hq=>?_,fun _ _ _=>rfl,fun q z hz=>hal q ⟨z,hz⟩,fun q z hz hn=>?_⟩
  ·cases hh:h' q with
   | none=>exact y.o.wf q hh
   | some z=>obtain⟨z',hz'⟩:=hal q ⟨z,hh⟩; rw[hq] at hz'; cases hz'
  ·rw[ho q fun hqb=>hn (by subst hqb; exact tb)]; exact hz
 have n3:¬ (fun t:Tag=>t=[8]) []:=by simp
 have f3:∀ t,UB t→¬ (fun t:Tag=>t=[8]) t:=fun t ht hh=>off6 (.inr (.inr (.inl hh))) ht
 refine hK T' h3 ⟨y.o.trans (o3.mono fun t h=>.inr (.inr (.inr (.inl h)))),y.m.up o3 (fun t ht=>f3 t (.inl ht)) n3,y.k,y.d.kp o3.k (fun t ht=>f3 t (.inr ht)) n3,y.c,⟨y.r.a.kp o3.k (by simp),y.r.x.kp o3.k (by simp),⟨fun i=>if i=j then vv else vf i,fun i=>if i=j then ev else ef i,⟨?_,w1.2⟩,fun i hi=>?_⟩,y.r.t.kp o3.k (by simp)⟩,y.l,y.ta,y.tw⟩
 ·have:seqF nh (fset (fun j=>rplC (wm (nw+j)) (vf j) (ef j)) j (rplC R vv ev))=seqF nh fun i=>rplC (want' (nw+i)) (if i=j then vv else vf i) (if i=j then ev else ef i):=seqF_congr fun i _=>by
   rw[hw]
   by_cases h:i=j
   ·subst h; simp[fset,bset_same]
   ·have:nw+i≠nw+j:=by omega
    simp -implicitDefEqProofs[fset,h,bset_ne this]
  rw[← this]; exact hr
 ·rw[hw]
  by_cases h:i=j
  ·subst h; simp only[if_true,bset_same]; exact rx.ext (o3.ext n3)
  ·have:nw+i≠nw+j:=by omega
   simp -implicitDefEqProofs only[if_neg h,bset_ne this]; exact (w2 i hi).ext (o3.ext n3)
theorem ht_at {j:Nat}{M' Md:Tbl}{want' wm:Nat→Reply}{am:Nat→Nat}{z:Int}(y:HtI T5 h5 hp tp k nw nh ws hs B av xv wv tv W M' Md A X want' wm ats am T' h')(hj:j<nh)(ha:ats=bset am j (am j+1))(hz:z=(am j+1:Nat)){Kh:Heap→Prop}
  (hK:∀ T3 h3,Ext (fz T' h') (fz T3 h3)→HtI T5 h5 hp tp k nw nh ws hs B av xv wv tv W M' Md A X want' wm ats ats T3 h3→Kh h3):ov (iaV (some (none,1)) tv (.int .i64 j)) fun p=>stM (some 1) p (.int .i64 z) h' Kh:=by
 obtain⟨vf,ef,w1,w2⟩:=y.r.w
 refine rw1_st y.o.wf y.r.t hj rfl rfl fun h3 o3 t3=>?_
 have n3:¬ (fun t:Tag=>t=[9]) []:=by simp
 have f3:∀ t,UB t→¬ (fun t:Tag=>t=[9]) t:=fun t ht hh=>off6 (.inr (.inr (.inr hh))) ht
 refine hK T' h3 (o3.ext n3) ⟨y.o.trans (o3.mono fun t h=>.inr (.inr (.inr (.inr h)))),y.m.up o3 (fun t ht=>f3 t (.inl ht)) n3,y.k,y.d.kp o3.k (fun t ht=>f3 t (.inr ht)) n3,y.c,⟨y.r.a.kp o3.k (by simp),y.r.x.kp o3.k (by simp),⟨vf,ef,w1.kp o3.k (by simp),fun i hi=>(w2 i hi).ext (o3.ext n3)⟩,⟨row1_congr t3.1 fun i hi=>?_,t3.2⟩⟩,y.l,y.ta,y.tw⟩
 rw[ha]
 by_cases h:i=j
 ·subst h; rw[bset_same,bset_same,hz]
 ·rw[bset_ne h,bset_ne h]
end
end Go.Proofs.YtcnphhhcknhhaaaGreat
namespace Go.Proofs.YtcnphhhcknhhaaaGreat
open Go Go.Den
set_option maxRecDepth 100000
set_option linter.unusedVariables false
set_option maxHeartbeats 40000000
def qgRZ (a:Env)(b:Post)(m:List Nat)(c d e f g h i:Value)(j:Heap):Prop:=ov (binV BinOp.add 2 true (a 13) (Value.int IntKind.i64 1)) fun k=>b .normal m (puts a [(76,(a 13)),(77,c),(78,d),(79,e),(80,f),(83,(a 12)),(84,g),(85,h),(86,i),(12,i),(81,(a 13)),(82,k),(13,k)]) j
def qgSZ (a:Value)(b:Heap)(c:Env)(d:Post)(m:List Nat)(e f g h:Value):Prop:=bsM (bsI P qbdZ) 1 [(0,a)] b fun i j=>vvM P (Builtin.append_ #[qbdZ,qbdZ] qbdZ #[(c 12),i]) j fun k l=>qgRZ c d m e f g h a i k l
def qgTZ (a:Heap)(b:Env)(c:Post)(m:List Nat)(d e f g:Value):Prop:=callM P qhZZ #[] a fun h i=>qgSZ h i b c m d e f g
def qgUZ (a:Env)(b:Heap)(c:Post)(m:List Nat):Prop:=ov (faV (some 8) (a 1)) fun d=>ov (ldV (some none) d b) fun e=>ov (lnV 7 e) fun f=>ov (binV BinOp.lss 2 false (a 13) f) fun g=>cdM g (qgTZ b a c m d e f g) (c (.exit 0) m (puts a [(76,(a 13)),(77,d),(78,e),(79,f),(80,g)]) b)
def qgVZ (x0 a b c d e f g h i j k l n o p q r s t u v w x y z aa ab ac ad ae af ag ah ai aj ak al am an ao ap aq ar au av aw ax ay az ba:Value)(bb:Heap)(bc:Post):Prop:=loopM (fun m bd be bf=>qgUZ bd be bf m) [] (puts (envOf [x0]) [(1,a),(2,(Value.bool false)),(19,b),(20,c),(21,c),(22,d),(23,e),(24,f),(25,g),(28,h),(29,i),(30,j),(27,j),(31,k),(32,l),(3,k),(4,l),(34,n),(35,o),(36,p),(33,p),(37,q),(38,r),(5,q),(6,r),(39,l),(40,s),(41,s),(42,t),(43,u),(44,v),(45,v),(46,w),(47,x),(48,y),(49,y),(50,z),(51,aa),(52,ab),(53,ac),(54,ad),(55,ae),(56,af),(57,ag),(58,ah),(59,ai),(7,ai),(60,aj),(61,ak),(62,al),(63,am),(8,am),(64,an),(65,ao),(66,ap),(67,aq),(9,aq),(68,ar),(69,au),(70,av),(71,aw),(10,aw),(72,ax),(73,ay),(74,az),(75,ba),(11,ba),(12,(Value.slice none 0 0)),(13,(Value.int IntKind.i64 0))]) bb (blkM 0 bc)
def qgWZ (a:Env)(b c:Value)(d:Heap)(e:Post)(m:List Nat)(f g h i j k l n o p q r s t u v w x y z aa ab ac ad ae af ag:Value):Prop:=ov (iaV (some (none,1)) (a 8) b) fun ah=>stM (some 1) ah c d fun ai=>e .normal m (puts a [(87,(a 14)),(88,f),(89,g),(90,h),(91,i),(94,j),(95,k),(96,(a 14)),(97,l),(98,n),(99,o),(100,(a 7)),(101,b),(15,b),(102,b),(103,p),(104,q),(105,r),(106,s),(107,(a 8)),(108,b),(109,t),(110,u),(111,v),(112,v),(113,w),(114,x),(115,y),(116,z),(117,aa),(118,ab),(119,(a 8)),(120,b),(121,(a 3)),(122,b),(123,ac),(124,ad),(125,b),(126,ae),(127,af),(128,ag),(129,c),(130,ah)]) ai
def qgXZ (a:Env)(b c:Value)(d:Heap)(e:Post)(m:List Nat)(f g h i j k l n o p q r s t u v w x y z aa ab ac ad ae af:Value):Prop:=callM P qipZ #[(a 3),b,c] d fun ag ah=>qgWZ a b ag ah e m f g h i j k l n o p q r s t u v w x y z aa ab ac ad ae af c
def qdKZ (a:Env)(b:Heap)(c:Value)(d:Post)(m:List Nat)(e f g h i j k l n o p q r s t u v w x y z aa:Value):Prop:=ov (faV (some 7) (a 1)) fun ab=>ov (ldV (some none) ab b) fun ac=>ov (iaV (some (none,7)) ac c) fun ad=>ov (ldV (some (some 7)) ad b) fun ae=>callM P qcuZ #[ae] b fun af ag=>qgXZ a c af ag d m e f g h i j k l n o p q r s t u v w x y z aa ab ac ad ae
def qgYZ (a:Post)(m:List Nat)(b:Env)(c d e f g h i j k l n o p q r s t u v w x y z:Value)(aa:Heap):Prop:=a .normal m (puts b [(87,(b 14)),(88,c),(89,d),(90,e),(91,f),(94,g),(95,h),(96,(b 14)),(97,i),(98,j),(99,k),(100,(b 7)),(101,l),(15,l),(102,l),(103,n),(104,o),(105,p),(106,q),(107,(b 8)),(108,l),(109,r),(110,s),(111,t),(112,t),(113,u),(114,v),(115,w),(116,x),(117,y),(118,z)]) aa
def qgZZ (a:Env)(b:Value)(c:Heap)(d:Post)(m:List Nat)(e f g h i j k l n o p q r:Value):Prop:=ov (iaV (some (none,1)) (a 8) b) fun s=>ov (ldV (some none) s c) fun t=>ov (binV BinOp.eql 4 true t (Value.pointer none)) fun u=>gM (isB u false) (fun v=>v (a 8) c) c fun w x=>gM (isB u false) (fun y=>y b x) x fun z aa=>gM (isB u false) (fun ab=>ov (iaV (some (none,1)) w z) fun ac=>ab ac aa) aa fun ad ae=>gM (isB u false) (fun af=>ov (ldV (some none) ad ae) fun ag=>af ag ae) ae fun ah ai=>gM (isB u false) (fun aj=>callM P qfyZ #[ah] ai fun ak al=>aj ak al) ai fun am an=>ov (pkV u (Value.bool true) am) fun ao=>cdM ao (qdKZ a an b d m e f g h i j k l n o p q r s t u w z ad ah am ao) (qgYZ d m a e f g h i j k l n b o p q r s t u w z ad ah am ao an)
def qhaZ (a:Post)(m:List Nat)(b:Env)(c d e f g h i j k l n o p q r s t u v w x:Value)(y:Heap):Prop:=a .normal m (puts b [(131,(b 8)),(132,(b 15)),(133,c),(134,d),(135,e),(16,e),(136,(b 8)),(137,(b 15)),(138,f),(139,g),(140,(b 3)),(141,(b 14)),(142,h),(143,e),(144,i),(145,i),(146,j),(147,k),(148,l),(149,n),(150,o),(151,p),(152,q),(153,r),(154,(b 5)),(155,(b 15)),(156,s),(157,t),(158,(b 15)),(159,u),(160,v),(161,w),(162,x)]) y
def qhbZ (a:Env)(b:Value)(c:Heap)(d:Post)(m:List Nat)(e f g h i j k l n o p q r s t u v w x:Value):Prop:=callM P qdSZ #[(a 5),(a 15),b] c fun y z=>qhaZ d m a e f g h i j k l n o p q r s t u v w x b y z
def qhcZ (a:Env)(b:Heap)(c:Post)(m:List Nat)(d e f g h i j k l n o p q r s:Value):Prop:=ov (faV (some 7) (a 1)) fun t=>ov (ldV (some none) t b) fun u=>ov (iaV (some (none,7)) u (a 15)) fun v=>ov (ldV (some (some 7)) v b) fun w=>callM P qcuZ #[w] b fun x y=>qhbZ a x y c m d e f g h i j k l n o p q r s t u v w
def qdLZ (a:Post)(m:List Nat)(b:Env)(c d e f g h i j k l n o p q r:Value)(s:Heap):Prop:=a .normal m (puts b [(131,(b 8)),(132,(b 15)),(133,c),(134,d),(135,e),(16,e),(136,(b 8)),(137,(b 15)),(138,f),(139,g),(140,(b 3)),(141,(b 14)),(142,h),(143,e),(144,i),(145,i),(146,j),(147,k),(148,l),(149,n),(150,o),(151,p),(152,q),(153,r)]) s
def qhdZ (a:Value)(b:Env)(c:Heap)(d:Post)(m:List Nat)(e f g h i:Value):Prop:=ov (binV BinOp.lss 2 true a (Value.int IntKind.i64 0)) fun j=>gM (isB j true) (fun k=>k (b 8) c) c fun l n=>gM (isB j true) (fun o=>o (b 15) n) n fun p q=>gM (isB j true) (fun r=>ov (iaV (some (none,1)) l p) fun s=>r s q) q fun t u=>gM (isB j true) (fun v=>ov (ldV (some none) t u) fun w=>v w u) u fun x y=>gM (isB j true) (fun z=>callM P qeaZ #[x] y fun aa ab=>z aa ab) y fun ac ad=>gM (isB j true) (fun ae=>ae (b 14) ad) ad fun af ag=>gM (isB j true) (fun ah=>ov (binV BinOp.eql 2 false ac af) fun ai=>ah ai ag) ag fun aj ak=>ov (pkV j aj (Value.bool false)) fun al=>cdM al (qhcZ b ak d m e f a g h i j l p t x ac af aj al) (qdLZ d m b e f a g h i j l p t x ac af aj al ak)
def qheZ (a:Value)(b:Env)(c:Heap)(m:List Nat)(d e f g h:Value)(i:Post):Prop:=seqM (fun j=>qhdZ a b c j m d e f g h) (fun m k l=>i (.exit 3) m k l) i
def qhfZ (a:Env)(b:Heap)(c:Value)(m:List Nat)(d e:Value)(f:Post):Prop:=ov (iaV (some (none,1)) (a 8) (a 15)) fun g=>ov (ldV (some none) g b) fun h=>callM P qcXZ #[h,(a 3),(a 14)] b fun i j=>qheZ c a j m d e g h i f
def qbsZ (a:Env)(b:Heap)(m:List Nat)(c:Post):Prop:=ov (iaV (some (none,1)) (a 8) (a 15)) fun d=>ov (ldV (some none) d b) fun e=>callM P qeaZ #[e] b fun f g=>qhfZ a g f m d e c
def qhgZ (a:Env)(b:Value)(c:Heap)(m:List Nat)(d e f g h i j k l n o p q:Value)(r:Post):Prop:=seqM (fun s=>qgZZ a b c s m d e f g h i j k l n o p q) (fun m t u=>qbsZ t u m r) r
def qhhZ (a:Post)(m:List Nat)(b:Env)(c d e f g h i j k l n o p q:Value)(r:Heap):Prop:=a .normal m (puts b [(87,(b 14)),(88,c),(89,d),(90,e),(91,f),(94,g),(95,h),(96,(b 14)),(97,i),(98,j),(99,k),(100,(b 7)),(101,l),(15,l),(102,l),(103,n),(104,o),(105,p),(106,q)]) r
def qhiZ (a:Env)(b:Heap)(c:Value)(m:List Nat)(d e f g h i j k l:Value)(n:Post):Prop:=ov (faV (some 7) (a 1)) fun o=>ov (ldV (some none) o b) fun p=>ov (lnV 7 p) fun q=>ov (binV BinOp.lss 2 false c q) fun r=>cdM r (qhgZ a c b m d e f g h i j k l o p q r n) (qhhZ n m a d e f g h i j k l c o p q r b)
def qhjZ (a:Post)(m:List Nat)(b:Env)(c d e f g h i j k l n o p q r s t u v w x:Value)(y:Heap):Prop:=a (.exit 3) m (puts b [(163,(b 15)),(164,c),(165,d),(166,e),(167,f),(17,f),(168,(b 9)),(169,f),(170,g),(171,h),(172,i),(173,i),(174,j),(175,k),(176,l),(177,n),(178,o),(179,p),(180,(b 11)),(181,f),(182,q),(183,r),(184,s),(185,t),(186,f),(187,u),(188,v),(189,w),(190,x)]) y
def qhkZ (a:Value)(b:Heap)(c:Value)(d:Env)(e f:Value)(g:Post)(m:List Nat)(h i j k l n o p q r s t u v w x y z aa ab ac ad ae af ag ah ai aj:Value):Prop:=ldV (some none) a b=some c∧callM P qfNZ #[(d 3),c,(d 15),e] b fun ak al=>ov (iaV (some (none,1)) (d 9) f) fun am=>stM (some 1) am ak al fun an=>ov (iaV (some (none,1)) (d 11) f) fun ao=>ov (ldV (some none) ao an) fun ap=>ov (binV BinOp.add 2 true ap (Value.int IntKind.i64 1)) fun aq=>ov (iaV (some (none,1)) (d 11) f) fun ar=>stM (some 1) ar aq an fun au=>g .normal m (puts d [(163,(d 15)),(164,h),(165,i),(166,j),(167,f),(17,f),(168,(d 9)),(169,f),(170,k),(171,l),(172,n),(173,n),(174,o),(175,p),(176,q),(177,r),(178,s),(179,t),(180,(d 11)),(181,f),(182,u),(183,v),(184,w),(185,x),(186,f),(187,y),(188,z),(189,aa),(190,ab),(191,(d 9)),(192,f),(193,(d 3)),(194,(d 12)),(195,f),(196,a),(197,c),(198,(d 15)),(199,ac),(200,ad),(201,f),(202,ae),(203,af),(204,(d 11)),(205,f),(206,ag),(207,ah),(208,ai),(209,aj),(210,e),(211,ak),(212,am),(213,(d 11)),(214,f),(215,ao),(216,ap),(217,aq),(218,ar)]) au
def qhlZ (a:Env)(b:Value)(c:Heap)(d:Post)(m:List Nat)(e f g h i j k l n o p q r s t u v w x y:Value):Prop:=ov (iaV (some (none,1)) (a 12) b) fun z=>ov (ldV (some none) z c) fun aa=>ov (faV (some 8) (a 1)) fun ab=>ov (ldV (some none) ab c) fun ac=>ov (iaV (some (none,1)) ac b) fun ad=>ov (ldV (some none) ad c) fun ae=>ov (iaV (some (none,1)) (a 11) b) fun af=>ov (ldV (some none) af c) fun ag=>ov (iaV (some (none,7)) ae ag) fun ah=>ov (ldV (some (some 7)) ah c) fun ai=>callM P qctZ #[ai] c fun aj ak=>qhkZ z ak aa a aj b d m e f g h i j k l n o p q r s t u v w x y ab ac ad ae af ag ah ai
def qdMZ (a:Env)(b:Value)(c:Heap)(d:Post)(m:List Nat)(e f g h i j k l n o p q:Value):Prop:=ov (iaV (some (none,1)) (a 11) b) fun r=>ov (ldV (some none) r c) fun s=>ov (faV (some 8) (a 1)) fun t=>ov (ldV (some none) t c) fun u=>ov (iaV (some (none,1)) u b) fun v=>ov (ldV (some none) v c) fun w=>ov (lnV 7 w) fun x=>ov (binV BinOp.geq 2 false s x) fun y=>cdM y (qhjZ d m a e f g b h i j k l n o p q r s t u v w x y c) (qhlZ a b c d m e f g h i j k l n o p q r s t u v w x y)
def qhmZ (a:Post)(m:List Nat)(b:Env)(c d e f g h i j k l n o p:Value)(q:Heap):Prop:=a .normal m (puts b [(163,(b 15)),(164,c),(165,d),(166,e),(167,f),(17,f),(168,(b 9)),(169,f),(170,g),(171,h),(172,i),(173,i),(174,j),(175,k),(176,l),(177,n),(178,o),(179,p)]) q
def qhnZ (a:Env)(b:Value)(c:Heap)(d:Post)(m:List Nat)(e f g:Value):Prop:=ov (iaV (some (none,1)) (a 9) b) fun h=>ov (ldV (some none) h c) fun i=>ov (binV BinOp.eql 4 true i (Value.pointer none)) fun j=>gM (isB j false) (fun k=>k (a 9) c) c fun l n=>gM (isB j false) (fun o=>o b n) n fun p q=>gM (isB j false) (fun r=>ov (iaV (some (none,1)) l p) fun s=>r s q) q fun t u=>gM (isB j false) (fun v=>ov (ldV (some none) t u) fun w=>v w u) u fun x y=>gM (isB j false) (fun z=>callM P qanZ #[x] y fun aa ab=>z aa ab) y fun ac ad=>ov (pkV j (Value.bool true) ac) fun ae=>cdM ae (qdMZ a b ad d m e f g h i j l p t x ac ae) (qhmZ d m a e f g b h i j l p t x ac ae ad)
def qhoZ (a:Env)(b:Value)(c:Heap)(d:Post)(m:List Nat)(e f g h i j k l n o p q r s t u v w x y z aa ab ac ad:Value):Prop:=ov (iaV (some (none,4)) (a 10) (a 17)) fun ae=>stM (some 4) ae b c fun af=>d .normal m (puts a [(219,(a 9)),(220,(a 17)),(221,e),(222,f),(223,g),(18,g),(224,(a 9)),(225,(a 17)),(226,h),(227,i),(228,(a 3)),(229,(a 14)),(230,j),(231,g),(232,k),(233,k),(234,l),(235,n),(236,o),(237,p),(238,q),(239,r),(240,s),(241,t),(242,(a 10)),(243,(a 17)),(244,(a 5)),(245,(a 15)),(246,u),(247,v),(248,(a 17)),(249,w),(250,x),(251,(a 11)),(252,(a 17)),(253,y),(254,z),(255,aa),(256,ab),(257,ac),(258,ad),(259,b),(260,ae)]) af
def qhpZ (a:Env)(b:Value)(c:Heap)(d:Post)(m:List Nat)(e f g h i j k l n o p q r s t u v w x y z aa ab ac:Value):Prop:=callM P qdSZ #[(a 5),(a 15),b] c fun ad ae=>qhoZ a ad ae d m e f g h i j k l n o p q r s t u v w x y z aa ab ac b
def qhqZ (a:Env)(b:Heap)(c:Post)(m:List Nat)(d e f g h i j k l n o p q r s:Value):Prop:=ov (faV (some 8) (a 1)) fun t=>ov (ldV (some none) t b) fun u=>ov (iaV (some (none,1)) u (a 17)) fun v=>ov (ldV (some none) v b) fun w=>ov (iaV (some (none,1)) (a 11) (a 17)) fun x=>ov (ldV (some none) x b) fun y=>ov (binV BinOp.sub 2 true y (Value.int IntKind.i64 1)) fun z=>ov (iaV (some (none,7)) w z) fun aa=>ov (ldV (some (some 7)) aa b) fun ab=>callM P qctZ #[ab] b fun ac ad=>qhpZ a ac ad c m d e f g h i j k l n o p q r s t u v w x y z aa ab
def qdNZ (a:Post)(m:List Nat)(b:Env)(c d e f g h i j k l n o p q r:Value)(s:Heap):Prop:=a .normal m (puts b [(219,(b 9)),(220,(b 17)),(221,c),(222,d),(223,e),(18,e),(224,(b 9)),(225,(b 17)),(226,f),(227,g),(228,(b 3)),(229,(b 14)),(230,h),(231,e),(232,i),(233,i),(234,j),(235,k),(236,l),(237,n),(238,o),(239,p),(240,q),(241,r)]) s
def qhrZ (a:Value)(b:Env)(c:Heap)(d:Post)(m:List Nat)(e f g h i:Value):Prop:=ov (binV BinOp.lss 2 true a (Value.int IntKind.i64 0)) fun j=>gM (isB j true) (fun k=>k (b 9) c) c fun l n=>gM (isB j true) (fun o=>o (b 17) n) n fun p q=>gM (isB j true) (fun r=>ov (iaV (some (none,1)) l p) fun s=>r s q) q fun t u=>gM (isB j true) (fun v=>ov (ldV (some none) t u) fun w=>v w u) u fun x y=>gM (isB j true) (fun z=>callM P qcvZ #[x] y fun aa ab=>z aa ab) y fun ac ad=>gM (isB j true) (fun ae=>ae (b 14) ad) ad fun af ag=>gM (isB j true) (fun ah=>ov (binV BinOp.eql 2 false ac af) fun ai=>ah ai ag) ag fun aj ak=>ov (pkV j aj (Value.bool false)) fun al=>cdM al (qhqZ b ak d m e f a g h i j l p t x ac af aj al) (qdNZ d m b e f a g h i j l p t x ac af aj al ak)
def qpLZ (a:Post)(m:List Nat)(b:Env)(c d e f g h i j k l n o p q r:Value)(s:Heap):Prop:=a .ret m (puts b [(261,(b 9)),(262,(b 17)),(263,c),(264,d),(265,e),(266,e),(267,f),(268,g),(269,h),(270,i),(272,j),(273,k),(274,l),(275,n),(271,o),(276,p),(277,q),(278,r),(2,(Value.bool false))]) s
def qdOZ (a:Post)(m:List Nat)(b:Env)(c d e f g h i j k l n o p q r:Value)(s:Heap):Prop:=a .normal m (puts b [(261,(b 9)),(262,(b 17)),(263,c),(264,d),(265,e),(266,e),(267,f),(268,g),(269,h),(270,i),(272,j),(273,k),(274,l),(275,n),(271,o),(276,p),(277,q),(278,r)]) s
def qhsZ (a:Value)(b:Env)(c:Heap)(d:Post)(m:List Nat)(e f:Value):Prop:=gv (isB a true) (fun k=>k (b 9)) fun g=>gv (isB a true) (fun k=>k (b 17)) fun h=>gv (isB a true) (ov (iaV (some (none,1)) g h)) fun i=>gv (isB a true) (ov (ldV (some none) i c)) fun j=>gv (isB a true) (fun k=>k (b 10)) fun l=>gv (isB a true) (fun k=>k (b 17)) fun n=>gv (isB a true) (ov (iaV (some (none,4)) l n)) fun o=>gv (isB a true) (ov (ldV (some (some 4)) o c)) fun p=>gM (isB a true) (fun q=>callM P qisZ #[j] c fun r s=>q r s) c fun t u=>((isB a true)=true→ldV (some (some 4)) o u=some p)∧gM (isB a true) (fun v=>callM P qgtZ #[t,p] u fun w x=>v w x) u fun y z=>gv (isB a true) (ov (unV UnOp.not y)) fun aa=>ov (pkV a aa (Value.bool false)) fun ab=>cdM ab (qpLZ d m b e f a g h i j l n o p t y aa ab z) (qdOZ d m b e f a g h i j l n o p t y aa ab z)
def qdPZ (a:Env)(b:Heap)(c:Post)(m:List Nat):Prop:=ov (iaV (some (none,1)) (a 9) (a 17)) fun d=>ov (ldV (some none) d b) fun e=>callM P qanZ #[e] b fun f g=>qhsZ f a g c m d e
def qhtZ (a:Value)(b:Env)(c:Heap)(m:List Nat)(d e f g h:Value)(i:Post):Prop:=seqM (fun j=>qhrZ a b c j m d e f g h) (fun m k l=>qdPZ k l i m) (blkM 3 i)
def qhuZ (a:Env)(b:Heap)(c:Value)(m:List Nat)(d e:Value)(f:Post):Prop:=ov (iaV (some (none,1)) (a 9) (a 17)) fun g=>ov (ldV (some none) g b) fun h=>callM P qaQZ #[h,(a 3),(a 14)] b fun i j=>qhtZ c a j m d e g h i f
def qbtZ (a:Env)(b:Heap)(m:List Nat)(c:Post):Prop:=ov (iaV (some (none,1)) (a 9) (a 17)) fun d=>ov (ldV (some none) d b) fun e=>callM P qcvZ #[e] b fun f g=>qhuZ a g f m d e c
def qdQZ (a:Env)(b:Heap)(m:List Nat)(c:Post):Prop:=ov (faV (some 7) (a 1)) fun d=>ov (ldV (some none) d b) fun e=>ov (lnV 7 e) fun f=>ov (binV BinOp.sub 2 false (a 15) f) fun g=>seqM (fun h=>qhnZ a g b h m d e f) (fun m i j=>qbtZ i j m c) (blkM 3 c)
def qhvZ (a:Env)(b:Heap)(m:List Nat)(c d e f:Value)(g:Post):Prop:=ov (faV (some 9) (a 1)) fun h=>ov (ldV (some none) h b) fun i=>ov (iaV (some (none,1)) i (a 14)) fun j=>ov (ldV (some none) j b) fun k=>ov (cvV (some .i64) k) fun l=>ov (binV BinOp.rem 2 false l (a 7)) fun n=>seqM (fun o=>qhiZ a b n m c d e f h i j k l o) (fun m p q=>qdQZ p q m g) (blkM 3 g)
def qdRZ (a:Env)(b:Heap)(m:List Nat)(c d e f:Value)(g:Post):Prop:=seqM (fun h=>qhvZ a b m c d e f h) (fun m i j=>ov (binV BinOp.add 2 true (i 14) (Value.int IntKind.i64 1)) fun k=>g .normal m (puts i [(92,(i 14)),(93,k),(14,k)]) j) g
def qhwZ (a:Env)(b:Heap)(m:List Nat)(c:Post):Prop:=ov (faV (some 9) (a 1)) fun d=>ov (ldV (some none) d b) fun e=>ov (lnV 7 e) fun f=>ov (binV BinOp.lss 2 false (a 14) f) fun g=>cdM g (qdRZ a b m d e f g c) (c (.exit 2) m (puts a [(87,(a 14)),(88,d),(89,e),(90,f),(91,g)]) b)
def qhxZ (m:List Nat)(a:Env)(b:Heap)(c:Post):Prop:=loopM (fun m d e f=>qhwZ d e m f) m (puts a [(14,(Value.int IntKind.i64 0))]) b (blkM 2 c)
def qhyZ (m:List Nat)(a:Env)(b:Heap)(K:KTy):Prop:=seqM (fun c=>qhxZ m a b c) (fun m d e=>(retM P [.tmp 2] K) .ret m (puts d [(2,(Value.bool true))]) e) (retM P [.tmp 2] K)
def qicZ (x0 a b c d e f g h i j k l n o p q r s t u v w x y z aa ab ac ad ae af ag ah ai aj ak al am an ao ap aq ar au av aw ax ay az ba:Value)(bb:Heap)(K:KTy):Prop:=seqM (fun bc=>qgVZ x0 a b c d e f g h i j k l n o p q r s t u v w x y z aa ab ac ad ae af ag ah ai aj ak al am an ao ap aq ar au av aw ax ay az ba bb bc) (fun m bd be=>qhyZ m bd be K) (retM P [.tmp 2] K)
def qidZ (a:Value)(b:Heap)(x0 c d e f g h i j k l m n o p q r s t u v w x y z aa ab ac ad ae af ag ah ai aj ak al am an ao ap aq ar au av aw:Value)(K:KTy):Prop:=ov (faV (some 8) a) fun ax=>ov (ldV (some none) ax b) fun ay=>ov (lnV 7 ay) fun az=>vvM P (Instr.makeSlice qqoZ az az) b fun ba bb=>qicZ x0 a c d e f g h i j k l m n o p q r s t u v w x y z aa ab ac ad ae af ag ah ai aj ak al am an ao ap aq ar au av aw ax ay az ba bb K
def qieZ (a:Value)(b:Heap)(x0 c d e f g h i j k l m n o p q r s t u v w x y z aa ab ac ad ae af ag ah ai aj ak al am an ao ap aq:Value)(K:KTy):Prop:=ov (faV (some 8) a) fun ar=>ov (ldV (some none) ar b) fun au=>ov (lnV 7 au) fun av=>vvM P (Instr.makeSlice qlTZ av av) b fun aw ax=>qidZ a ax x0 c d e f g h i j k l m n o p q r s t u v w x y z aa ab ac ad ae af ag ah ai aj ak al am an ao ap aq ar au av aw K
def qifZ (a:Value)(b:Heap)(x0 c d e f g h i j k l m n o p q r s t u v w x y z aa ab ac ad ae af ag ah ai aj ak al am:Value)(K:KTy):Prop:=ov (faV (some 8) a) fun an=>ov (ldV (some none) an b) fun ao=>ov (lnV 7 ao) fun ap=>vvM P (Instr.makeSlice qmNZ ap ap) b fun aq ar=>qieZ a ar x0 c d e f g h i j k l m n o p q r s t u v w x y z aa ab ac ad ae af ag ah ai aj ak al am an ao ap aq K
def qigZ (a:Value)(b:Heap)(x0 c d e f g h i j k l m n o p q r s t u v w x y z aa ab:Value)(K:KTy):Prop:=ov (faV (some 7) a) fun ac=>ov (ldV (some none) ac b) fun ad=>ov (lnV 7 ad) fun ae=>ov (faV (some 8) a) fun af=>ov (ldV (some none) af b) fun ag=>ov (lnV 7 ag) fun ah=>ov (binV BinOp.add 2 false ae ah) fun ai=>ov (faV (some 7) a) fun aj=>ov (ldV (some none) aj b) fun ak=>ov (lnV 7 ak) fun al=>vvM P (Instr.makeSlice qlSZ al al) b fun am an=>qifZ a an x0 c d e f g h i j k l m n o p q r s t u v w x y z aa ab ac ad ae af ag ah ai aj ak al am K
def qihZ (a b:Value)(c:Heap)(d:Value)(K:KTy)(e x0 f g h i j k l m n o p:Value):Prop:=ov (exV a 0) fun q=>ov (exV a 1) fun r=>ov (binV BinOp.neq 2 true b (Value.int IntKind.i64 0)) fun s=>gM (isB s false) (fun t=>t r c) c fun u v=>gM (isB s false) (fun w=>ov (binV BinOp.neq 2 true u (Value.int IntKind.i64 0)) fun x=>w x v) v fun y z=>ov (pkV s (Value.bool true) y) fun aa=>gM (isB aa false) (fun ab=>ab d z) z fun ac ad=>gM (isB aa false) (fun ae=>ov (binV BinOp.eql 4 true ac (Value.pointer none)) fun af=>ae af ad) ad fun ag ah=>ov (pkV aa (Value.bool true) ag) fun ai=>gM (isB ai false) (fun aj=>aj q ah) ah fun ak al=>gM (isB ai false) (fun am=>ov (binV BinOp.eql 4 true ak (Value.pointer none)) fun an=>am an al) al fun ao ap=>ov (pkV ai (Value.bool true) ao) fun aq=>cdM aq (K (Value.bool false) ap) (qigZ e ap x0 f g h i j k l m n d b o p a q r s u y aa ac ag ai ak ao aq K)
def qiiZ (a b:Value)(c:Heap)(K:KTy)(x0 d e f g h i j k:Value):Prop:=ov (exV a 0) fun l=>ov (exV a 1) fun m=>ov (faV (some 0) b) fun n=>ov (ldV (some (some 7)) n c) fun o=>callM P qpYZ #[o] c fun p q=>qihZ p m q l K b x0 d e f g h i j k a n o
def qijZ (a:Value)(b:Heap)(K:KTy)(x0 c d e f g h:Value):Prop:=ov (faV (some 0) a) fun i=>ov (ldV (some (some 7)) i b) fun j=>callM P qoEZ #[j] b fun k l=>qiiZ k a l K x0 c d e f g h i j
def qikZ (a b:Value)(c:Heap)(K:KTy)(x0:Value):Prop:=ov (unV UnOp.not a) fun d=>gM (isB d false) (fun e=>ov (ldV (some (some 10)) b c) fun f=>e f c) c fun g h=>gM (isB d false) (fun i=>callM P qgsZ #[g] h fun j k=>i j k) h fun l m=>gM (isB d false) (fun n=>ov (unV UnOp.not l) fun o=>n o m) m fun p q=>ov (pkV d (Value.bool true) p) fun r=>cdM r (callM P qdvZ #[] q fun s t=>K s t) (qijZ b q K x0 a d g l p r)
def qfuZ (x0:Value)(h:Heap)(K:KTy):Prop:=nwM (some x0.cells) qCZ h fun a b=>callM P qdvZ #[] b fun c d=>qikZ c a d K x0
variable {K:KTy}
theorem qqnZ {x0:Value}{h:Heap}(hd:qfuZ x0 h K):callM P qenZ #[x0] h K :=
 call_of good mixed (fn:=Tryz.f23) (args:=[x0]) Tryz.func23 rfl (by kernel_rfl) (of_decide_eq_true rfl) (B:=qfuZ x0 h K) (by kernel_rfl) hd
end Go.Proofs.YtcnphhhcknhhaaaGreat
namespace Go.Proofs.YtcnphhhcknhhaaaGreat
open Go Go.Den Go.MapKept
set_option linter.unusedSimpArgs false
set_option linter.unusedVariables false
set_option maxRecDepth 20000
theorem unSlWP:P.underlying qlSZ=some (.slice qgcZ):=by kernel_rfl
theorem apWP:apC P qgcZ=some (1,8,1):=by kernel_rfl
theorem zcWP:zc P qgcZ=some #[.pointer none]:=by kernel_rfl
theorem unSlHP:P.underlying qmNZ=some (.slice qwZ):=by kernel_rfl
theorem apHP:apC P qwZ=some (1,8,1):=by kernel_rfl
theorem zcHP:zc P qwZ=some #[.pointer none]:=by kernel_rfl
theorem unSlHM:P.underlying qbdZ=some (.slice qaiZ):=by kernel_rfl
theorem apHM:apC P qaiZ=some (1,8,1):=by kernel_rfl
theorem bsHM:bsI P qbdZ=some (qaiZ,1,#[.pointer none]):=by kernel_rfl
theorem unSlI:P.underlying qqoZ=some (.slice qjZ):=by kernel_rfl
theorem apI:apC P qjZ=some (1,8,1):=by kernel_rfl
theorem zcI:zc P qjZ=some #[.int .i64 0]:=by kernel_rfl
theorem unSlRp:P.underlying qlTZ=some (.slice qcZ):=by kernel_rfl
theorem apRp:apC P qcZ=some (4,64,4):=by kernel_rfl
theorem zcRp:zc P qcZ=some (rplC rep0 (.slice none 0 0) (.slice none 0 0)).toArray:=by kernel_rfl
variable {K:KTy}
theorem mkReps {n:Nat}{g:Tag}{T:Tags}{h:Heap}(hn:n≤8)(w:Wf T h)
  (hk:∀ T' h' v,Only non T h T' h'→Rw T' h' g 4 qcZ v n (seqF n fun _=>rplC rep0 (.slice none 0 0) (.slice none 0 0))→K v h'):vvM P (Instr.makeSlice qlTZ (.int .i64 n) (.int .i64 n)) h K:=by
 refine makeSlice_vv unSlRp apRp zcRp (by omega) (by omega) (by unfold maxLen; omega) fun b h1 n1 e1 c1=>?_
 refine hk (tset T b g) h1 _ (Only.enew g w e1 n1 c1) ⟨?_,fun b' hb'=>?_⟩
 rotate_left
 ·simp -implicitDefEqProofs only[rowOf,Option.some.injEq] at hb'
  subst hb'
  exact tset_same _ _ _
 have hsz:(madeCells (rplC rep0 (.slice none 0 0) (.slice none 0 0)).toArray (n*4)).size=n*4:=by simp[madeCells]
 refine⟨by rw[seqF_len (sz:=4) (fun _ _=>rfl)],.inr ⟨b,n,_,rfl,c1,Nat.le_refl _,by unfold maxLen; omega,by simpa using hsz,?_⟩⟩
 rw[List.take_of_length_le (by simp[hsz])]
 have hl:(seqF n fun _=>rplC rep0 (.slice none 0 0) (.slice none 0 0)).length=n*4:=seqF_len (sz:=4) (fun _ _=>rfl)
 apply List.ext_getElem?
 intro i
 by_cases hi:i<n*4
 ·have h1:=seqF_get (F:=fun _=>rplC rep0 (.slice none 0 0) (.slice none 0 0)) (n:=n) (sz:=4) (fun _ _=>rfl) (i:=i / 4) (j:=i % 4) (by omega) (by omega)
  rw[show i / 4*4+i % 4=i by omega] at h1
  rw[h1,Array.getElem?_toList,made_at _ _ _ hi (by simp[rplC])]
  simp -implicitDefEqProofs[rplC]
 ·rw[List.getElem?_eq_none (by simp[hsz]; omega),List.getElem?_eq_none (by omega)]
end Go.Proofs.YtcnphhhcknhhaaaGreat
namespace Go.Proofs.YtcnphhhcknhhaaaGreat
open Go Go.Den Go.MapKept
set_option linter.unusedSimpArgs false
set_option linter.unusedVariables false
set_option maxRecDepth 20000
def HtJ (T5:Tags)(h5:Heap)(hp tp nw nh:Nat)(ws:List OpD)(hs:List (List OpD))(B:Nat→Nat)(av xv rv tv:Value)(k:Nat)(h':Heap):Prop :=
 ∃ (T':Tags) (W:Wd) (M:Tbl) (A:Nat→Nat) (X:Nat→OpD) (want:Nat→Reply) (ats:Nat→Nat),HtI T5 h5 hp tp k nw nh ws hs B av xv rv tv W M M A X want want ats ats T' h'
section
variable {T5 T':Tags}{h5 h':Heap}{hp tp k nw nh:Nat}{ws:List OpD}{hs:List (List OpD)}{B A:Nat→Nat}{av xv rv tv:Value}{W:Wd}{M Md:Tbl}{X:Nat→OpD}{want wm:Nat→Reply}{ats am:Nat→Nat}
theorem HtI.ext {h'':Heap}(y:HtI T5 h5 hp tp k nw nh ws hs B av xv rv tv W M Md A X want wm ats am T' h')(e:Ext h' h''):HtI T5 h5 hp tp k nw nh ws hs B av xv rv tv W M Md A X want wm ats am T' h'' :=
 have o:=Only.of_ext (U:=non) y.o.wf e
 ⟨y.o.up o non_up,y.m.ext y.o.wf e,y.k,y.d.kp o.k (Off.non _) (not_non _),y.c,y.r.kp o (fun _ _=>not_non _) (not_non _),y.l,y.ta,y.tw⟩
theorem HtI.ra (y:HtI T5 h5 hp tp k nw nh ws hs B av xv rv tv W M Md A X want wm ats am T' h'){i:Nat}(hi:i<nw):∃ b,iaV (some (none,1)) av (.int .i64 i)=some (.pointer (some ⟨b,i,none⟩))∧cel h' b i=some (ptO W A i):=by
 obtain⟨b,_,h1,h2⟩:=row1_at (k:=.i64) y.r.a.1 hi
 exact⟨b,h1,h2⟩
theorem HtI.rx (y:HtI T5 h5 hp tp k nw nh ws hs B av xv rv tv W M Md A X want wm ats am T' h'){j:Nat}(hj:j<nh):∃ b,iaV (some (none,1)) xv (.int .i64 j)=some (.pointer (some ⟨b,j,none⟩))∧cel h' b j=some (ptO W A (nw+j)):=by
 obtain⟨b,_,h1,h2⟩:=row1_at (k:=.i64) y.r.x.1 hj
 exact⟨b,h1,h2⟩
theorem HtI.rt (y:HtI T5 h5 hp tp k nw nh ws hs B av xv rv tv W M Md A X want wm ats am T' h'){j:Nat}(hj:j<nh):∃ b,iaV (some (none,1)) tv (.int .i64 j)=some (.pointer (some ⟨b,j,none⟩))∧cel h' b j=some (.int .i64 (am j)):=by
 obtain⟨b,_,h1,h2⟩:=row1_at (k:=.i64) y.r.t.1 hj
 exact⟨b,h1,h2⟩
end
theorem ptO_some {W:Wd}{A:Nat→Nat}{i:Nat}{p:PR}(h:W.ps i=some p):ptO W A i=ptr (A i):=by simp[ptO,h]
theorem ptO_none {W:Wd}{A:Nat→Nat}{i:Nat}(h:W.ps i=none):ptO W A i = .pointer none:=by simp[ptO,h]
structure TuE (v1 hp tp nw nh:Nat)(av xv rv tv mv:Value)(n:Nat)(s:Env):Prop where
 s1:s 1=ptr v1
 s3:s 3=ptr hp
 s5:s 5=ptr tp
 s7:s 7 = .int .i64 (nw+nh:Nat)
 s8:s 8=av
 s9:s 9=xv
 s10:s 10=rv
 s11:s 11=tv
 s12:s 12=mv
 s14:s 14 = .int .i64 n
theorem ov_of {o:Option Value}{x:Value}{K:Value→Prop}(e:o=some x)(h:ov o K):K x:=by rw[e] at h; exact h
section
variable {T5:Tags}{h5:Heap}{hp tp n v1:Nat}{c:Cfg}{ws:List OpD}{hs:List (List OpD)}{ts:List Int}{B:Nat→Nat}{av xv rv tv mv wv hv tw:Value}
set_option maxHeartbeats 4000000 in
theorem ht27 (ft:Fits c ws hs ts)(xF:CrX (fz T5 h5) c ws hs ts wv hv tw)(cb:h5 v1=some (.cells (crC c wv hv tw).toArray qCZ (0,0))∧T5 v1=[])(hn:n<ts.length)
  {T':Tags} {h':Heap} {W:Wd} {M:Tbl} {A:Nat→Nat} {X:Nat→OpD} {want:Nat→Reply} {ats:Nat→Nat} (y:HtI T5 h5 hp tp n ws.length hs.length ws hs B av xv rv tv W M M A X want want ats ats T' h')
  {s:Env} (t:TuE v1 hp tp ws.length hs.length av xv rv tv mv n s) {i:Nat} (hi:i<ws.length) (s15:s 15 = .int .i64 i) {p:WP} (hp':W.ps i=some (.w p)) {Q:Post}
  (hQ:∀ s' h'',TuE v1 hp tp ws.length hs.length av xv rv tv mv n s'→HtJ T5 h5 hp tp ws.length hs.length ws hs B av xv rv tv (n+1) h''→Q (.exit 3) [] s' h''):qbsZ s h' [] Q:=by
 obtain⟨t1,t3,t5,t7,t8,t9,t10,t11,t12,t14⟩:=t
 have f4:=ft.w
 have f4':=ft.h
 have f3:=ft.t
 obtain⟨b,ia,cb8⟩:=y.ra hi
 rw[ptO_some hp'] at cb8
 unfold qbsZ
 simp -implicitDefEqProofs[t8,s15,ia,cb8]
 refine wplaced_ok (y.m.ps i _ hp') ?_
 unfold qhfZ
 simp -implicitDefEqProofs[t8,s15,ia,cb8,t3,t14]
 refine ht_wstep y hi (by omega) (by omega) hp' (n:=(n:Int)) (by omega) fun T2 h2 M' hM' hps y2=>?_
 unfold qheZ
 rw[seqM_eq]
 unfold qhdZ
 obtain⟨b2,ia2,cb2⟩:=y2.ra hi
 rw[ptO_some hps] at cb2
 by_cases hpl:p.placed<0
 ·simp -implicitDefEqProofs[hpl,t8,s15,ia2,cb2]
  refine wplaced_ok (y2.m.ps i _ hps) ?_
  simp -implicitDefEqProofs[t14]
  by_cases hpn:(p.step W.H n).1.placed=n
  ·simp -implicitDefEqProofs[hpn]
   rw[if_pos ⟨hpl,hpn⟩] at hM'
   obtain⟨bw,pw,uw,w1,w2,w3,w4⟩:=opsAt xF.w hi
   have hsw:=ft.sw _ (List.getElem_mem hi)
   have lw:=short_users hsw
   have b7:=y2.o.see cb U17.nil
   have c7:cel h2 v1 7=some wv:=by simp[cel_of b7.1,crC,cfgC]
   have eF:=(y2.o.ext U17.nil).trans (fz_ext _ _)
   unfold qhcZ
   simp -implicitDefEqProofs[t1,c7,s15,w1,w2 _ eF]
   refine writing17_ok _ w3.one fun h3 e3=>?_
   have y3:=y2.ext e3
   have hX:=y.tw i hi hi
   have Xw:OpW (X i):=by rw[hX]; exact wrOp_w w4
   have Xu:(X i).users=ws[i].users:=by rw[hX]; rfl
   unfold qhbZ
   rw[← hX]
   simp -implicitDefEqProofs[t5,s15]
   refine ht_do y3 (X i) Xw (by rw[Xu]; omega) (by rw[Xu]; exact w3.ext (@StrR.ext) (y3.o.ext U17.nil)) (y.k.ts.mono (by omega)) (by omega) hM' fun T4 h4 vv ev o4 rx y4=>?_
   unfold qhaZ
   simp -implicitDefEqProofs
   exact hQ _ _ ⟨by simp[t1],by simp[t3],by simp[t5],by simp[t7],by simp[t8],by simp[t9],by simp[t10],by simp[t11],by simp[t12],by simp[t14]⟩ ⟨T4,_,_,_,_,_,_,y4⟩
  ·simp -implicitDefEqProofs[hpn]
   rw[if_neg fun h=>hpn h.2] at hM'
   subst hM'
   unfold qdLZ
   simp -implicitDefEqProofs
   exact hQ _ _ ⟨by simp[t1],by simp[t3],by simp[t5],by simp[t7],by simp[t8],by simp[t9],by simp[t10],by simp[t11],by simp[t12],by simp[t14]⟩ ⟨T2,_,_,_,_,_,_,y2⟩
 ·simp -implicitDefEqProofs[hpl]
  rw[if_neg fun h=>hpl h.1] at hM'
  subst hM'
  unfold qdLZ
  simp -implicitDefEqProofs
  exact hQ _ _ ⟨by simp[t1],by simp[t3],by simp[t5],by simp[t7],by simp[t8],by simp[t9],by simp[t10],by simp[t11],by simp[t12],by simp[t14]⟩ ⟨T2,_,_,_,_,_,_,y2⟩
set_option maxHeartbeats 4000000 in
theorem ht51 {T':Tags}{h':Heap}{W:Wd}{M:Tbl}{A:Nat→Nat}{X:Nat→OpD}{want:Nat→Reply}{ats:Nat→Nat}(y:HtI T5 h5 hp tp (n+1) ws.length hs.length ws hs B av xv rv tv W M M A X want want ats ats T' h')
  {s:Env} (t:TuE v1 hp tp ws.length hs.length av xv rv tv mv n s) {j:Nat} (hj:j<hs.length) (s17:s 17 = .int .i64 j) {p:HP} (hp':W.ps (ws.length+j)=some (.h p)) {Q:Post}
  (hQ:∀ s' h'',TuE v1 hp tp ws.length hs.length av xv rv tv mv n s'→HtJ T5 h5 hp tp ws.length hs.length ws hs B av xv rv tv (n+1) h''→Q .normal [] s' h''):qdPZ s h' Q []:=by
 obtain⟨t1,t3,t5,t7,t8,t9,t10,t11,t12,t14⟩:=t
 obtain⟨b,ia,cb9⟩:=y.rx hj
 rw[ptO_some hp'] at cb9
 unfold qdPZ
 simp -implicitDefEqProofs[t9,s17,ia,cb9]
 refine hedone_ok (y.m.ps _ _ hp') ?_
 unfold qhsZ
 cases hd:p.done with
 | false =>
  simp -implicitDefEqProofs
  unfold qdOZ
  exact hQ _ _ ⟨by simp[t1],by simp[t3],by simp[t5],by simp[t7],by simp[t8],by simp[t9],by simp[t10],by simp[t11],by simp[t12],by simp[t14]⟩ ⟨T',_,_,_,_,_,_,y⟩
 | true =>
 have hfin:=y.c.fin y.k.li y.h1 hp' (by omega) hd
 obtain⟨vv,ev,w1,w2⟩:=y.r.w
 have hF:∀ i,i<hs.length→(rplC (want (ws.length+i)) (vv i) (ev i)).length=4:=fun _ _=>rfl
 obtain⟨g,hg,ia4⟩:=w1.1.ia (k:=.i64) hj
 have c4:=w1.1.cels hg (o:=j*4) (m:=4) (by omega)
 rw[seqF_at hF hj] at c4
 simp -implicitDefEqProofs[t9,s17,ia,cb9,t10,ia4,ldV_n c4]
 refine hereply_ok y.o.wf (y.m.ps _ _ hp') fun h3 va ea e3 rx=>?_
 have hrep:(PR.h p).rep=want (ws.length+j):=by simp only[PR.rep,hd,if_true]; exact hfin
 rw[hrep] at rx ⊢
 have c4':=cels_ext e3 c4
 obtain⟨l1,l2⟩:=y.l j hj
 simp -implicitDefEqProofs[ldV_n c4']
 refine repSame_ok _ _ (rx.ext (fz_ext _ _)) ((w2 j hj).ext ((fz_ext _ _).trans e3)) (by rw[l1]; simp) (by omega) fun h4 e4=>?_
 simp -implicitDefEqProofs
 unfold qdOZ
 exact hQ _ _ ⟨by simp[t1],by simp[t3],by simp[t5],by simp[t7],by simp[t8],by simp[t9],by simp[t10],by simp[t11],by simp[t12],by simp[t14]⟩ ⟨T',_,_,_,_,_,_,y.ext (e3.trans e4)⟩
set_option maxHeartbeats 4000000 in
theorem ht43 (ft:Fits c ws hs ts)(xF:CrX (fz T5 h5) c ws hs ts wv hv tw)(cb:h5 v1=some (.cells (crC c wv hv tw).toArray qCZ (0,0))∧T5 v1=[])(hn:n<ts.length)
  {T':Tags} {h':Heap} {W:Wd} {M:Tbl} {A:Nat→Nat} {X:Nat→OpD} {want:Nat→Reply} {ats:Nat→Nat} (y:HtI T5 h5 hp tp n ws.length hs.length ws hs B av xv rv tv W M M A X want want ats ats T' h')
  {s:Env} (t:TuE v1 hp tp ws.length hs.length av xv rv tv mv n s) {j:Nat} (hj:j<hs.length) (s17:s 17 = .int .i64 j) (s15:s 15 = .int .i64 (ws.length+j:Nat)) {p:HP} (hp':W.ps (ws.length+j)=some (.h p)) {Q:Post}
  (hQ:∀ s' h'',TuE v1 hp tp ws.length hs.length av xv rv tv mv n s'→HtJ T5 h5 hp tp ws.length hs.length ws hs B av xv rv tv (n+1) h''→Q .normal [] s' h''):qbtZ s h' [] Q:=by
 have t':=t
 obtain⟨t1,t3,t5,t7,t8,t9,t10,t11,t12,t14⟩:=t'
 have f4:=ft.w
 have f4':=ft.h
 have f3:=ft.t
 obtain⟨b,ia,cb8⟩:=y.rx hj
 rw[ptO_some hp'] at cb8
 unfold qbtZ
 simp -implicitDefEqProofs[t9,s17,ia,cb8]
 refine heplaced_ok (y.m.ps _ _ hp') ?_
 unfold qhuZ
 simp -implicitDefEqProofs[t9,s17,ia,cb8,t3,t14]
 obtain⟨hat,hat2⟩:=y.ta j hj
 obtain⟨hlt,hge,hX⟩:=hat2 (by rw[hp']; rfl)
 have Xk:6≤(X (ws.length+j)).kind∧(X (ws.length+j)).kind≤9:=by rw[hX]; exact heOp_k _
 refine ht_hstep y (by omega) (by omega) (by omega) hp' (n:=(n:Int)) (by omega) Xk fun T2 h2 M' want' hM' hw' hps y2=>?_
 unfold qhtZ
 rw[seqM_eq]
 unfold qhrZ
 obtain⟨b2,ia2,cb2⟩:=y2.rx hj
 rw[ptO_some hps] at cb2
 by_cases hpl:p.placed<0
 ·simp -implicitDefEqProofs[hpl,t9,s17,ia2,cb2]
  refine heplaced_ok (y2.m.ps _ _ hps) ?_
  simp -implicitDefEqProofs[t14]
  by_cases hpn:(p.step (W.ms (ws.length+j)) W.H n).1.placed=n
  ·simp -implicitDefEqProofs[hpn]
   rw[if_pos ⟨hpl,hpn⟩] at hM' hw'
   obtain⟨bk,qk,uk,i1,i2,i3⟩:=OpsR.at xF.hd hj
   obtain⟨bi,pi,ui,j1,j2,j3,j4⟩:=opsAt i3 hlt
   have hsx:=ft.sh _ (List.getElem_mem hj) _ (List.getElem_mem hlt)
   have lx:=short_users hsx
   have b7:=y2.o.see cb U17.nil
   have c8:cel h2 v1 8=some hv:=by simp[cel_of b7.1,crC,cfgC]
   have eF:=(y2.o.ext U17.nil).trans (fz_ext _ _)
   obtain⟨bt,iat,cbt⟩:=y2.rt hj
   have lk:=ft.lh _ (List.getElem_mem hj)
   have hsub:IntKind.i64.wrap ((ats j:Int)-1)=(ats j-1:Nat):=by rw[wrap64_id (by omega) (by omega)]; omega
   unfold qhqZ
   simp -implicitDefEqProofs[t1,c8,s17,i1,i2 _ eF,t11,iat,cbt,hsub,j1,j2 _ eF]
   refine heeding_ok _ j3.one fun h3 e3=>?_
   have y3:=y2.ext e3
   have Xw:OpW (X (ws.length+j)):=by rw[hX]; exact heOp_w j4
   have Xu:(X (ws.length+j)).users=hs[j][ats j-1].users:=by rw[hX]; rfl
   unfold qhpZ
   rw[← hX]
   simp -implicitDefEqProofs[t5,s15,-Int.natCast_add]
   refine ht_do y3 (X (ws.length+j)) Xw (by rw[Xu]; omega) (by rw[Xu]; exact j3.ext (@StrR.ext) (y3.o.ext U17.nil)) (y.k.ts.mono (by omega)) (by omega) hM' fun T4 h4 vv ev o4 rx y4=>?_
   unfold qhoZ
   obtain⟨_,_,wq1,_⟩:=y4.r.w
   obtain⟨g4',_,ia4⟩:=wq1.1.ia (k:=.i64) hj
   simp -implicitDefEqProofs[t10,s17,ia4,-Int.natCast_add]
   refine ov_of ia4 (ht_want y4 hj hw' rx fun T6 h6 y6=>?_)
   refine ht51 y6 ⟨by simp[t1],by simp[t3],by simp[t5],by simp[t7],by simp[t8],by simp[t9],by simp[t10],by simp[t11],by simp[t12],by simp[t14]⟩ hj (by simp[s17]) hps hQ
  ·simp -implicitDefEqProofs[hpn]
   rw[if_neg fun h=>hpn h.2] at hM' hw'
   subst hM' hw'
   unfold qdNZ
   simp -implicitDefEqProofs
   exact ht51 y2 ⟨by simp[t1],by simp[t3],by simp[t5],by simp[t7],by simp[t8],by simp[t9],by simp[t10],by simp[t11],by simp[t12],by simp[t14]⟩ hj (by simp[s17]) hps hQ
 ·simp -implicitDefEqProofs[hpl]
  rw[if_neg fun h=>hpl h.1] at hM' hw'
  subst hM' hw'
  unfold qdNZ
  simp -implicitDefEqProofs
  exact ht51 y2 ⟨by simp[t1],by simp[t3],by simp[t5],by simp[t7],by simp[t8],by simp[t9],by simp[t10],by simp[t11],by simp[t12],by simp[t14]⟩ hj (by simp[s17]) hps hQ
theorem HtI.mono {T':Tags}{h':Heap}{k nw nh:Nat}{W:Wd}{M Md:Tbl}{A:Nat→Nat}{X:Nat→OpD}{want wm:Nat→Reply}{ats am:Nat→Nat}(y:HtI T5 h5 hp tp k nw nh ws hs B av xv rv tv W M Md A X want wm ats am T' h'):HtI T5 h5 hp tp (k+1) nw nh ws hs B av xv rv tv W M Md A X want wm ats am T' h' :=
 ⟨y.o,y.m,⟨y.k.li,y.k.hs.mono (by omega),y.k.ts.mono (by omega)⟩,y.d,y.c,y.r,y.l,y.ta,y.tw⟩
theorem u17_10:¬ U17 [10]:=by
 rintro (h | h | h | h | h)
 ·rcases h with (h | h | h) | h<;>simp[pre] at h
 all_goals cases h
set_option maxHeartbeats 4000000 in
theorem ht38 (ft:Fits c ws hs ts)(xF:CrX (fz T5 h5) c ws hs ts wv hv tw)(cb:h5 v1=some (.cells (crC c wv hv tw).toArray qCZ (0,0))∧T5 v1=[])(rm:Rw T5 h5 [10] 1 qaiZ mv hs.length (seqF hs.length fun j=>[ptr (B (ws.length+j))]))(hn:n<ts.length)
  {T':Tags} {h':Heap} {W:Wd} {M:Tbl} {A:Nat→Nat} {X:Nat→OpD} {want:Nat→Reply} {ats:Nat→Nat} (y:HtI T5 h5 hp tp n ws.length hs.length ws hs B av xv rv tv W M M A X want want ats ats T' h')
  {s:Env} (t:TuE v1 hp tp ws.length hs.length av xv rv tv mv n s) {j:Nat} (hj:j<hs.length) (s15:s 15 = .int .i64 (ws.length+j:Nat)) (hdn:∀ q,W.ps (ws.length+j)=some q→q.done=true) {Q:Post}
  (hQ:∀ s' h'',TuE v1 hp tp ws.length hs.length av xv rv tv mv n s'→HtJ T5 h5 hp tp ws.length hs.length ws hs B av xv rv tv (n+1) h''→Q .normal [] s' h'') (a1 a2 a3 a4 a5 a6 a7 a8 a9 a10 a11 a12:Value) :
  qdMZ s (.int .i64 j) h' (thenM (fun m s217 h218=>qbtZ s217 h218 m Q) (blkM 3 Q)) [] a1 a2 a3 a4 a5 a6 a7 a8 a9 a10 a11 a12:=by
 have t':=t
 obtain⟨t1,t3,t5,t7,t8,t9,t10,t11,t12,t14⟩:=t'
 have f4:=ft.w
 have f4':=ft.h
 have f3:=ft.t
 obtain⟨bk,qk,uk,i1,i2,i3⟩:=OpsR.at xF.hd hj
 have ul:=i3.len
 have lk:=ft.lh _ (List.getElem_mem hj)
 have b7:=y.o.see cb U17.nil
 have c8:cel h' v1 8=some hv:=by simp[cel_of b7.1,crC,cfgC]
 have eF:=(y.o.ext U17.nil).trans (fz_ext _ _)
 obtain⟨bt,iat,cbt⟩:=y.rt hj
 obtain⟨bm,_,im,cm⟩:=row1_at (k:=.i64) (rm.kp y.o.k u17_10).1 hj
 obtain⟨hat,hat2⟩:=y.ta j hj
 unfold qdMZ
 simp -implicitDefEqProofs[t1,c8,i1,i2 _ eF,ul,t11,iat,cbt]
 refine⟨fun hc=>?_,fun hc=>?_⟩
 ·unfold qhjZ
  simp -implicitDefEqProofs
  exact hQ _ _ ⟨by simp[t1],by simp[t3],by simp[t5],by simp[t7],by simp[t8],by simp[t9],by simp[t10],by simp[t11],by simp[t12],by simp[t14]⟩ ⟨T',_,_,_,_,_,_,y.mono⟩
 have hlt:ats j<hs[j].length:=by omega
 obtain⟨bi,pi,ui,j1,j2,j3,j4⟩:=opsAt i3 hlt
 have hsx:=ft.sh _ (List.getElem_mem hj) _ (List.getElem_mem hlt)
 have lx:=short_users hsx
 unfold qhlZ
 simp -implicitDefEqProofs[t1,c8,i1,i2 _ eF,t11,iat,cbt,j1,j2 _ eF,t12,im,cm]
 refine heeding_ok _ j3.one fun h3 e3=>?_
 have y3:=y.ext e3
 have oe:Only non T' h' T' h3:=Only.of_ext y.o.wf e3
 have cm3:cel h3 bm j=some (ptr (B (ws.length+j))):=by
  obtain⟨bm',hb',im',cm'⟩:=row1_at (k:=.i64) (rm.kp y3.o.k u17_10).1 hj
  rw[im] at im'; cases im'; exact cm'
 obtain⟨x,hx⟩:∃ x,x=heOp (hs[j][ats j]):=⟨_,rfl⟩
 have xw:OpW x:=by rw[hx]; exact heOp_w j4
 have xu:x.users=hs[j][ats j].users:=by rw[hx]; rfl
 have xk:6≤x.kind∧x.kind≤9:=by rw[hx]; exact heOp_k _
 unfold qhkZ
 rw[← hx]
 simp -implicitDefEqProofs[cm3,t3,s15,-Int.natCast_add]
 refine ht_hnew y3 hj (by omega) hdn x xw xk.1 (by rw[xu]; omega) hj hlt hx (by rw[xu]; exact j3.ext (@StrR.ext) (y3.o.ext U17.nil)) fun h4 q hK=>?_
 obtain⟨bx,ixa,_⟩:=y3.rx hj
 simp -implicitDefEqProofs[t9,t11,ixa]
 refine ov_of ixa (hK _ fun T5' h5' e5 y5=>?_)
 obtain⟨bt5,iat5,cbt5⟩:=y5.rt hj
 have hwr:IntKind.i64.wrap ((ats j:Int)+1)=(ats j+1:Nat):=by rw[wrap64_id (by omega) (by omega)]; omega
 simp -implicitDefEqProofs[iat5,cbt5,hwr,-Int.natCast_add]
 refine ov_of iat5 (ht_at y5 hj rfl rfl fun T6 h6 e6 y6=>?_)
 simp -implicitDefEqProofs
 exact ht43 ft xF cb hn y6 ⟨by simp[t1],by simp[t3],by simp[t5],by simp[t7],by simp[t8],by simp[t9],by simp[t10],by simp[t11],by simp[t12],by simp[t14]⟩ hj (by simp) (by simp[s15]) (bset_same _ _ _) hQ
set_option maxHeartbeats 4000000 in
theorem ht23 (ft:Fits c ws hs ts)(xF:CrX (fz T5 h5) c ws hs ts wv hv tw)(cb:h5 v1=some (.cells (crC c wv hv tw).toArray qCZ (0,0))∧T5 v1=[])(hn:n<ts.length)
  {T':Tags} {h':Heap} {W:Wd} {M:Tbl} {A:Nat→Nat} {X:Nat→OpD} {want:Nat→Reply} {ats:Nat→Nat} (y:HtI T5 h5 hp tp n ws.length hs.length ws hs B av xv rv tv W M M A X want want ats ats T' h')
  {s:Env} (t:TuE v1 hp tp ws.length hs.length av xv rv tv mv n s) {i:Nat} (hiw:i<ws.length) (hdn:∀ q,W.ps i=some q→q.done=true) {Q:Post}
  (hQ:∀ s' h'',TuE v1 hp tp ws.length hs.length av xv rv tv mv n s'→HtJ T5 h5 hp tp ws.length hs.length ws hs B av xv rv tv (n+1) h''→Q (.exit 3) [] s' h'') (a1 a2 a3 a4 a5 a6 a7 a8 a9 a10 a11 a12 a13 a14 a15 a16 a17 a18 a19 a20 a21 a22:Value) :
  qdKZ s h' (.int .i64 i) (thenM (fun m s130 h131=>qbsZ s130 h131 m Q) Q) [] a1 a2 a3 a4 a5 a6 a7 a8 a9 a10 a11 a12 a13 a14 a15 a16 a17 a18 a19 a20 a21 a22:=by
 obtain⟨t1,t3,t5,t7,t8,t9,t10,t11,t12,t14⟩:=t
 have f4:=ft.w
 have f4':=ft.h
 have f3:=ft.t
 have b7:=y.o.see cb U17.nil
 have c7:cel h' v1 7=some wv:=by simp[cel_of b7.1,crC,cfgC]
 have eF:=(y.o.ext U17.nil).trans (fz_ext _ _)
 obtain⟨bw,pw,uw,w1,w2,w3,w4⟩:=opsAt xF.w hiw
 have hsw:=ft.sw _ (List.getElem_mem hiw)
 have lw:=short_users hsw
 unfold qdKZ
 simp -implicitDefEqProofs[t1,c7,w1,w2 _ eF]
 refine writing17_ok _ w3.one fun h3 e3=>?_
 have y3:=y.ext e3
 have hX:=y.tw i hiw hiw
 have Xw:OpW (X i):=by rw[hX]; exact wrOp_w w4
 have Xu:(X i).users=ws[i].users:=by rw[hX]; rfl
 unfold qgXZ
 rw[← hX]
 simp -implicitDefEqProofs[t3]
 refine ht_wnew y3 hiw (by omega) hdn Xw (by rw[Xu]; omega) (by rw[Xu]; exact w3.ext (@StrR.ext) (y3.o.ext U17.nil)) fun h4 q hK=>?_
 unfold qgWZ
 obtain⟨bx,ixa,_⟩:=y3.ra hiw
 simp -implicitDefEqProofs[t8,ixa]
 refine ov_of ixa (hK _ fun T5' h5' y5=>?_)
 exact ht27 ft xF cb hn y5 ⟨by simp[t1],by simp[t3],by simp[t5],by simp[t7],by simp[t8],by simp[t9],by simp[t10],by simp[t11],by simp[t12],by simp[t14]⟩ hiw (by simp) (bset_same _ _ _) hQ
set_option maxHeartbeats 4000000 in
theorem ht18 (ft:Fits c ws hs ts)(xF:CrX (fz T5 h5) c ws hs ts wv hv tw)(cb:h5 v1=some (.cells (crC c wv hv tw).toArray qCZ (0,0))∧T5 v1=[])(rm:Rw T5 h5 [10] 1 qaiZ mv hs.length (seqF hs.length fun j=>[ptr (B (ws.length+j))]))(hn:n<ts.length)
  {T':Tags} {h':Heap} {W:Wd} {M:Tbl} {A:Nat→Nat} {X:Nat→OpD} {want:Nat→Reply} {ats:Nat→Nat} (y:HtI T5 h5 hp tp n ws.length hs.length ws hs B av xv rv tv W M M A X want want ats ats T' h')
  {s:Env} (t:TuE v1 hp tp ws.length hs.length av xv rv tv mv n s) {Q:Post}
  (hQ:∀ s' h'',TuE v1 hp tp ws.length hs.length av xv rv tv mv (n+1) s'→HtJ T5 h5 hp tp ws.length hs.length ws hs B av xv rv tv (n+1) h''→Q .normal [] s' h'') (a1 a2 a3 a4:Value) :
  qdRZ s h' [] a1 a2 a3 a4 Q:=by
 have t':=t
 obtain⟨t1,t3,t5,t7,t8,t9,t10,t11,t12,t14⟩:=t'
 have f4:=ft.w
 have f4':=ft.h
 have f3:=ft.t
 have f0:=ft.n
 unfold qdRZ
 refine seq_cut (fun m s h=>m=[]∧TuE v1 hp tp ws.length hs.length av xv rv tv mv n s∧HtJ T5 h5 hp tp ws.length hs.length ws hs B av xv rv tv (n+1) h) (fun J hJ _ _=>?_) ?_
 rotate_left
 ·rintro m s h ⟨rfl,⟨t1,t3,t5,t7,t8,t9,t10,t11,t12,t14⟩,J⟩
  have hw:IntKind.i64.wrap ((n:Int)+1)=(n+1:Nat):=by rw[wrap64_id (by omega) (by omega)]; omega
  simp -implicitDefEqProofs[t14,hw,-Int.natCast_add]
  exact hQ _ _ ⟨by simp[t1],by simp[t3],by simp[t5],by simp[t7],by simp[t8],by simp[t9],by simp[t10],by simp[t11],by simp[t12],by simp⟩ J
 have hJ':∀ s' h'',TuE v1 hp tp ws.length hs.length av xv rv tv mv n s'→HtJ T5 h5 hp tp ws.length hs.length ws hs B av xv rv tv (n+1) h''→J .normal [] s' h'':=fun s' h'' a b=>hJ _ _ _ ⟨rfl,a,b⟩
 clear hJ hQ
 unfold qhvZ
 obtain⟨ub,up,u1,u2,u3,u4⟩:=u8At xF.t hn
 have b7:=y.o.see cb U17.nil
 have c9:cel h' v1 9=some tw:=by simp[cel_of b7.1,crC,cfgC]
 have c7:cel h' v1 7=some wv:=by simp[cel_of b7.1,crC,cfgC]
 have eF:=(y.o.ext U17.nil).trans (fz_ext _ _)
 have wl:=xF.w.len
 obtain⟨z,hz⟩:∃ z:Nat,ts[n]=z:=⟨ts[n].toNat,by omega⟩
 obtain⟨i,hi⟩:∃ i,i=z % (ws.length+hs.length):=⟨_,rfl⟩
 have hilt:i<ws.length+hs.length:=by rw[hi]; exact Nat.mod_lt _ (by omega)
 have hcv:cvV (some .i64) (.int .u8 (z:Int))=some (.int .i64 z):=by rw[cvV_i,wrap64_id (by omega) (by omega)]
 have brem:binV .rem 2 false (.int .i64 (z:Int)) (.int .i64 (ws.length+hs.length:Nat))=some (.int .i64 (i:Int)):=by
  have r:((z:Int)).tmod (ws.length+hs.length:Nat)=(z % (ws.length+hs.length):Nat):=by rw[Int.tmod_eq_emod_of_nonneg (by omega)]; simp
  have:¬ ((ws.length+hs.length:Nat):Int)=0:=by omega
  simp -implicitDefEqProofs only[binV,intV,if_true,if_neg this,r,hi]
 rw[hz] at u2
 simp -implicitDefEqProofs[t1,c9,t14,u1,u2 _ eF,hcv,t7,brem,-Int.natCast_add]
 rw[seqM_eq]
 unfold qhiZ
 simp -implicitDefEqProofs[t1,c7,wl,-Int.natCast_add]
 refine⟨fun hw=>?_,fun hw=>?_⟩
 ·-- one that writes
  have hiw:i<ws.length:=by omega
  unfold qhgZ
  rw[seqM_eq]
  unfold qgZZ
  obtain⟨b,ia,cb8⟩:=y.ra hiw
  have hJ2:∀ s' h'',TuE v1 hp tp ws.length hs.length av xv rv tv mv n s'→HtJ T5 h5 hp tp ws.length hs.length ws hs B av xv rv tv (n+1) h''→(thenM (fun m s123 h124=>qdQZ s123 h124 m J) (blkM 3 J)) (.exit 3) [] s' h'':=fun s' h'' a b=>by simp; exact hJ' s' h'' a b
  cases hps:W.ps i with
  | none =>
   rw[ptO_none hps] at cb8
   have en:binV .eql 4 true (.pointer none) (.pointer none)=some (.bool true):=rfl
   simp -implicitDefEqProofs[t8,ia,cb8,en]
   exact ht23 ft xF cb hn y t hiw (fun q hq=>by rw[hps] at hq; cases hq) hJ2 _ _ _ _ _ _ _ _ _ _ _ _ _ _ _ _ _ _ _ _ _ _ 
  | some q =>
   obtain⟨p,rfl,_⟩:=y.c.w i q hiw hps
   rw[ptO_some hps] at cb8
   have en:binV .eql 4 true (ptr (A i)) (.pointer none)=some (.bool false):=rfl
   simp -implicitDefEqProofs[t8,ia,cb8,en]
   refine wdone_ok (y.m.ps i _ hps) fun h3 e3=>?_
   have y3:=y.ext e3
   cases hd:p.done with
   | true =>
    simp -implicitDefEqProofs
    exact ht23 ft xF cb hn y3 t hiw (fun q hq=>by rw[hps] at hq; cases hq; exact hd) hJ2 _ _ _ _ _ _ _ _ _ _ _ _ _ _ _ _ _ _ _ _ _ _ 
   | false =>
    simp -implicitDefEqProofs
    unfold qgYZ
    simp -implicitDefEqProofs
    exact ht27 ft xF cb hn y3 ⟨by simp[t1],by simp[t3],by simp[t5],by simp[t7],by simp[t8],by simp[t9],by simp[t10],by simp[t11],by simp[t12],by simp[t14]⟩ hiw (by simp) hps hJ2
 ·have hj0:i-ws.length<hs.length:=by omega
  obtain⟨j,hjj⟩:∃ j,j=i-ws.length:=⟨_,rfl⟩
  have hij:i=ws.length+j:=by omega
  have hj:j<hs.length:=by omega
  clear hjj hj0
  subst hij
  have hwl:IntKind.i64.wrap (((ws.length+j:Nat):Int)-ws.length)=(j:Nat):=by rw[wrap64_id (by omega) (by omega)]; omega
  unfold qhhZ
  simp -implicitDefEqProofs[-Int.natCast_add]
  unfold qdQZ
  simp -implicitDefEqProofs[t1,c7,wl,hwl,-Int.natCast_add]
  rw[seqM_eq]
  unfold qhnZ
  obtain⟨b,ia,cb8⟩:=y.rx hj
  have tu:∀ {s':Env},s' 1=s 1→s' 3=s 3→s' 5=s 5→s' 7=s 7→s' 8=s 8→s' 9=s 9→s' 10=s 10→s' 11=s 11→s' 12=s 12→s' 14=s 14→TuE v1 hp tp ws.length hs.length av xv rv tv mv n s':=fun h1 h3 h5 h7 h8 h9 h10 h11 h12 h14=>⟨h1.trans t1,h3.trans t3,h5.trans t5,h7.trans t7,h8.trans t8,h9.trans t9,h10.trans t10,h11.trans t11,h12.trans t12,h14.trans t14⟩
  cases hps:W.ps (ws.length+j) with
  | none =>
   rw[ptO_none hps] at cb8
   have en:binV .eql 4 true (.pointer none) (.pointer none)=some (.bool true):=rfl
   simp -implicitDefEqProofs[t9,ia,cb8,en]
   refine ht38 ft xF cb rm hn y (tu ?_ ?_ ?_ ?_ ?_ ?_ ?_ ?_ ?_ ?_) hj ?_ (fun q hq=>by rw[hps] at hq; cases hq) hJ' _ _ _ _ _ _ _ _ _ _ _ _<;>simp
  | some q =>
   obtain⟨p,rfl,_⟩:=y.c.h _ q (by omega) hps
   rw[ptO_some hps] at cb8
   have en:binV .eql 4 true (ptr (A (ws.length+j))) (.pointer none)=some (.bool false):=rfl
   simp -implicitDefEqProofs[t9,ia,cb8,en]
   refine hedone_ok (y.m.ps _ _ hps) ?_
   cases hd:p.done with
   | true =>
    simp -implicitDefEqProofs
    refine ht38 ft xF cb rm hn y (tu ?_ ?_ ?_ ?_ ?_ ?_ ?_ ?_ ?_ ?_) hj ?_ (fun q hq=>by rw[hps] at hq; cases hq; exact hd) hJ' _ _ _ _ _ _ _ _ _ _ _ _<;>simp
   | false =>
    simp -implicitDefEqProofs
    unfold qhmZ
    simp -implicitDefEqProofs
    refine ht43 ft xF cb hn y (tu ?_ ?_ ?_ ?_ ?_ ?_ ?_ ?_ ?_ ?_) hj ?_ ?_ hps hJ'<;>simp
end
end Go.Proofs.YtcnphhhcknhhaaaGreat
namespace Go.Proofs.YtcnphhhcknhhaaaGreat
open Go Go.Den Go.MapKept
set_option linter.unusedSimpArgs false
set_option linter.unusedVariables false
set_option maxRecDepth 20000
def HtM (T9:Tags)(h9:Heap)(nw:Nat)(v:Value)(k:Nat)(h':Heap):Prop:=∃ (T':Tags) (B:Nat→Nat),Only (fun t=>t=[10]) T9 h9 T' h'∧Rw T' h' [10] 1 qaiZ v k (seqF k fun j=>[ptr (B (nw+j))])∧∀ j,j<k→MineR T' h' [5,nw+j] (B (nw+j)) []
variable {K:KTy}
set_option maxHeartbeats 16000000 in
theorem heedTrue_ok (c:Cfg)(cw:CfgW c)(ws:List OpD)(hs:List (List OpD))(ts:List Int){h:Heap}{wv hv tv:Value}(x:CrX h c ws hs ts wv hv tv)(hk:∀ h',Ext h h'→K (.bool true) h') :
  callM P qenZ #[.agg (crC c wv hv tv).toArray] h K:=by
 apply qqnZ
 unfold qfuZ
 refine nw_agg fun v1 h1 n1 e1 c1=>?_
 refine awake17_ok fun h2 e2=>?_
 have e02:=e1.trans e2
 have wo:=x.w.one
 have ho:=x.hd.one
 have to:=x.t.one
 have ogA:∀ h',Ext h2 h'→ldV (some (some 10)) (ptr v1) h'=some (.agg (crC c wv hv tv).toArray):=fun h' e=>by simp[ld_at (e _ _ (e2 _ _ c1)),crC,cfgC]
 unfold qikZ
 simp -implicitDefEqProofs[ogA _ (Ext.refl h2)]
 refine fits17_ok c ws hs ts (x.ext e02) fun h3 b e3 hb=>?_
 have e03:=e02.trans e3
 cases b with
 | false =>
  simp -implicitDefEqProofs
  exact awake17_ok fun h4 e4=>hk _ (e03.trans e4)
 | true =>
 have ft:=hb rfl
 simp -implicitDefEqProofs
 unfold qijZ
 have c3:=e3 _ _ (e2 _ _ c1)
 have ogc:∀ h',h' v1=some (.cells (crC c wv hv tv).toArray qCZ (0,0))→ldV (some (some 7)) (ptr v1) h'=some (.agg (cfgC c).toArray):=fun h' c3=>by simp[ld_at c3,crC,cfgC]
 simp -implicitDefEqProofs[ogc _ c3]
 refine hallNew_ok c cw (wf_nil h3) g1 (fun hr T4 h4 hp o4 y4=>?_) (fun hr=>by rw[ft.r] at hr; cases hr)
 obtain⟨hcn,hN⟩:=cfg_nn hr
 have cb4:h4 v1=some (.cells (crC c wv hv tv).toArray qCZ (0,0))∧T4 v1=[]:=o4.k.at c3 rfl (by simp[pre])
 unfold qiiZ
 simp -implicitDefEqProofs[ogc _ cb4.1]
 refine mnew_ok c cw o4.wf g4 (fun _ T5 h5 tp o5 x5=>?_) (fun hr=>by rw[ft.r] at hr; cases hr)
 have d41:Off (pre [4]) [1]:=off_pre (g:=[]) (x:=[4]) (y:=[1]) (by simp) (by simp)
 have y5:=y4.up o5 d41 (by simp[pre])
 have r5:=RH.init cw hr o5.wf y5 (fun _=>0)
 obtain⟨N,hNN⟩:∃ N,N=c.stripes.toNat:=⟨_,rfl⟩
 rw[← hNN] at r5 x5 hcn hN
 have cst:(N:Int)=c.stripes:=hcn
 unfold qihZ
 have enil:∀ p:Nat,binV .eql 4 true (ptr p) (.pointer none)=some (.bool false):=fun _=>rfl
 simp -implicitDefEqProofs[enil]
 have hl:=x.hd.len
 have wl:=x.w.len
 have w4:=ft.w
 have h4':=ft.h
 have o35:Only UB (fun _=>[]) h3 T5 h5:=(o4.mono fun _ h=>UH.b (UH.i1 h)).trans (o5.mono fun _=>.inr)
 have cb5:h5 v1=some (.cells (crC c wv hv tv).toArray qCZ (0,0))∧T5 v1=[]:=o35.k.at c3 rfl UB.nil
 have cl:∀ {U:Tag→Prop} {T' h'},Only U T5 h5 T' h'→¬ U []→∀ {n:Nat} {v:Value},(crC c wv hv tv)[n]?=some v→cel h' v1 n=some v:=fun o hn n v hv=>by
  rw[cel_of (o.see cb5 hn).1]; simpa using hv
 have c7:cel h5 v1 7=some wv:=cl (Only.refl (U:=non) o5.wf) (not_non _) (by simp[crC,cfgC])
 have c8:cel h5 v1 8=some hv:=cl (Only.refl (U:=non) o5.wf) (not_non _) (by simp[crC,cfgC])
 have hwn:IntKind.i64.wrap ((ws.length:Int)+hs.length)=(ws.length+hs.length:Nat):=by rw[wrap64_id (by omega) (by omega)]; omega
 unfold qigZ
 simp -implicitDefEqProofs[c7,c8,wl,hl,hwn,-Int.natCast_add]
 refine mkRow (g:=[6]) unSlWP apWP zcWP (by omega) (by omega) o5.wf fun T6 h6 av o6 r6=>?_
 have c8:cel h6 v1 8=some hv:=cl o6 (not_non _) (by simp[crC,cfgC])
 unfold qifZ
 simp -implicitDefEqProofs[c8,hl]
 refine mkRow (g:=[7]) unSlHP apHP zcHP (by omega) (by omega) o6.wf fun T7 h7 xv o7 r7=>?_
 have c8:cel h7 v1 8=some hv:=cl (o6.trans o7) (not_non _) (by simp[crC,cfgC])
 unfold qieZ
 simp -implicitDefEqProofs[c8,hl]
 refine mkReps (g:=[8]) (by omega) o7.wf fun T8 h8 rv o8 r8=>?_
 have c8:cel h8 v1 8=some hv:=cl ((o6.trans o7).trans o8) (not_non _) (by simp[crC,cfgC])
 unfold qidZ
 simp -implicitDefEqProofs[c8,hl]
 refine mkRow (g:=[9]) unSlI apI zcI (by omega) (by omega) o8.wf fun T9 h9 av9 o9 r9=>?_
 have o59:=((o6.trans o7).trans o8).trans o9
 unfold qicZ
 rw[seqM_eq]
 unfold qgVZ
 refine loop_on [1,3,5,7,8,9,10,11] (fun s h'=>∃ k:Nat,HtM T9 h9 ws.length (s 12) k h'∧s 13 = .int .i64 k∧k≤hs.length) (fun s _=>(hs.length-num (s 13)).toNat) ⟨0,⟨T9,fun _=>0,Only.refl o9.wf,Rw.nil _ _ _ _ _,fun j hj=>by omega⟩,rfl,by omega⟩ ?_
 rintro s h10 hf10 ⟨k,⟨T10,B,o10,r10,m10⟩,s13,hk10⟩
 have s1:s 1=ptr v1:=by simpa using hf10 1 (by simp)
 have s3:s 3=ptr hp:=by simpa using hf10 3 (by simp)
 have s5:s 5=ptr tp:=by simpa using hf10 5 (by simp)
 have s7:s 7 = .int .i64 (ws.length+hs.length:Nat):=by simpa using hf10 7 (by simp)
 have s8:s 8=av:=by simpa using hf10 8 (by simp)
 have s9:s 9=xv:=by simpa using hf10 9 (by simp)
 have s10:s 10=rv:=by simpa using hf10 10 (by simp)
 have s11:s 11=av9:=by simpa using hf10 11 (by simp)
 have n10:¬ (fun t:Tag=>t=[10]) []:=by simp
 have c8:cel h10 v1 8=some hv:=cl ((o59.mono non_up).trans o10) n10 (by simp[crC,cfgC])
 unfold qgUZ
 simp -implicitDefEqProofs[s1,c8,hl,s13]
 refine⟨fun hc=>?_,fun hc=>?_⟩
 ·have hwk:IntKind.i64.wrap ((k:Int)+1)=(k+1:Nat):=by rw[wrap64_id (by omega) (by omega)]; omega
  unfold qgTZ
  refine newMine_ok o10.wf (g5i (ws.length+k)) fun T11 h11 q o11 nq z11=>?_
  have r11:=r10.kp o11.k (not_non _)
  unfold qgSZ
  refine Rw.appk bsHM unSlHM apHM (by omega) rfl (by simp) o11.wf r11 (by unfold maxLen; omega) (by omega) (by omega) (by simp) fun a v' T12 h12 o12 r12 _ _=>?_
  unfold qgRZ
  simp -implicitDefEqProofs[s1,s3,s5,s7,s8,s9,s10,s11,s13,hwk]
  have f12:∀ j,Off (fun t:Tag=>t=[10]) [5,j]:=fun j t ht hh=>by subst hh; simp[pre] at ht
  refine⟨⟨k+1,⟨T12,bset B (ws.length+k) q,(o10.trans (o11.mono non_up)).trans o12,?_,fun j hj=>?_⟩,rfl,by omega⟩,by omega⟩
  ·have:(seqF (k+1) fun j=>[ptr (bset B (ws.length+k) q (ws.length+j))])=(seqF k fun j=>[ptr (B (ws.length+j))])++(ptr q).cells.toList:=by
    rw[seqF_succ,bset_same]
    congr 1
    exact seqF_congr fun j hj=>by rw[bset_ne (by omega)]
   rw[this]; exact r12
  ·by_cases hjk:j=k
   ·subst hjk; rw[bset_same]; exact z11.kp o12.k (f12 _)
   ·rw[bset_ne (by omega)]; exact ((m10 j (by omega)).kp o11.k (Off.non _)).kp o12.k (f12 _)
 have hke:k=hs.length:=by omega
 subst hke
 have o510:=(o59.mono non_up).trans o10
 have f10:∀ t,UB t→¬ (fun t:Tag=>t=[10]) t:=fun t ht hh=>by
  subst hh; rcases ht with (ht | ht | ht) | ht<;>simp[pre] at ht
 obtain⟨A0,xm⟩:=r5.x
 have hwd:∀ i,(wd0 c N).ps i=none:=fun _=>rfl
 obtain⟨X0,hX0⟩:∃ X0:Nat→OpD,∀ i (h:i<ws.length),X0 i=wrOp ws[i]:=⟨fun i=>if h:i<ws.length then wrOp ws[i] else ⟨0,⟨#[]⟩,0,0,0,0,[]⟩,fun i h=>by simp[h]⟩
 have q6:=((r6.kp o7.k (not_non _)).kp o8.k (not_non _)).kp o9.k (not_non _)
 have q7:=(r7.kp o8.k (not_non _)).kp o9.k (not_non _)
 have q8:=r8.kp o9.k (not_non _)
 have y0:HtI T10 h10 hp tp 0 ws.length hs.length ws hs B av xv rv av9 (wd0 c N) (tbl0 c N) (tbl0 c N) A0 X0 (fun _=>rep0) (fun _=>rep0) (fun _=>0) (fun _=>0) T10 h10:=by
  refine⟨Only.refl o10.wf,⟨xm.hl.up o510 (fun t ht=>f10 t (.inl (.inl ht))) n10,fun i p hp=>(by rw[hwd] at hp; cases hp),fun i hi=>?_⟩,r5.k,x5.kp o510.k (fun t ht=>f10 t (.inr ht)) n10,⟨fun i q _ hq=>(by rw[hwd] at hq; cases hq),fun i q _ hq=>(by rw[hwd] at hq; cases hq),fun _ _=>rfl,fun i hi=>by rw[hX0 i hi]; exact wrOp_k _⟩,⟨q6.kp o10.k (by simp),q7.kp o10.k (by simp),⟨fun _=>.slice none 0 0,fun _=>.slice none 0 0,q8.kp o10.k (by simp),fun j hj=>RpX.no _ rfl rfl⟩,r9.kp o10.k (by simp)⟩,fun _ _=>⟨rfl,by simp[rep0]⟩,fun j hj=>⟨by omega,fun h=>(by rw[hwd] at h; cases h)⟩,fun i hi _=>hX0 i hi⟩
  have:=m10 (i-ws.length) (by omega)
  rw[show ws.length+(i-ws.length)=i by omega] at this
  exact this
 have o310:Only (fun t=>UB t∨t=[10]) (fun _=>[]) h3 T10 h10:=(o35.mono fun _=>.inl).trans (o510.mono fun _=>.inr)
 have n310:¬ (fun t:Tag=>UB t∨t=[10]) []:=by
  rintro (h | h)
  ·exact UB.nil h
  ·cases h
 have xF:CrX (fz T10 h10) c ws hs ts wv hv tv:=by
  have:CrX (fz (fun _=>[]) h3) c ws hs ts wv hv tv:=by rw[fz_nil]; exact x.ext e03
  exact this.ext (o310.ext n310)
 have cb10:=o310.k.at c3 rfl n310
 have kEnd:∀ {T' h'},Only U17 T10 h10 T' h'→K (.bool true) h':=fun {T' h'} o=>hk _ (e03.trans (ext_of_only (U:=fun t=>(UB t∨t=[10])∨U17 t) ((o310.mono fun _ h=>.inl h).trans (o.mono fun _ h=>.inr h)) (by
  rintro (h | h)
  ·exact n310 h
  ·exact U17.nil h)))
 have tl:=x.t.len
 have f3:=ft.t
 simp -implicitDefEqProofs
 unfold qhyZ
 rw[seqM_eq]
 unfold qhxZ
 refine loop_on [1,3,5,7,8,9,10,11,12] (fun s h'=>∃ n:Nat,HtJ T10 h10 hp tp ws.length hs.length ws hs B av xv rv av9 n h'∧s 14 = .int .i64 n∧n≤ts.length) (fun s _=>(ts.length-num (s 14)).toNat) ⟨0,⟨T10,_,_,_,_,_,_,y0⟩,by simp,by omega⟩ ?_
 rintro r h11 hf11 ⟨n,⟨T11,W,M,A,X,want,ats,y⟩,r14,hn⟩
 have r1:r 1=ptr v1:=by simpa [s1] using hf11 1 (by simp)
 have r3:r 3=ptr hp:=by simpa [s3] using hf11 3 (by simp)
 have r5':r 5=ptr tp:=by simpa [s5] using hf11 5 (by simp)
 have r7':r 7 = .int .i64 (ws.length+hs.length:Nat):=by simpa [s7] using hf11 7 (by simp)
 have r8':r 8=av:=by simpa [s8] using hf11 8 (by simp)
 have r9':r 9=xv:=by simpa [s9] using hf11 9 (by simp)
 have r10':r 10=rv:=by simpa [s10] using hf11 10 (by simp)
 have r11':r 11=av9:=by simpa [s11] using hf11 11 (by simp)
 have r12':r 12=s 12:=by simpa using hf11 12 (by simp)
 have c9:cel h11 v1 9=some tv:=by
  rw[cel_of (y.o.see cb10 U17.nil).1]; simp[crC,cfgC]
 unfold qhwZ
 simp -implicitDefEqProofs[r1,c9,tl,r14]
 refine⟨fun hc=>?_,fun hc=>?_⟩
 rotate_left
 ·exact kEnd y.o
 refine ht18 (mv:=s 12) ft xF cb10 r10 (by omega) y ⟨r1,r3,r5',r7',r8',r9',r10',r11',r12',r14⟩ (fun s' h'' t' J=>?_) _ _ _ _
 obtain⟨t1,t3,t5,t7,t8,t9,t10,t11,t12,t14⟩:=t'
 simp -implicitDefEqProofs[r1,r3,r5',r7',r8',r9',r10',r11',r12',r14,s1,s3,s5,s7,s8,s9,s10,s11,t1,t3,t5,t7,t8,t9,t10,t11,t12,t14,-Int.natCast_add]
 exact⟨⟨n+1,J,rfl,by omega⟩,by omega⟩
end Go.Proofs.YtcnphhhcknhhaaaGreat
namespace Go.Proofs.YtcnphhhcknhhaaaGreat
open Go Go.Den
set_option linter.unusedSimpArgs false
set_option linter.unusedVariables false
structure CrewD where
 c:Cfg
 ws:List OpD
 hs:List (List OpD)
 ts:List Int
def CrewR (h:Heap)(c:List Value)(x:CrewD):Prop:=∃ wv hv tv,c=crC x.c wv hv tv∧CrX h x.c x.ws x.hs x.ts wv hv tv∧CfgW x.c
theorem rdrCrew:Rdr P 44 CrewR:=fun enc W base spare held fuel cs x h=>by
 have hl:cs.length=10:=(struct_fields (P:=P) Tryz.underlying44 h).1.trans (by kernel_rfl)
 obtain⟨_,_,h0⟩:=struct_field (P:=P) Tryz.underlying44 h 0 24 0 7 (by kernel_rfl)
 obtain⟨_,_,h1⟩:=struct_field (P:=P) Tryz.underlying44 h 1 40 7 1 (by kernel_rfl)
 obtain⟨_,_,h2⟩:=struct_field (P:=P) Tryz.underlying44 h 2 41 8 1 (by kernel_rfl)
 obtain⟨_,_,h3⟩:=struct_field (P:=P) Tryz.underlying44 h 3 42 9 1 (by kernel_rfl)
 obtain⟨a0,e0,w0⟩:=rdrCfg _ _ _ _ _ _ _ _ h0
 have rO:Rdr P 40 OpsR:=Rdr.slice (P:=P) (sz:=7) Tryz.underlying40 (by kernel_rfl) (by decide) rdrOp
 obtain⟨a1,v1,e1,s1⟩:=rO _ _ _ _ _ _ _ _ h1
 obtain⟨a2,v2,e2,s2⟩:=Rdr.slice (P:=P) (sz:=1) Tryz.underlying41 (by kernel_rfl) (by decide) rO _ _ _ _ _ _ _ _ h2
 obtain⟨a3,v3,e3,s3⟩:=Rdr.slice (P:=P) (sz:=1) Tryz.underlying42 (by kernel_rfl) (by decide) (Rdr.int (P:=P) Tryz.underlying5) _ _ _ _ _ _ _ _ h3
 match cs,hl with
 | [x0,x1,x2,x3,x4,x5,x6,x7,x8,x9],_ =>
  simp[cfgC] at e0 e1 e2 e3
  exact⟨⟨a0,a1,a2,a3⟩,v1,v2,v3,by simp[crC,cfgC,e0,e1,e2,e3],⟨s1,s2,s3⟩,w0⟩
end Go.Proofs.YtcnphhhcknhhaaaGreat
namespace Go.Proofs.YtcnphhhcknhhaaaGreat
open Go Go.Den
variable {K:KTy}
theorem heedTrue_row {x:CrewD}{b0:Array Value}{h:Heap}(hc:CrewR h b0.toList x)(hk:∀ h',Ext h h'→K (.bool true) h') :
  callM P qenZ #[.agg b0] h K:=by
 obtain⟨wv,hv,tv,e0,cx,cw⟩:=hc
 have h0:b0=(crC x.c wv hv tv).toArray:=by rw[← e0]
 rw[h0]
 exact heedTrue_ok x.c cw x.ws x.hs x.ts cx hk
end Go.Proofs.YtcnphhhcknhhaaaGreat
