/- Words, plain data and contracts of the Go functions that this claim reaches. No condition beyond the hypotheses that each theorem states. -/
import Derived.Test.YtmbningljbcpkaaGreatSpl4
set_option linter.unusedSimpArgs false
set_option linter.unusedVariables false
namespace Go.Den
open Go
set_option linter.unusedVariables false
set_option linter.unusedSimpArgs false
structure PairD where
 who:Int
 user:ByteArray
theorem self_perm {u:ByteArray}{α:Type}{d:α}:∀ {b:List (ByteArray × α)},SrtK (keysL b)→u∈keysL b→b.Perm ((u,valL d b u)::delB b u)
 | [],_,h=>by simp[keysL] at h
 | (k,x)::r,s,h=>by
  obtain⟨s1,s2⟩:=List.pairwise_cons.1 s
  by_cases hku:k=u
  ·have hn:u ∉ keysL r:=fun h=>by
    have:=s1 u h
    rw[hku,ltS_irrefl] at this; cases this
   have e:delB ((k,x)::r) u=r:=by
    have:=delB_none hn
    unfold delB at this ⊢
    simp[hku,this]
   rw[e]; simp[valL,hku]
  ·have hr:u∈keysL r:=by
    simp only[keysL,List.map_cons,List.mem_cons] at h
    exact h.resolve_left (Ne.symm hku)
   have e:delB ((k,x)::r) u=(k,x)::delB r u:=by simp[delB,hku]
   rw[e]; simp only[valL,if_neg hku]
   exact (List.Perm.cons _ (self_perm s2 hr)).trans (List.Perm.swap _ _ _)
def wsOf (ws:List (ByteArray × Int))(j:Nat):List ByteArray:=(ws.filter fun x=>mbit x.2 j).map (·.1)
def psOf (ps:List PairD)(j:Nat):List ByteArray:=(ps.filter fun p=>decide (p.who=(j:Int))).map (·.user)
theorem wsOf_self {ws:List (ByteArray × Int)}(s:SrtK (keysL ws))(u:ByteArray)(j:Nat):(wsOf ws j).Perm ((if mbit (valL 0 ws u) j then [u] else [])++wsOf (delB ws u) j):=by
 by_cases h:u∈keysL ws
 ·refine (((self_perm (d:=0) s h).filter _).map _).trans ?_
  rw[List.filter_cons]
  unfold wsOf
  split<;>simp
 ·rw[valL_none h,mbit_zero,delB_none h]; simp
theorem wsOf_del_not {ws:List (ByteArray × Int)}{u:ByteArray}{j:Nat}:u ∉ wsOf (delB ws u) j:=by
 intro h
 obtain⟨x,hx,rfl⟩:=List.mem_map.1 h
 have:=(List.mem_filter.1 hx).1
 simp[delB] at this
theorem wsOf_mem {ws:List (ByteArray × Int)}(s:SrtK (keysL ws)){u:ByteArray}{j:Nat}:u∈wsOf ws j↔mbit (valL 0 ws u) j=true:=by
 rw[(wsOf_self s u j).mem_iff,List.mem_append]
 constructor
 ·rintro (h | h)
  ·split at h
   ·assumption
   ·simp at h
  ·exact absurd h wsOf_del_not
 ·intro h; rw[if_pos h]; simp
structure FdP (f:Feed)(ps:List PairD):Prop where
 pm:∀ j,j<8→(psOf ps j).Perm (wsOf f.ws j)
 rg:∀ p∈ps,0≤p.who∧p.who<8
def pairIs (who:Int)(u:ByteArray)(p:PairD):Bool:=decide (p.who=who) && decide (p.user=u)
theorem psOf_mem {ps:List PairD}{u:ByteArray}{j:Nat}:u∈psOf ps j↔ps.any (pairIs j u)=true:=by
 unfold psOf
 simp only[List.mem_map,List.mem_filter,List.any_eq_true,pairIs,Bool.and_eq_true,decide_eq_true_eq]
 constructor
 ·rintro⟨p,⟨h1,h2⟩,h3⟩; exact⟨p,h1,h2,h3⟩
 ·rintro⟨p,h1,h2,h3⟩; exact⟨p,⟨h1,h2⟩,h3⟩
theorem FdP.watching {f:Feed}{ps:List PairD}(x:FdP f ps)(g:FdG f)(who:Int)(u:ByteArray):ps.any (pairIs who u)=f.watching who u:=by
 unfold Feed.watching
 cases hc:clientB who with
 | false =>
  rw[Bool.false_and,Bool.eq_false_iff]
  intro h
  obtain⟨p,hp,hq⟩:=List.any_eq_true.1 h
  have:=x.rg p hp
  simp only[pairIs,Bool.and_eq_true,decide_eq_true_eq] at hq
  rw[hq.1] at this
  simp[clientB] at hc; omega
 | true =>
  have hc':0≤who∧who<8:=by simpa [clientB] using hc
  obtain⟨j,rfl⟩:∃ j:Nat,who=j:=⟨who.toNat,by omega⟩
  rw[Bool.true_and,Bool.eq_iff_iff,← psOf_mem,(x.pm j (by omega)).mem_iff,wsOf_mem g.so]
theorem FdP.of_ws {f f':Feed}{ps:List PairD}(x:FdP f ps)(h:f'.ws=f.ws):FdP f' ps:=⟨fun j hj=>by rw[h]; exact x.pm j hj,x.rg⟩
end Go.Den
namespace Go.Den
open Go
set_option linter.unusedVariables false
set_option linter.unusedSimpArgs false
structure BkM (m:Nat)(b:Book):Prop where
 bw:BkW b
 bl:b.length≤m
 bs:∀ y∈b,y.1.size≤maxLen
 bn:∀ y∈b,y.2.ss.length≤m
structure FdM (m:Nat)(f:Feed):Prop where
 so:SrtK (keysL f.ws)
 len:f.ws.length≤m
 ms:∀ x∈f.ws,0≤x.2∧x.2<4294967296
 ks:∀ x∈f.ws,x.1.size≤maxLen
 qs:∀ j,j<8→RiG (f.qs j)
structure StM (m:Nat)(x:Strp):Prop where
 sn:BkM m x.snap
 bk:BkM m x.book
 v0:0≤x.v∧x.v≤x.bound
 vb:x.bound % 2=0∧x.bound≤18446744073709551615
 wh:0≤x.who∧x.who≤1000
 fd:FdM m x.feed
structure HS (m:Nat)(H:Hall):Prop where
 rt:rightB H.c=true
 cw:CfgW H.c
 nn:(H.n:Int)=H.c.stripes
 ac:H.acts.length≤2*m
 st:∀ s,s<H.n→StM m (H.ss s)
 tn:U64 H.t.now
 ts:U64 H.t.seq
theorem HS.n8 {m:Nat}{H:Hall}(x:HS m H):1≤H.n∧H.n≤8:=by
 have h1:=x.rt; have h2:=x.nn
 simp only[rightB,decide_eq_true_eq] at h1; omega
theorem BkM.mono {m k:Nat}{b:Book}(x:BkM m b)(h:m≤k):BkM k b:=⟨x.bw,Nat.le_trans x.bl h,x.bs,fun y hy=>Nat.le_trans (x.bn y hy) h⟩
theorem FdM.mono {m k:Nat}{f:Feed}(x:FdM m f)(h:m≤k):FdM k f:=⟨x.so,Nat.le_trans x.len h,x.ms,x.ks,x.qs⟩
theorem StM.mono {m k:Nat}{s:Strp}(x:StM m s)(h:m≤k):StM k s:=⟨x.sn.mono h,x.bk.mono h,x.v0,x.vb,x.wh,x.fd.mono h⟩
theorem HS.mono {m k:Nat}{H:Hall}(x:HS m H)(h:m≤k):HS k H:=⟨x.rt,x.cw,x.nn,Nat.le_trans x.ac (by omega),fun s hs=>(x.st s hs).mono h,x.tn,x.ts⟩
theorem FdM.g {m:Nat}{f:Feed}(x:FdM m f)(h:m<100000):FdG f:=⟨x.so,by have:=x.len; omega,x.ms,x.qs⟩
theorem BkM.ent {m:Nat}{b:Book}(x:BkM m b)(u:ByteArray):(entOf b u).ss.length≤m:=by
 rcases entOf_cases b u with e | ⟨y,h1,h2,h3⟩
 ·rw[e]; simp[ent0]
 ·rw[h3]; exact x.bn y h1
theorem StM.wr {m:Nat}{x:Strp}(s:StM m x):U64 x.v∧U64 x.bound∧(wrt x.v=true→x.v<18446744073709551615):=by
 have h1:=s.v0; have h2:=s.vb
 refine⟨by unfold U64; omega,by unfold U64; omega,fun h=>?_⟩
 simp[wrt] at h; omega
theorem HS.did {m:Nat}{H:Hall}(x:HS m H)(w k p:Int):HS (m+1) (H.did w k p) :=
 ⟨x.rt,x.cw,x.nn,by have:=x.ac; simp[Hall.did]; omega,fun s hs=>(x.st s hs).mono (by omega),x.tn,x.ts⟩
theorem HS.put {m:Nat}{H:Hall}(x:HS m H){s:Nat}{y:Strp}(h:StM m y):HS m (H.put s y) :=
 ⟨x.rt,x.cw,x.nn,x.ac,fun t ht=>by simp only[Hall.put,sput]; split; exact h; exact x.st t ht,x.tn,x.ts⟩
theorem HS.did2 {m:Nat}{H:Hall}(x:HS m H)(w k p w' k' p':Int):HS (m+1) ((H.did w k p).did w' k' p') :=
 ⟨x.rt,x.cw,x.nn,by have:=x.ac; simp[Hall.did]; omega,fun s hs=>(x.st s hs).mono (by omega),x.tn,x.ts⟩
variable {m:Nat}{H:Hall}
theorem HS.wr (x:HS m H)(w:Int)(s:Nat):HS (m+1) (H.wr w s):=x.did _ _ _
theorem HS.take (x:HS m H)(w:Int):HS (m+1) (H.take w) :=
 have y:=x.did w 4 0
 ⟨y.rt,y.cw,y.nn,y.ac,y.st,y.tn,addU_rng x.ts (by simp[U64])⟩
theorem HS.pass (x:HS m H)(w b:Int)(hb:U64 b):HS (m+1) (H.pass w b) :=
 have y:=x.did w 4 0
 ⟨y.rt,y.cw,y.nn,y.ac,y.st,addU_rng x.tn hb,y.ts⟩
theorem HS.lock (x:HS m H){w:Int}{s:Nat}(hs:s<H.n)(hw:w≤900):HS (m+1) (H.lock w s):=by
 unfold Hall.lock
 split
 ·rename_i hc
  have hc':0≤w∧(H.ss s).who=0:=by simpa [canTake] using hc
  have y:=(x.st s hs).mono (Nat.le_succ m)
  exact (x.did _ _ _).put ⟨y.sn,y.bk,y.v0,y.vb,by show 0≤w+1∧w+1≤1000; omega,y.fd⟩
 ·exact x.mono (by omega)
theorem HS.unlock (x:HS m H){w:Int}{s:Nat}(hs:s<H.n):HS (m+1) (H.unlock w s):=by
 unfold Hall.unlock
 split
 ·have y:=(x.st s hs).mono (Nat.le_succ m)
  exact (x.did _ _ _).put ⟨y.sn,y.bk,y.v0,y.vb,by simp,y.fd⟩
 ·exact x.mono (by omega)
theorem HS.begin (x:HS m H){w:Int}{s:Nat}(hs:s<H.n):HS (m+1) (H.begin w s):=by
 have y:=(x.st s hs).mono (Nat.le_succ m)
 refine (x.did _ _ _).put ⟨y.sn,y.bk,?_,y.vb,y.wh,y.fd⟩
 have h1:=y.v0
 show 0≤bgn _ _∧bgn _ _≤(H.ss s).bound
 unfold bgn; split<;>omega
theorem HS.end_ (x:HS m H){w:Int}{s:Nat}(hs:s<H.n):HS (m+1) (H.end_ w s):=by
 have y:=(x.st s hs).mono (Nat.le_succ m)
 refine (x.did _ _ _).put ⟨y.sn,y.bk,?_,y.vb,y.wh,y.fd⟩
 have h1:=y.v0; have h2:=y.vb
 show 0≤endV _∧endV _≤(H.ss s).bound
 unfold endV wrt; simp; split<;>omega
theorem HS.pub (x:HS m H){w:Int}{s:Nat}(hs:s<H.n):HS (m+1) (H.pub w s):=by
 have y:=(x.st s hs).mono (Nat.le_succ m)
 exact (x.did2 _ _ _ _ _ _).put ⟨y.bk,y.bk,y.v0,y.vb,y.wh,y.fd⟩
theorem FdM.tell1 {f:Feed}(g:FdM m f)(c:Chg)(seq:Int):∀ n,FdM m (f.tell1 c seq n)
 | 0=>g
 | n+1=>by
  have ih:=FdM.tell1 g c seq n
  simp only[Feed.tell1]
  split
  ·refine⟨ih.so,ih.len,ih.ms,ih.ks,fun j hj=>?_⟩
   simp only[qset]
   split
   ·rename_i h; subst h; exact (ih.qs _ hj).put _
   ·exact ih.qs j hj
  ·exact ih
theorem FdM.tell {f:Feed}(g:FdM m f)(seq:Int):∀ l:List Chg,FdM m (f.tell l seq):=by
 intro l
 unfold Feed.tell
 induction l generalizing f with
 | nil=>exact g
 | cons c l ih=>exact ih (g.tell1 c seq 8)
theorem settle_mem {b:Book}{u:ByteArray}{ss:List Sess}{now:Int}{y:ByteArray × Ent}(h:y∈(settleB b u ss now).1):y=(u,⟨ss,presOf ss now⟩)∨y∈b:=by
 unfold settleB at h
 dsimp only at h
 split at h
 ·exact .inr (List.mem_filter.1 h).1
 ·exact mem_putB' h
theorem BkM.settle {b:Book}(x:BkM m b){k:Nat}(hk:m≤k){u:ByteArray}(hu:u.size≤maxLen){ss:List Sess}(now:Int)(h1:SrtI ss)(h2:∀ s∈ss,U64 s.un)(h3:ss.length≤k)(h4:(settleB b u ss now).1.length≤k):BkM k (settleB b u ss now).1:=by
 refine⟨x.bw.settle u now h1 h2,h4,fun y hy=>?_,fun y hy=>?_⟩
 ·rcases settle_mem hy with rfl | hy
  ·exact hu
  ·exact x.bs y hy
 ·rcases settle_mem hy with rfl | hy
  ·exact h3
  ·exact Nat.le_trans (x.bn y hy) hk
theorem BkM.write {b:Book}(x:BkM m b){o:OpD}(ow:OpW o){now:Int}(hn:U64 now)(most:Int):BkM (m+1) (writeB b o now most).1:=by
 obtain⟨h1,h2⟩:=x.bw.ent o.user
 obtain⟨h3,h4⟩:=BkW.purge h1 h2 now
 have hp:(purgeS (entOf b o.user).ss now).length≤m:=Nat.le_trans (List.length_filter_le _ _) (x.ent o.user)
 have hw:=work_len (ss:=purgeS (entOf b o.user).ss now) o now most
 refine x.settle (k:=m+1) (by omega) ow.s1 now (work_srt h3 o now most) (work_un h4 o most hn ow.u1) (by omega) ?_
 have:=settle_len b o.user (workS (purgeS (entOf b o.user).ss now) o now most).1 now
 have:=x.bl; omega
theorem BkM.sweepTo {b:Book}(x:BkM m b)(now:Int):∀ n,n≤b.length→BkM m (sweepTo b now n).1
 | 0,_=>x
 | n+1,hn=>by
  have ih:=BkM.sweepTo x now n (by omega)
  have hm:b.getD n (⟨#[]⟩,ent0)∈b:=by rw[List.getD_eq_getElem?_getD,List.getElem?_eq_getElem (by omega)]; exact List.getElem_mem _
  obtain⟨h1,h2⟩:=x.bw.us _ hm
  obtain⟨h3,h4⟩:=BkW.purge h1 h2 now
  exact ih.settle (Nat.le_refl _) (x.bs _ hm) now h3 h4 (Nat.le_trans (List.length_filter_le _ _) (x.bn _ hm)) (Nat.le_trans (sweep_len x.bw (now:=now) hn) x.bl)
theorem HS.sweep (x:HS m H){w:Int}{s:Nat}(t:Tm)(hs:s<H.n):HS (m+1) (H.sweep w s t):=by
 have y:=(x.st s hs).mono (Nat.le_succ m)
 exact (x.wr w s).put ⟨y.sn,y.bk.sweepTo t.now _ (Nat.le_refl _),y.v0,y.vb,y.wh,y.fd.tell _ _⟩
theorem HS.write (x:HS m H){w:Int}{s:Nat}{o:OpD}(ow:OpW o)(t:Tm)(ht:U64 t.now)(hs:s<H.n):HS (m+1) (H.write w s o t).1:=by
 have y:=x.st s hs
 have y':=y.mono (Nat.le_succ m)
 unfold Hall.write
 split
 ·exact x.wr w s
 ·exact (x.wr w s).put ⟨y'.sn,y.bk.write ow ht _,y.v0,y.vb,y.wh,y'.fd.tell _ _⟩
def Hall.fed (H:Hall)(who:Int)(s:Nat)(f:Feed):Hall:=(H.wr who s).put s { H.ss s with feed:=f }
def Hall.watch (H:Hall)(who:Int)(s:Nat)(u:ByteArray)(on:Bool):Hall:=H.fed who s (if on then (H.ss s).feed.watch who u else (H.ss s).feed.unwatch who u)
def Hall.drain (H:Hall)(who:Int)(s:Nat):Hall:=H.fed who s ((H.ss s).feed.drain who)
theorem HS.new {c:Cfg}(cw:CfgW c)(hr:rightB c=true){n:Nat}(hn:(n:Int)=c.stripes):HS 0 (hall0 c n):=by
 have hr':=hr
 simp only[rightB,decide_eq_true_eq] at hr'
 have h1:=cw.u1
 have he:0≤evn c.epochs∧evn c.epochs % 2=0∧evn c.epochs≤18446744073709551615:=by unfold evn U64 at *; omega
 have bk:BkM 0 []:=⟨⟨List.Pairwise.nil,by simp⟩,by simp,by simp,by simp⟩
 refine⟨hr,cw,hn,by simp[hall0],fun s hs=>⟨bk,bk,⟨by show (0:Int)≤0; omega,he.1⟩,he.2,by simp[hall0,strp0],⟨List.Pairwise.nil,by simp[hall0,strp0,feed0],by simp[hall0,strp0,feed0],by simp[hall0,strp0,feed0],fun j hj=>?_⟩⟩,cw.u2,by simp[hall0,U64]⟩
 simp only[hall0,strp0,feed0,ring0,RiG,List.length_nil]
 omega
end Go.Den
namespace Go.Den
open Go
set_option linter.unusedVariables false
set_option linter.unusedSimpArgs false
inductive WK where
 | bad
 | op (x:OpD)
 | sweep
structure WP where
 who:Int
 s:Nat
 k:WK
 at_:Nat
 t:Tm
 placed:Int
 err:Int
def WK.isBad:WK→Bool
 | .bad=>true
 | _=>false
def WP.done (p:WP):Bool:=decide (7≤p.at_)
def WP.waits (p:WP):Int:=if p.k.isBad=true∨0<p.at_ then -1 else p.s
def WP.enabled (p:WP)(H:Hall):Bool:=!p.done && (decide (p.waits<0) || decide ((H.ss p.s).who=0))
def WK.run (k:WK)(H:Hall)(who:Int)(s:Nat)(t:Tm):Hall × Int:=match k with
 | .bad=>(H,0)
 | .op x=>H.write who s x t
 | .sweep=>(H.sweep who s t,0)
def WP.stp (p:WP)(H:Hall)(n:Int):WP × Hall :=
 if p.at_=0 then ({ p with at_:=1 },H.lock p.who p.s)
 else if p.at_=1 then ({ p with at_:=2 },H.begin p.who p.s)
 else if p.at_=2 then ({ p with at_:=3,placed:=n,t:=(H.take p.who).t },H.take p.who)
 else if p.at_=3 then ({ p with at_:=4,err:=(p.k.run H p.who p.s p.t).2 },(p.k.run H p.who p.s p.t).1)
 else if p.at_=4 then ({ p with at_:=5 },H.pub p.who p.s)
 else if p.at_=5 then ({ p with at_:=6 },H.end_ p.who p.s)
 else ({ p with at_:=7 },H.unlock p.who p.s)
theorem stp0 {p:WP}(H:Hall)(n:Int)(h:p.at_=0):p.stp H n=({ p with at_:=1 },H.lock p.who p.s):=by simp[WP.stp,h]
theorem stp1 {p:WP}(H:Hall)(n:Int)(h:p.at_=1):p.stp H n=({ p with at_:=2 },H.begin p.who p.s):=by simp[WP.stp,h]
theorem stp2 {p:WP}(H:Hall)(n:Int)(h:p.at_=2):p.stp H n=({ p with at_:=3,placed:=n,t:=(H.take p.who).t },H.take p.who):=by simp[WP.stp,h]
theorem stp3 {p:WP}(H:Hall)(n:Int)(h:p.at_=3):p.stp H n=({ p with at_:=4,err:=(p.k.run H p.who p.s p.t).2 },(p.k.run H p.who p.s p.t).1):=by simp[WP.stp,h]
theorem stp4 {p:WP}(H:Hall)(n:Int)(h:p.at_=4):p.stp H n=({ p with at_:=5 },H.pub p.who p.s):=by simp[WP.stp,h]
theorem stp5 {p:WP}(H:Hall)(n:Int)(h:p.at_=5):p.stp H n=({ p with at_:=6 },H.end_ p.who p.s):=by simp[WP.stp,h]
theorem stp6 {p:WP}(H:Hall)(n:Int)(h:6≤p.at_):p.stp H n=({ p with at_:=7 },H.unlock p.who p.s):=by
 unfold WP.stp
 rw[if_neg (by omega),if_neg (by omega),if_neg (by omega),if_neg (by omega),if_neg (by omega),if_neg (by omega)]
def WP.step (p:WP)(H:Hall)(n:Int):WP × Hall :=
 if p.enabled H=true then (if p.k.isBad then ({ p with err:=1,placed:=n,at_:=7 },H) else p.stp H n) else (p,H)
structure WG (n:Nat)(p:WP):Prop where
 s:p.s<n
 w:-1≤p.who∧p.who≤900
 a:p.at_≤7
 t:U64 p.t.now∧U64 p.t.seq
 o:∀ x,p.k = .op x→OpW x
theorem HS.run {m:Nat}{H:Hall}(x:HS m H){k:WK}{w:Int}{s:Nat}{t:Tm}(ho:∀ o,k = .op o→OpW o)(ht:U64 t.now)(hs:s<H.n):HS (m+1) (k.run H w s t).1:=by
 cases k with
 | bad=>exact x.mono (by omega)
 | op o=>exact x.write (ho o rfl) t ht hs
 | sweep=>exact x.sweep t hs
theorem HS.stp {m:Nat}{H:Hall}(x:HS m H){p:WP}(g:WG H.n p)(n:Int):HS (m+1) (p.stp H n).2:=by
 unfold WP.stp
 split
 ·exact x.lock g.s g.w.2
 split
 ·exact x.begin g.s
 split
 ·exact x.take _
 split
 ·exact x.run g.o g.t.1 g.s
 split
 ·exact x.pub g.s
 split
 ·exact x.end_ g.s
 ·exact x.unlock g.s
theorem HS.wstep {m:Nat}{H:Hall}(x:HS m H){p:WP}(g:WG H.n p)(n:Int):HS (m+1) (p.step H n).2:=by
 unfold WP.step
 split
 ·split
  ·exact x.mono (by omega)
  ·exact x.stp g n
 ·exact x.mono (by omega)
theorem run_n (k:WK)(H:Hall)(w:Int)(s:Nat)(t:Tm):(k.run H w s t).1.n=H.n∧(k.run H w s t).1.c=H.c:=by
 cases k with
 | bad=>exact⟨rfl,rfl⟩
 | op o=>simp only[WK.run,Hall.write]; split<;>exact⟨rfl,rfl⟩
 | sweep=>exact⟨rfl,rfl⟩
theorem stp_n (p:WP)(H:Hall)(n:Int):(p.stp H n).2.n=H.n∧(p.stp H n).2.c=H.c:=by
 unfold WP.stp
 have h1:=lock_n H p.who p.s
 have h2:=unlock_n H p.who p.s
 split
 ·exact⟨h1.1,h1.2.1⟩
 split
 ·exact⟨rfl,rfl⟩
 split
 ·exact⟨rfl,rfl⟩
 split
 ·exact run_n _ _ _ _ _
 split
 ·exact⟨rfl,rfl⟩
 split
 ·exact⟨rfl,rfl⟩
 ·exact⟨h2.1,h2.2.1⟩
theorem wstep_n (p:WP)(H:Hall)(n:Int):(p.step H n).2.n=H.n∧(p.step H n).2.c=H.c:=by
 unfold WP.step
 split
 ·split
  ·exact⟨rfl,rfl⟩
  ·exact stp_n p H n
 ·exact⟨rfl,rfl⟩
theorem stp_k (p:WP)(H:Hall)(n:Int):(p.stp H n).1.k=p.k∧(p.stp H n).1.who=p.who∧(p.stp H n).1.s=p.s:=by
 unfold WP.stp
 split
 ·exact⟨rfl,rfl,rfl⟩
 split
 ·exact⟨rfl,rfl,rfl⟩
 split
 ·exact⟨rfl,rfl,rfl⟩
 split
 ·exact⟨rfl,rfl,rfl⟩
 split
 ·exact⟨rfl,rfl,rfl⟩
 split<;>exact⟨rfl,rfl,rfl⟩
theorem wstep_k (p:WP)(H:Hall)(n:Int):(p.step H n).1.k=p.k∧(p.step H n).1.who=p.who∧(p.step H n).1.s=p.s:=by
 unfold WP.step
 split
 ·split
  ·exact⟨rfl,rfl,rfl⟩
  ·exact stp_k p H n
 ·exact⟨rfl,rfl,rfl⟩
theorem stp_at (p:WP)(H:Hall)(n:Int)(h:p.at_<7):(p.stp H n).1.at_=p.at_+1:=by
 unfold WP.stp
 split
 ·simp_all
 split
 ·simp_all
 split
 ·simp_all
 split
 ·simp_all
 split
 ·simp_all
 split
 ·simp_all
 ·show 7=_; omega
theorem enabled_at {p:WP}{H:Hall}(h:p.enabled H=true):p.at_<7:=by
 simp[WP.enabled,WP.done] at h; omega
theorem WG.step {m:Nat}{H:Hall}(x:HS m H){p:WP}(g:WG H.n p)(n:Int):WG H.n (p.step H n).1:=by
 obtain⟨k1,k2,k3⟩:=wstep_k p H n
 refine⟨by rw[k3]; exact g.s,by rw[k2]; exact g.w,?_,?_,by rw[k1]; exact g.o⟩
 ·unfold WP.step
  split
  ·rename_i he
   split
   ·simp
   ·rw[stp_at p H n (enabled_at he)]; have:=enabled_at he; omega
  ·exact g.a
 ·unfold WP.step
  split
  ·split
   ·exact g.t
   ·have ht:=x.take p.who
    unfold WP.stp
    split
    ·exact g.t
    split
    ·exact g.t
    split
    ·exact⟨ht.tn,ht.ts⟩
    split
    ·exact g.t
    split
    ·exact g.t
    split<;>exact g.t
  ·exact g.t
structure SwP where
 stripe:Nat
 rounds:Nat
 now:WP
def sect (who:Int)(s:Nat)(k:WK):WP:=⟨who,s,k,0,⟨0,0,false⟩,-1,0⟩
def SwP.new:SwP:=⟨0,0,sect 8 0 .sweep⟩
def SwP.nxt (p:SwP)(n:Nat):SwP:=if p.stripe+1=n then ⟨0,p.rounds+1,sect 8 0 .sweep⟩ else ⟨p.stripe+1,p.rounds,sect 8 (p.stripe+1) .sweep⟩
def SwP.step (p:SwP)(H:Hall)(n:Int):SwP × Hall × Bool :=
 let r:=p.now.step H n
 if r.1.done then ({ p with now:=r.1 }.nxt H.n,r.2,true) else ({ p with now:=r.1 },r.2,false)
structure SwG (n:Nat)(p:SwP):Prop where
 g:WG n p.now
 s:p.stripe<n
 e:p.now.s=p.stripe
 k:p.now.k = .sweep
 r:p.rounds<1000000
theorem sect_g {n s:Nat}(hs:s<n){who:Int}(hw:-1≤who∧who≤900){k:WK}(ho:∀ x,k = .op x→OpW x):WG n (sect who s k):=⟨hs,hw,by simp[sect],by simp[sect,U64],ho⟩
theorem SwG.new {n:Nat}(h:0<n):SwG n SwP.new:=⟨sect_g h (by omega) (by simp),h,rfl,rfl,by simp[SwP.new]⟩
theorem SwG.nxt {n:Nat}{p:SwP}(x:SwG n p)(hr:p.rounds<999999):SwG n (p.nxt n):=by
 have:=x.s
 unfold SwP.nxt
 split
 ·exact⟨sect_g (by omega) (by omega) (by simp),by show 0<n; omega,rfl,rfl,by show p.rounds+1<_; omega⟩
 ·exact⟨sect_g (by omega) (by omega) (by simp),by show p.stripe+1<n; omega,rfl,rfl,by show p.rounds<_; omega⟩
theorem SwG.step {m:Nat}{H:Hall}(h:HS m H){p:SwP}(x:SwG H.n p)(n:Int)(hr:p.rounds<999999):SwG H.n (p.step H n).1:=by
 have g':=x.g.step h n
 obtain⟨k1,k2,k3⟩:=wstep_k p.now H n
 have y:SwG H.n { p with now:=(p.now.step H n).1 }:=⟨g',x.s,by rw[k3]; exact x.e,by rw[k1]; exact x.k,x.r⟩
 unfold SwP.step
 dsimp only
 split
 ·exact y.nxt hr
 ·exact y
theorem sstep_n (p:SwP)(H:Hall)(n:Int):(p.step H n).2.1.n=H.n∧(p.step H n).2.1.c=H.c:=by
 unfold SwP.step; dsimp only
 have:=wstep_n p.now H n
 split<;>exact this
theorem HS.sstep {m:Nat}{H:Hall}(x:HS m H){p:SwP}(g:SwG H.n p)(n:Int):HS (m+1) (p.step H n).2.1:=by
 have:=x.wstep g.g n
 unfold SwP.step; dsimp only
 split<;>exact this
end Go.Den
namespace Go.Proofs.YtmbningljbcpkaaGreat
open Go Go.Den Go.MapKept
set_option linter.unusedSimpArgs false
set_option linter.unusedVariables false
set_option maxRecDepth 20000
structure StG (x:Strp):Prop where
 bw:BkW x.book
 bl:x.book.length<100000
 bs:∀ y∈x.book,y.1.size≤maxLen
 bn:∀ y∈x.book,y.2.ss.length<900000
 fg:FdG x.feed
theorem stG_of {m:Nat}{x:Strp}(s:StM m x)(h:m<100000):StG x:=⟨s.bk.bw,by have:=s.bk.bl; omega,s.bk.bs,fun y hy=>by have:=s.bk.bn y hy; omega,s.fd.g h⟩
theorem HallX.own {T T':Tags}{h h':Heap}{g:Tag}{p:Nat}{H:Hall}{sv av:Value}{Y:Nat→SV}(x:HallX T h g p H sv av Y)(k:Kp non T h T' h'):HallX T' h' g p H sv av Y :=
 ⟨(k.at x.hp x.tp (not_non _)).1,(k.at x.hp x.tp (not_non _)).2,x.st.kp k (not_non _),x.ac.kp k (not_non _),fun i hi=>(x.sr i hi).kp k (Off.non _) (not_non _)⟩
theorem put_put (H:Hall)(s:Nat)(y z:Strp):(H.put s y).put s z=H.put s z:=by
 unfold Hall.put
 congr 1
 funext k
 simp -implicitDefEqProofs only[sput]
 split<;>rfl
theorem put_at (H:Hall)(s:Nat)(y:Strp):(H.put s y).ss s=y:=by simp[Hall.put,sput]
theorem book_tell {T:Tags}{h:Heap}{g:Tag}{p b s:Nat}{H:Hall}{sv av k v cv:Value}{Y:Nat→SV}(w:Wf T h)(gg:Gd g)(x:HallX T h g p H sv av Y)(hs:s<H.n)(rb:rowOf sv=some b){B:Book}{l:List Chg}{seq:Int}
  (hb:BookR (fz T h) k v B) (hc:Sl 7 ChgR (fz T h) cv l) (hl:l.length<1000000) (fg:FdG (H.ss s).feed) {K:Heap→Prop}
  (hk:∀ h3,Only (fun t=>t=g++[1]) T h T h3→cel h3 b (s*8+7)=some (ptr (Y s).fp)→(∀ K':Value→Heap→Prop,(∀ T' h',Only (pre g) T h T' h'→HallR T' h' g p (H.put s { H.ss s with book:=B,feed:=(H.ss s).feed.tell l seq })→K' (.tuple #[]) h')→callM P qdMZ #[ptr (Y s).fp,cv,.int .u64 seq] h3 K')→K h3) :
  stM (some 2) (.pointer (some ⟨b,s*8+5,none⟩)) (.agg #[k,v]) h K:=by
 have hsr:=x.sr s hs
 have u1:=hb.1.one
 have u2:=hb.2.1.one
 refine x.stw w (off:=5) (X':={ H.ss s with book:=B }) (y':={ Y s with bk:=k,bv:=v }) hs rb rfl (by rfl) (by omega) (by simp[u1.1,u2.1]) (by simp[spl,strC]) ⟨hsr.1,hb,hsr.2.2⟩ fun h3 o3 x3=>?_
 obtain⟨b',ob,rb',hb1,tb,ia,l1,l2,l3,l4,l5,l6⟩:=x3.lds (s:=s) (k:=.i64) hs
 have hbb:b'=b:=by rw[rb] at rb'; cases rb'; rfl
 subst hbb
 rw[if_pos rfl] at l5
 refine hk h3 o3 l5 fun K' hk'=>?_
 have hf:=(x3.sr s hs).2.2
 rw[if_pos rfl,put_at] at hf
 refine tell_ok l seq o3.wf (gg.app [3,s]) hf fg (hc.ext (R:=ChgR) (@ChgR.ext) (o3.ext (by simp))) hl fun T4 h4 o4 r4=>?_
 have x4:=x3.fed hs o4 gg (f:=(H.ss s).feed.tell l seq) (by rw[if_pos rfl]; exact r4)
 rw[put_put,put_at] at x4
 exact hk' T4 h4 ((o3.mono fun t=>eq_pre).up o4 fun t=>pre_trans) ⟨sv,av,_,x4⟩
variable {K:KTy}
set_option maxHeartbeats 2000000 in
theorem hsweep_ok (who:Int){s:Nat}(t:Tm){T:Tags}{h:Heap}{g:Tag}{p:Nat}{H:Hall}(w:Wf T h)(gg:Gd g)(x:HallR T h g p H)(hs:s<H.n)(h8:H.n≤8)(hl:H.acts.length<1000000)(sg:StG (H.ss s))
  (hk:∀ T' h',Only (pre g) T h T' h'→HallR T' h' g p (H.sweep who s t)→K (.tuple #[]) h'):callM P qiVZ #[ptr p,.int .i64 who,.int .i64 s,.agg (tmC t).toArray] h K:=by
 apply qtAZ
 unfold qkkZ
 refine nw_agg fun v1 h1 n1 e1 c1=>?_
 simp -implicitDefEqProofs only[tmC] at c1
 have o1:Only non T h T h1:=Only.of_ext w e1
 have t1:T v1=[]:=w v1 n1
 obtain⟨sv,av,Y,x1⟩:=x.up o1 (Off.non _) (not_non _)
 refine hwr_ok who o1.wf gg x1 hs h8 hl fun T2 h2 av2 b o2 x2 rb=>?_
 have b1:=o2.k.at c1 t1 (fun h=>U012.nil g h.up)
 unfold qodZ
 rw[seqM_eq]
 unfold qobZ
 obtain⟨b',ob,rb',hb1,tb,ia,l1,l2,l3,l4,l5,l6⟩:=x2.lds (s:=s) (k:=.i64) hs
 have hbb:b'=b:=by rw[rb] at rb'; cases rb'; rfl
 subst hbb
 have hsr:=x2.sr s hs
 have c1':=b1.1
 have hlen:(sweepB (H.ss s).book t.now).2.length<100000:=Nat.lt_of_le_of_lt (sweep_chg (H.ss s).book t.now (H.ss s).book.length) sg.bl
 have fin:∀ (h5:Heap) (s6:Env) (k v cv:Value) (vb:Nat),Ext h2 h5→BookR (fz T2 h5) k v (sweepB (H.ss s).book t.now).1→Sl 7 ChgR (fz T2 h5) cv (sweepB (H.ss s).book t.now).2→h5 vb=some (.cells #[k,v] qaZ (0,0))→s6 7=ptr v1→s6 8 = .pointer (some ⟨b',s*8,none⟩)→s6 9=ptr vb→s6 10=cv→qixZ s6 h5 K []:=by
  intro h5 s6 k v cv vb e5 hb hc cvb s7 s8 s9 s10
  have o5:Only non T2 h2 T2 h5:=Only.of_ext o2.wf e5
  have x5:=x2.own o5.k
  have c1:=e5 _ _ c1'
  unfold qixZ
  simp -implicitDefEqProofs[s7,s8,s9,s10,ld_at cvb,cel_of cvb,stm_at cvb,stm_upd,ld_same,cel_same,over]
  refine book_tell (seq:=t.seq) o5.wf gg x5 hs rb hb hc (by omega) sg.fg fun h6 o6 l6 hT=>?_
  have c1:=(o6.k.at c1 b1.2 (by simp)).1
  simp -implicitDefEqProofs[l6,ld_at c1,cel_of c1,stm_at c1,stm_upd,ld_same,cel_same,over]
  refine hT _ fun T7 h7 o7 x7=>?_
  unfold qocZ
  simp -implicitDefEqProofs
  exact hk T7 h7 ((((o1.mono non_up).up o2 fun _=>U02.pre).up o5 non_up).up o7 fun t h=>h) x7
 simp -implicitDefEqProofs[ld_at c1',cel_of c1',stm_at c1',stm_upd,ld_same,cel_same,over,l4]
 refine⟨?_,?_⟩
 ·unfold qnZZ
  refine bsweep_ok _ sg.bw sg.bl sg.bs sg.bn t.now o2.wf hsr.2.1 fun h5 k v cv e5 hb hc=>?_
  unfold qnYZ
  have p1:=hb.1.one
  have p2:=hb.2.1.one
  simp -implicitDefEqProofs only[exV_0,exV_1,ov_s,zcMap]
  refine nw_st (by simp) (by simp) (by simp[p1.1,p2.1]) fun vb h6 n6 e6 c6=>?_
  simp -implicitDefEqProofs only[cells_agg] at c6
  try simp only[thenM_n]
  refine fin h6 _ k v cv vb (e5.trans e6) (hb.ext (fz_of_ext e6)) (hc.ext (R:=ChgR) (@ChgR.ext) (fz_of_ext e6)) c6 ?_ ?_ ?_ ?_<;>simp
 ·unfold qoaZ
  rw[zcMap]
  refine nw_intro fun vb h5 n5 e5 c5=>?_
  have o5:Only non T2 h2 T2 h5:=Only.of_ext o2.wf e5
  have x5:=x2.own o5.k
  obtain⟨b'',ob',rb'',hb1',tb',ia',l1',l2',l3',l4',l5',l6'⟩:=x5.lds (s:=s) (k:=.i64) hs
  have hbb:b''=b':=by rw[rb] at rb''; cases rb''; rfl
  subst hbb
  have c1:=e5 _ _ c1'
  refine⟨l4',by simp[ld_at c1,cel_of c1,stm_at c1,stm_upd,ld_same,cel_same,over],?_⟩
  have wt:Wf (tset T2 vb lc) h5:=wf_loc o5.wf c5
  refine bsweep_ok _ sg.bw sg.bl sg.bs sg.bn t.now wt (hsr.2.1.ext (fz_in n5 e5)) fun h6 k v cv e6 hb hc=>?_
  have p1:=hb.1.one
  have p2:=hb.2.1.one
  have c6:=e6 _ _ c5
  simp -implicitDefEqProofs[ld_at c6,cel_of c6,stm_at c6,stm_upd,ld_same,cel_same,over,p1.1,p2.1]
  try simp only[thenM_n]
  refine fin _ _ k v cv vb (ext_upd n5 (e5.trans e6)) (hb.ext fz_loc) (hc.ext (R:=ChgR) (@ChgR.ext) fz_loc) (upd_same' _ _ _) ?_ ?_ ?_ ?_<;>simp
theorem settle_chg (b:Book)(u:ByteArray)(ss:List Sess)(now:Int):(settleB b u ss now).2.length≤1:=by unfold settleB; dsimp only; split<;>simp
set_option maxHeartbeats 2000000 in
theorem hwrite_ok (who:Int){s:Nat}(o:OpD)(ow:OpW o){uv:Value}(ou:One uv)(t:Tm)(ht:U64 t.now){T:Tags}{h:Heap}{g:Tag}{p:Nat}{H:Hall}(w:Wf T h)(gg:Gd g)(x:HallR T h g p H)(hs:s<H.n)(h8:H.n≤8)(hl:H.acts.length<1000000)(sg:StG (H.ss s))
  (hk:∀ T' h',Only (pre g) T h T' h'→HallR T' h' g p (H.write who s o t).1→K (.int .i64 (H.write who s o t).2) h'):callM P qiUZ #[ptr p,.int .i64 who,.int .i64 s,.agg (opC o uv).toArray,.agg (tmC t).toArray] h K:=by
 apply qtzZ
 unfold qkjZ
 refine nw_agg fun v1 h0 n0 e0 c0=>?_
 refine nw_agg fun v3 h1 n1 e1 c3=>?_
 simp -implicitDefEqProofs only[tmC] at c3
 simp -implicitDefEqProofs only[opC] at c0
 have o1:Only non T h T h1:=Only.of_ext w (e0.trans e1)
 have c0:=e1 _ _ c0
 have t1:T v1=[]:=w v1 n0
 have t3:T v3=[]:=w v3 (fresh_of e0 n1)
 obtain⟨sv,av,Y,x1⟩:=x.up o1 (Off.non _) (not_non _)
 refine hwr_ok who o1.wf gg x1 hs h8 hl fun T2 h2 av2 b o2 x2 rb=>?_
 have b1:=o2.k.at c0 t1 (fun h=>U012.nil g h.up)
 have b3:=o2.k.at c3 t3 (fun h=>U012.nil g h.up)
 have c1':=b1.1
 have c3':=b3.1
 have oh:Only (pre g) T h T2 h2:=(o1.mono non_up).up o2 fun _=>U02.pre
 unfold qnXZ
 cases htc:t.closed with
 | true =>
  rw[htc] at c3'
  have e:H.write who s o t=(H.wr who s,5):=by simp[Hall.write,htc]
  rw[e] at hk
  simp -implicitDefEqProofs[ld_at c3',cel_of c3',stm_at c3',stm_upd,ld_same,cel_same,over]
  exact hk T2 h2 oh ⟨sv,av2,Y,x2⟩
 | false =>
 rw[htc] at c3'
 obtain⟨r,hr⟩:∃ r,writeB (H.ss s).book o t.now H.c.sessions=r:=⟨_,rfl⟩
 have e:H.write who s o t=((H.wr who s).put s { H.ss s with book:=r.1,feed:=(H.ss s).feed.tell r.2.1 t.seq },r.2.2):=by simp[Hall.write,htc,hr]
 rw[e] at hk
 simp -implicitDefEqProofs[ld_at c3',cel_of c3',stm_at c3',stm_upd,ld_same,cel_same,over]
 unfold qnWZ
 rw[seqM_eq]
 unfold qnUZ
 obtain⟨b',ob,rb',hb1,tb,ia,l1,l2,l3,l4,l5,l6⟩:=x2.lds (s:=s) (k:=.i64) hs
 have hbb:b'=b:=by rw[rb] at rb'; cases rb'; rfl
 subst hbb
 have hsr:=x2.sr s hs
 have cp:=x2.hp
 simp -implicitDefEqProofs only[hallC] at cp
 have hlen:r.2.1.length≤1:=by rw[← hr]; exact settle_chg _ _ _ _
 have fin:∀ (h5:Heap) (s6:Env) (k v cv:Value) (vb:Nat),Ext h2 h5→BookR (fz T2 h5) k v r.1→Sl 7 ChgR (fz T2 h5) cv r.2.1→h5 vb=some (.cells #[k,v] qaZ (0,0))→s6 9=ptr v3→s6 11 = .pointer (some ⟨b',s*8,none⟩)→s6 12=ptr vb→s6 13=cv→s6 14 = .int .i64 r.2.2→qiwZ s6 h5 K []:=by
  intro h5 s6 k v cv vb e5 hb hc cvb s9 s11 s12 s13 s14
  have o5:Only non T2 h2 T2 h5:=Only.of_ext o2.wf e5
  have x5:=x2.own o5.k
  have c3:=e5 _ _ c3'
  unfold qiwZ
  simp -implicitDefEqProofs[s9,s11,s12,s13,ld_at cvb,cel_of cvb,stm_at cvb,stm_upd,ld_same,cel_same,over]
  refine book_tell (seq:=t.seq) o5.wf gg x5 hs rb hb hc (by omega) sg.fg fun h6 o6 l6 hT=>?_
  have c3:=(o6.k.at c3 b3.2 (by simp)).1
  simp -implicitDefEqProofs[l6,ld_at c3,cel_of c3,stm_at c3,stm_upd,ld_same,cel_same,over]
  refine hT _ fun T7 h7 o7 x7=>?_
  unfold qnVZ
  simp -implicitDefEqProofs[s14]
  exact hk T7 h7 ((oh.up o5 non_up).up o7 fun t h=>h) x7
 have oa:ldV (some (some 7)) (ptr v1) h2=some (.agg (opC o uv).toArray):=by simp[ld_at c1',opC]
 have hse:(Hall.wr H who s).c.sessions=H.c.sessions:=rfl
 simp -implicitDefEqProofs[ld_at c3',cel_of c3',stm_at c3',ld_at cp,cel_of cp,stm_at cp,stm_upd,ld_same,cel_same,over,l4,oa,hse]
 refine⟨?_,?_⟩
 ·unfold qnSZ
  refine bwrite_ok _ sg.bw o ow ou ht H.c.sessions o2.wf hsr.2.1 (by have:=sg.bl; omega) ?_ fun h5 k v cv e5 hb hc=>?_
  ·rcases entOf_cases (H.ss s).book o.user with h | ⟨y,h1,h2,h3⟩
   ·show (entOf (H.ss s).book o.user).ss.length<_
    rw[h]; simp[ent0]
   ·show (entOf (H.ss s).book o.user).ss.length<_
    rw[h3]; exact sg.bn y h1
  have hb:BookR (fz T2 h5) k v r.1:=by rw[← hr]; exact hb
  have hc:Sl 7 ChgR (fz T2 h5) cv r.2.1:=by rw[← hr]; exact hc
  have hrr:(writeB ((H.wr who s).ss s).book o t.now H.c.sessions).2.2=r.2.2:=by rw[← hr]; rfl
  unfold qnRZ
  have p1:=hb.1.one
  have p2:=hb.2.1.one
  simp -implicitDefEqProofs only[exV_0,exV_1,exV_2,ov_s,zcMap,hrr]
  refine nw_st (by simp) (by simp) (by simp[p1.1,p2.1]) fun vb h6 n6 e6 c6=>?_
  simp -implicitDefEqProofs only[cells_agg] at c6
  try simp only[thenM_n]
  refine fin h6 _ k v cv vb (e5.trans e6) (hb.ext (fz_of_ext e6)) (hc.ext (R:=ChgR) (@ChgR.ext) (fz_of_ext e6)) c6 ?_ ?_ ?_ ?_ ?_<;>simp[hr]
 ·unfold qnTZ
  rw[zcMap]
  refine nw_intro fun vb h5 n5 e5 c5=>?_
  have o5:Only non T2 h2 T2 h5:=Only.of_ext o2.wf e5
  have x5:=x2.own o5.k
  obtain⟨b'',ob',rb'',hb1',tb',ia',l1',l2',l3',l4',l5',l6'⟩:=x5.lds (s:=s) (k:=.i64) hs
  have hbb:b''=b':=by rw[rb] at rb''; cases rb''; rfl
  subst hbb
  have c3:=e5 _ _ c3'
  have c1:=e5 _ _ c1'
  have cp:=x5.hp
  simp -implicitDefEqProofs only[hallC] at cp
  have oa:ldV (some (some 7)) (ptr v1) h5=some (.agg (opC o uv).toArray):=by simp[ld_at c1,opC]
  refine⟨l4',oa,by simp[ld_at c3,cel_of c3,stm_at c3,stm_upd,ld_same,cel_same,over],by simp[ld_at cp,cel_of cp,stm_at cp,stm_upd,ld_same,cel_same,over,hse],?_⟩
  have wt:Wf (tset T2 vb lc) h5:=wf_loc o5.wf c5
  refine bwrite_ok _ sg.bw o ow ou ht H.c.sessions wt (hsr.2.1.ext (fz_in n5 e5)) (by have:=sg.bl; omega) ?_ fun h6 k v cv e6 hb hc=>?_
  ·rcases entOf_cases (H.ss s).book o.user with h | ⟨y,h1,h2,h3⟩
   ·show (entOf (H.ss s).book o.user).ss.length<_
    rw[h]; simp[ent0]
   ·show (entOf (H.ss s).book o.user).ss.length<_
    rw[h3]; exact sg.bn y h1
  have hb:BookR (fz (tset T2 vb lc) h6) k v r.1:=by rw[← hr]; exact hb
  have hc:Sl 7 ChgR (fz (tset T2 vb lc) h6) cv r.2.1:=by rw[← hr]; exact hc
  have hrr:(writeB ((H.wr who s).ss s).book o t.now H.c.sessions).2.2=r.2.2:=by rw[← hr]; rfl
  have p1:=hb.1.one
  have p2:=hb.2.1.one
  have c6:=e6 _ _ c5
  try simp only[hrr]
  simp -implicitDefEqProofs[ld_at c6,cel_of c6,stm_at c6,stm_upd,ld_same,cel_same,over,p1.1,p2.1]
  try simp only[thenM_n]
  refine fin _ _ k v cv vb (ext_upd n5 (e5.trans e6)) (hb.ext fz_loc) (hc.ext (R:=ChgR) (@ChgR.ext) fz_loc) (upd_same' _ _ _) ?_ ?_ ?_ ?_ ?_<;>simp[hr]
end Go.Proofs.YtmbningljbcpkaaGreat
namespace Go.Proofs.YtmbningljbcpkaaGreat
open Go Go.Den Go.MapKept
set_option linter.unusedSimpArgs false
set_option linter.unusedVariables false
set_option maxRecDepth 20000
theorem fz_get {T:Tags}{h:Heap}{b:Nat}{o:Obj}(e:fz T h b=some o):h b=some o∧T b=[]:=by
 unfold fz at e
 split at e
 ·rename_i ht; exact⟨e,ht⟩
 ·cases e
def ApR (F:Heap)(ap:Value)(k:WK)(who:Int)(s:Nat):Prop:=match k with
 | .bad=>ap = .nilFunc
 | .op x=>∃ b1 b2 b3 uv,ap = .func (.func qePZ) #[] #[ptr b1,ptr b2,ptr b3]∧F b1=some (.cells #[.int .i64 who] qqZ (0,0))∧F b2=some (.cells #[.int .i64 s] qqZ (0,0))∧F b3=some (.cells (opC x uv).toArray qaCZ (0,0))∧One uv
 | .sweep=>∃ b,ap = .func (.func qbdZ) #[] #[ptr b]∧F b=some (.cells #[.int .i64 s] qqZ (0,0))∧who=8
theorem ApR.ext {F F':Heap}{ap:Value}{k:WK}{who:Int}{s:Nat}(e:Ext F F')(x:ApR F ap k who s):ApR F' ap k who s:=by
 cases k with
 | bad=>exact x
 | op o=>obtain⟨b1,b2,b3,uv,h1,h2,h3,h4,h5⟩:=x; exact⟨b1,b2,b3,uv,h1,e _ _ h2,e _ _ h3,e _ _ h4,h5⟩
 | sweep=>obtain⟨b,h1,h2,h3⟩:=x; exact⟨b,h1,e _ _ h2,h3⟩
theorem ApR.nil {F:Heap}{ap:Value}{k:WK}{who:Int}{s:Nat}(x:ApR F ap k who s):binV .eql 6 true ap .nilFunc=some (.bool k.isBad):=by
 cases k with
 | bad=>have:ap = .nilFunc:=x; subst this; rfl
 | op o=>obtain⟨b1,b2,b3,uv,rfl,_⟩:=x; rfl
 | sweep=>obtain⟨b,rfl,_⟩:=x; rfl
def repC (e:Int):List Value:=[.int .i64 e,.slice none 0 0,.slice none 0 0,.bool false]
theorem zcRep:zc P qbeZ=some #[.int .i64 0,.slice none 0 0,.slice none 0 0,.bool false]:=by kernel_rfl
theorem bdRepE (e:Int):bdV (binf P qbeZ) [(0,.int .i64 e)]=some (.agg #[.int .i64 e,.slice none 0 0,.slice none 0 0,.bool false]):=by kernel_rfl
theorem bdRep0:bdV (binf P qbeZ) []=some (.agg #[.int .i64 0,.slice none 0 0,.slice none 0 0,.bool false]):=by kernel_rfl
theorem opap_ok (who:Int){s:Nat}(o:OpD)(ow:OpW o){uv:Value}(ou:One uv)(t:Tm)(ht:U64 t.now){T:Tags}{h:Heap}{g:Tag}{p b1 b2 b3:Nat}{H:Hall}(w:Wf T h)(gg:Gd g)(x:HallR T h g p H)(hs:s<H.n)(h8:H.n≤8)(hl:H.acts.length<1000000)(sg:StG (H.ss s))
  (f1:fz T h b1=some (.cells #[.int .i64 who] qqZ (0,0))) (f2:fz T h b2=some (.cells #[.int .i64 s] qqZ (0,0))) (f3:fz T h b3=some (.cells (opC o uv).toArray qaCZ (0,0))) {K:KTy}
  (hk:∀ T' h',Only (pre g) T h T' h'→HallR T' h' g p (H.write who s o t).1→K (.agg (repC (H.write who s o t).2).toArray) h'):callM P qePZ #[ptr p,.agg (tmC t).toArray,ptr b1,ptr b2,ptr b3] h K:=by
 apply quhZ
 unfold qoEZ
 rw[zcRep]
 refine nw_agg fun v1 h1 n1 e1 c1=>?_
 have o1:Only non T h T h1:=Only.of_ext w e1
 refine nw_tag o1.wf lc fun v3 T2 h2 n3 o2 t3 c3=>?_
 have x2:=(x.up o1 (Off.non _) (not_non _)).up o2 (Off.non _) (not_non _)
 have k1:=(o2.k.at (e1 _ _ (fz_get f1).1) (fz_get f1).2 (not_non _)).1
 have k2:=(o2.k.at (e1 _ _ (fz_get f2).1) (fz_get f2).2 (not_non _)).1
 have k3:=(o2.k.at (e1 _ _ (fz_get f3).1) (fz_get f3).2 (not_non _)).1
 have k4:=(o2.k.at c1 (w v1 n1) (not_non _)).1
 have oa:ldV (some (some 7)) (ptr b3) h2=some (.agg (opC o uv).toArray):=by simp[ld_at k3,opC]
 have ob:ldV (some (some 3)) (ptr v1) h2=some (.agg (tmC t).toArray):=by simp[ld_at k4,tmC]
 simp -implicitDefEqProofs only[oa,ob,ov_s]
 simp -implicitDefEqProofs[ld_at k1,cel_of k1,stm_at k1,ld_at k2,cel_of k2,stm_at k2,stm_upd,ld_same,cel_same,over]
 have m0:h v3=none:=by
  cases hh:h v3 with
  | none=>rfl
  | some o=>rw[e1 _ _ hh] at n3; cases n3
 refine hwrite_ok who o ow ou t ht o2.wf gg x2 hs h8 hl sg fun T4 h4 o4 x4=>?_
 have b3':=o4.see ⟨c3,t3⟩ gg.nlc
 have c3':=b3'.1
 simp -implicitDefEqProofs[ld_at c3',cel_of c3',stm_at c3',stm_upd,ld_same,cel_same,over,bdRepE]
 have oo:Only (pre g) T h T4 h4:=((o1.mono non_up).up o2 non_up).up o4 fun t h=>h
 exact hk T4 _ (oo.own m0 c3') (x4.lst gg oo.wf b3')
theorem swap_ok {s:Nat}(t:Tm){T:Tags}{h:Heap}{g:Tag}{p b2:Nat}{H:Hall}(w:Wf T h)(gg:Gd g)(x:HallR T h g p H)(hs:s<H.n)(h8:H.n≤8)(hl:H.acts.length<1000000)(sg:StG (H.ss s))
  (f2:fz T h b2=some (.cells #[.int .i64 s] qqZ (0,0))) {K:KTy}
  (hk:∀ T' h',Only (pre g) T h T' h'→HallR T' h' g p (H.sweep 8 s t)→K (.agg (repC 0).toArray) h'):callM P qbdZ #[ptr p,.agg (tmC t).toArray,ptr b2] h K:=by
 apply qrvZ
 unfold qfEZ
 rw[zcRep]
 refine nw_agg fun v1 h1 n1 e1 c1=>?_
 have o1:Only non T h T h1:=Only.of_ext w e1
 refine nw_tag o1.wf lc fun v3 T2 h2 n3 o2 t3 c3=>?_
 have x2:=(x.up o1 (Off.non _) (not_non _)).up o2 (Off.non _) (not_non _)
 have k2:=(o2.k.at (e1 _ _ (fz_get f2).1) (fz_get f2).2 (not_non _)).1
 have k4:=(o2.k.at c1 (w v1 n1) (not_non _)).1
 have ob:ldV (some (some 3)) (ptr v1) h2=some (.agg (tmC t).toArray):=by simp[ld_at k4,tmC]
 simp -implicitDefEqProofs only[ob,ov_s]
 simp -implicitDefEqProofs[ld_at k2,cel_of k2,stm_at k2,stm_upd,ld_same,cel_same,over]
 have m0:h v3=none:=by
  cases hh:h v3 with
  | none=>rfl
  | some o=>rw[e1 _ _ hh] at n3; cases n3
 refine hsweep_ok 8 t o2.wf gg x2 hs h8 hl sg fun T4 h4 o4 x4=>?_
 have b3':=o4.see ⟨c3,t3⟩ gg.nlc
 have c3':=b3'.1
 simp -implicitDefEqProofs[ld_at c3',cel_of c3',stm_at c3',stm_upd,ld_same,cel_same,over,bdRep0]
 have oo:Only (pre g) T h T4 h4:=((o1.mono non_up).up o2 non_up).up o4 fun t h=>h
 exact hk T4 _ (oo.own m0 c3') (x4.lst gg oo.wf b3')
variable {K:KTy}
theorem ap_ok {k:WK}{who:Int}{s:Nat}{ap:Value}(hb:k.isBad=false)(ho:∀ o,k = .op o→OpW o)(t:Tm)(ht:U64 t.now){T:Tags}{h:Heap}{g:Tag}{p:Nat}{H:Hall}(w:Wf T h)(gg:Gd g)(x:HallR T h g p H)(hs:s<H.n)(h8:H.n≤8)(hl:H.acts.length<1000000)(sg:StG (H.ss s))(a:ApR (fz T h) ap k who s)
  (hk:∀ T' h',Only (pre g) T h T' h'→HallR T' h' g p (k.run H who s t).1→K (.agg (repC (k.run H who s t).2).toArray) h'):nxM P (do let d ← Deferred.ofValue ap #[ptr p,.agg (tmC t).toArray]; invoke d.target d.args) h K:=by
 cases k with
 | bad=>simp[WK.isBad] at hb
 | op o =>
  obtain⟨b1,b2,b3,uv,rfl,f1,f2,f3,ou⟩:=a
  refine nx_fn good (by kernel_rfl) ?_
  exact opap_ok who o (ho o rfl) ou t ht w gg x hs h8 hl sg f1 f2 f3 hk
 | sweep =>
  obtain⟨b,rfl,f2,rfl⟩:=a
  refine nx_fn good (by kernel_rfl) ?_
  exact swap_ok t w gg x hs h8 hl sg f2 hk
def wpC (p:WP)(ap:Value):List Value:=[.int .i64 p.who,.int .i64 p.s,ap,.int .i64 p.at_,.int .u64 p.t.now,.int .u64 p.t.seq,.bool p.t.closed,.int .i64 p.placed,.int .i64 p.err,.slice none 0 0,.slice none 0 0,.bool false]
structure WPX (T:Tags)(h:Heap)(g:Tag)(q:Nat)(p:WP)(ap:Value):Prop where
 hp:h q=some (.cells (wpC p ap).toArray qbQZ (0,0))
 tp:T q=g++[0]
 ap:ApR (fz T h) ap p.k p.who p.s
def WPR (T:Tags)(h:Heap)(g:Tag)(q:Nat)(p:WP):Prop:=∃ ap,WPX T h g q p ap
theorem WPX.kp {U:Tag→Prop}{T T':Tags}{h h':Heap}{g:Tag}{q:Nat}{p:WP}{ap:Value}(x:WPX T h g q p ap)(k:Kp U T h T' h')(o:Off U g)(n:¬ U []):WPX T' h' g q p ap :=
 ⟨(k.at x.hp x.tp (o.at _)).1,(k.at x.hp x.tp (o.at _)).2,x.ap.ext (k.ext n)⟩
theorem WPR.kp {U:Tag→Prop}{T T':Tags}{h h':Heap}{g:Tag}{q:Nat}{p:WP}(x:WPR T h g q p)(k:Kp U T h T' h')(o:Off U g)(n:¬ U []):WPR T' h' g q p:=by
 obtain⟨ap,x⟩:=x
 exact⟨ap,x.kp k o n⟩
theorem WPX.st {T:Tags}{h:Heap}{g:Tag}{q:Nat}{p p':WP}{ap:Value}(x:WPX T h g q p ap)(w:Wf T h){c:Array Value}(hc:c=(wpC p' ap).toArray)(h1:p'.k=p.k)(h2:p'.who=p.who)(h3:p'.s=p.s) :
  Only (fun t=>t=g++[0]) T h T (upd h q (.cells c qbQZ (0,0)))∧WPX T (upd h q (.cells c qbQZ (0,0))) g q p' ap:=by
 have o1:Only (fun t=>t=g++[0]) T h T (upd h q (.cells c qbQZ (0,0))):=Only.upd w x.hp x.tp
 exact⟨o1,by rw[upd_same',hc],x.tp,by rw[h1,h2,h3]; exact x.ap.ext (o1.ext (by simp))⟩
abbrev stepA:Array Value:=#[.func (.func qazZ) #[] #[],.func (.func qapZ) #[] #[],.func (.func qaAZ) #[] #[],.func (.func qaqZ) #[] #[],.func (.func qUZ) #[] #[],.func (.func qaQZ) #[] #[],.func (.func qaiZ) #[] #[]]
theorem bsSteps:Instr.fill (fun i=>some (i*1,1)) (zrow #[.nilFunc] (7*1)) [(0,(.func (.func qazZ) #[] #[])),(1,(.func (.func qapZ) #[] #[])),(2,(.func (.func qaAZ) #[] #[])),(3,(.func (.func qaqZ) #[] #[])),(4,(.func (.func qUZ) #[] #[])),(5,(.func (.func qaQZ) #[] #[])),(6,(.func (.func qaiZ) #[] #[]))]=some #[.func (.func qazZ) #[] #[],.func (.func qapZ) #[] #[],.func (.func qaAZ) #[] #[],.func (.func qaqZ) #[] #[],.func (.func qUZ) #[] #[],.func (.func qaQZ) #[] #[],.func (.func qaiZ) #[] #[]]:=by kernel_rfl
theorem bsStepsI:bsI P qbRZ=some (qcTZ,1,#[.nilFunc]):=by kernel_rfl
theorem steps_ok {h:Heap}(hk:∀ b h',h b=none→Ext h h'→h' b=some (.cells #[.func (.func qazZ) #[] #[],.func (.func qapZ) #[] #[],.func (.func qaAZ) #[] #[],.func (.func qaqZ) #[] #[],.func (.func qUZ) #[] #[],.func (.func qaQZ) #[] #[],.func (.func qaiZ) #[] #[]] qcTZ (0,0))→K (.slice (some ⟨b,0,none⟩) 7 7) h'):callM P qfmZ #[] h K:=by
 apply quoZ
 unfold qptZ
 rw[bsStepsI]
 simp -implicitDefEqProofs only[bsM]
 rw[bsSteps]
 exact⟨by omega,fun b hb=>hk b _ hb (Ext.upd hb _) (upd_same _ _ _)⟩
theorem wdone_ok {T:Tags}{h:Heap}{g:Tag}{q:Nat}{p:WP}(x:WPR T h g q p)(hk:∀ h',Ext h h'→K (.bool p.done) h'):callM P qeOZ #[ptr q] h K:=by
 apply qtwZ
 unfold qkgZ
 obtain⟨ap,x⟩:=x
 have cp:=x.hp
 simp -implicitDefEqProofs only[wpC] at cp
 simp -implicitDefEqProofs[ld_at cp,cel_of cp,stm_at cp,stm_upd,ld_same,cel_same,over]
 refine steps_ok fun b h1 n1 e1 c1=>?_
 have cp:=e1 _ _ cp
 simp -implicitDefEqProofs[ld_at cp,cel_of cp,stm_at cp,stm_upd,ld_same,cel_same,over]
 exact kb (hk _ e1) (by unfold WP.done; exact decide_eq_decide.2 (by omega))
theorem wwaits_ok {T:Tags}{h:Heap}{g:Tag}{q:Nat}{p:WP}(x:WPR T h g q p)(hk:K (.int .i64 p.waits) h):callM P qihZ #[ptr q] h K:=by
 apply qsPZ
 unfold qjiZ
 obtain⟨ap,x⟩:=x
 have cp:=x.hp
 simp -implicitDefEqProofs only[wpC] at cp
 have hn:=x.ap.nil
 unfold WP.waits at hk
 cases hb:p.k.isBad with
 | true =>
  rw[hb] at hn hk
  simp at hk
  simp -implicitDefEqProofs[ld_at cp,cel_of cp,stm_at cp,stm_upd,ld_same,cel_same,over,hn]
  exact hk
 | false =>
  rw[hb] at hn hk
  simp at hk
  simp -implicitDefEqProofs[ld_at cp,cel_of cp,stm_at cp,stm_upd,ld_same,cel_same,over,hn]
  refine⟨fun h=>?_,fun h=>?_⟩
  ·rw[if_pos h] at hk; exact hk
  ·rw[if_neg (by omega)] at hk; exact hk
theorem wplaced_ok {T:Tags}{h:Heap}{g:Tag}{q:Nat}{p:WP}(x:WPR T h g q p)(hk:K (.int .i64 p.placed) h):callM P qhaZ #[ptr q] h K:=by
 apply qsqZ
 unfold qirZ
 obtain⟨ap,x⟩:=x
 have cp:=x.hp
 simp -implicitDefEqProofs only[wpC] at cp
 simp -implicitDefEqProofs[ld_at cp,cel_of cp,stm_at cp,stm_upd,ld_same,cel_same,over]
 exact hk
theorem wenabled_ok {T:Tags}{h:Heap}{g gh:Tag}{q hp:Nat}{p:WP}{H:Hall}(w:Wf T h)(x:WPR T h g q p)(y:HallR T h gh hp H)(hs:p.s<H.n)(hk:∀ h',Ext h h'→K (.bool (p.enabled H)) h'):callM P qdsZ #[ptr q,ptr hp] h K:=by
 apply qrHZ
 unfold qhnZ
 refine wdone_ok x fun h1 e1=>?_
 unfold qkCZ
 have o1:Only non T h T h1:=Only.of_ext w e1
 have x1:=x.kp o1.k (Off.non _) (not_non _)
 have y1:=y.up o1 (Off.non _) (not_non _)
 cases hd:p.done with
 | true =>
  simp -implicitDefEqProofs
  exact kb (hk _ e1) (by simp[WP.enabled,hd])
 | false =>
  simp -implicitDefEqProofs
  refine wwaits_ok x1 ?_
  by_cases hw:p.waits<0
  ·simp -implicitDefEqProofs[hw]
   exact kb (hk _ e1) (by simp[WP.enabled,hd,hw])
  ·obtain⟨ap,x1'⟩:=x1
   have cp:=x1'.hp
   simp -implicitDefEqProofs only[wpC] at cp
   simp -implicitDefEqProofs[hw,ld_at cp,cel_of cp,stm_at cp,stm_upd,ld_same,cel_same,over]
   refine free_ok y1 hs fun h2 e2=>?_
   try simp
   exact kb (hk _ (e1.trans e2)) (by simp[WP.enabled,hd,hw])
end Go.Proofs.YtmbningljbcpkaaGreat
namespace Go.Proofs.YtmbningljbcpkaaGreat
open Go Go.Den Go.MapKept
set_option linter.unusedSimpArgs false
set_option linter.unusedVariables false
set_option maxRecDepth 20000
section
variable {T:Tags}{h:Heap}{g gh:Tag}{q hp:Nat}{p:WP}{H:Hall}{K:KTy}
theorem wlock_ok (w:Wf T h)(gg:Gd gh)(x:WPR T h g q p)(y:HallR T h gh hp H)(wg:WG H.n p)(h8:H.n≤8)(hl:H.acts.length<1000000)(hk:∀ T' h',Only (pre gh) T h T' h'→HallR T' h' gh hp (H.lock p.who p.s)→K (.tuple #[]) h'):callM P qazZ #[ptr q,ptr hp] h K:=by
 apply qtEZ
 unfold qkoZ
 obtain⟨ap,x⟩:=x
 have cp:=x.hp
 simp -implicitDefEqProofs only[wpC] at cp
 simp -implicitDefEqProofs[ld_at cp,cel_of cp,stm_at cp,stm_upd,ld_same,cel_same,over]
 exact lock_ok _ w gg y wg.s h8 hl (by have:=wg.w; omega) hk
theorem wbegin_ok (w:Wf T h)(gg:Gd gh)(x:WPR T h g q p)(y:HallR T h gh hp H)(wg:WG H.n p)(h8:H.n≤8)(hl:H.acts.length<1000000)(hv:U64 (H.ss p.s).v)(hb:U64 (H.ss p.s).bound)(hk:∀ T' h',Only (pre gh) T h T' h'→HallR T' h' gh hp (H.begin p.who p.s)→K (.tuple #[]) h'):callM P qapZ #[ptr q,ptr hp] h K:=by
 apply qteZ
 unfold qjsZ
 obtain⟨ap,x⟩:=x
 have cp:=x.hp
 simp -implicitDefEqProofs only[wpC] at cp
 simp -implicitDefEqProofs[ld_at cp,cel_of cp,stm_at cp,stm_upd,ld_same,cel_same,over]
 exact begin2_ok _ w gg y wg.s h8 hl hv hb hk
theorem wpub_ok (w:Wf T h)(gg:Gd gh)(x:WPR T h g q p)(y:HallR T h gh hp H)(wg:WG H.n p)(h8:H.n≤8)(hl:H.acts.length<900000)(hk:∀ T' h',Only (pre gh) T h T' h'→HallR T' h' gh hp (H.pub p.who p.s)→K (.tuple #[]) h'):callM P qUZ #[ptr q,ptr hp] h K:=by
 apply qrRZ
 unfold qhvZ
 obtain⟨ap,x⟩:=x
 have cp:=x.hp
 simp -implicitDefEqProofs only[wpC] at cp
 simp -implicitDefEqProofs[ld_at cp,cel_of cp,stm_at cp,stm_upd,ld_same,cel_same,over]
 exact hpub_ok _ w gg y wg.s h8 (by omega) hk
theorem wend_ok (w:Wf T h)(gg:Gd gh)(x:WPR T h g q p)(y:HallR T h gh hp H)(wg:WG H.n p)(h8:H.n≤8)(hl:H.acts.length<1000000)(hv:U64 (H.ss p.s).v)(hw:wrt (H.ss p.s).v=true→(H.ss p.s).v<18446744073709551615)(hk:∀ T' h',Only (pre gh) T h T' h'→HallR T' h' gh hp (H.end_ p.who p.s)→K (.tuple #[]) h'):callM P qaQZ #[ptr q,ptr hp] h K:=by
 apply qtXZ
 unfold qlDZ
 obtain⟨ap,x⟩:=x
 have cp:=x.hp
 simp -implicitDefEqProofs only[wpC] at cp
 simp -implicitDefEqProofs[ld_at cp,cel_of cp,stm_at cp,stm_upd,ld_same,cel_same,over]
 exact hend_ok _ w gg y wg.s h8 hl hv hw hk
theorem wunlock_ok (w:Wf T h)(gg:Gd gh)(x:WPR T h g q p)(y:HallR T h gh hp H)(wg:WG H.n p)(h8:H.n≤8)(hl:H.acts.length<1000000)(hw:0≤(H.ss p.s).who∧(H.ss p.s).who≤1000)(hk:∀ T' h',Only (pre gh) T h T' h'→HallR T' h' gh hp (H.unlock p.who p.s)→K (.tuple #[]) h'):callM P qaiZ #[ptr q,ptr hp] h K:=by
 apply qsyZ
 unfold qiBZ
 obtain⟨ap,x⟩:=x
 have cp:=x.hp
 simp -implicitDefEqProofs only[wpC] at cp
 simp -implicitDefEqProofs[ld_at cp,cel_of cp,stm_at cp,stm_upd,ld_same,cel_same,over]
 exact unlock_ok _ w gg y wg.s h8 hl (by omega) hk
theorem wtake_ok (w:Wf T h)(gg:Gd gh)(d1:Off (pre gh) g)(d2:Off (pre g) gh)(g2:Gd g)(x:WPR T h g q p)(y:HallR T h gh hp H)(ht:U64 H.t.seq)(hl:H.acts.length<1000000)(hk:∀ T' h',Only (two (pre g) (pre gh)) T h T' h'→WPR T' h' g q { p with t:=(H.take p.who).t }→HallR T' h' gh hp (H.take p.who)→K (.tuple #[]) h'):callM P qaAZ #[ptr q,ptr hp] h K:=by
 apply qtFZ
 unfold qkpZ
 obtain⟨ap,x⟩:=x
 have cp:=x.hp
 simp -implicitDefEqProofs only[wpC] at cp
 simp -implicitDefEqProofs[ld_at cp,cel_of cp,stm_at cp,stm_upd,ld_same,cel_same,over]
 refine htake_ok _ w gg y ht hl fun T1 h1 o1 y1=>?_
 have x1:=x.kp o1.k d1 gg.nil
 have cp:=x1.hp
 simp -implicitDefEqProofs only[wpC] at cp
 obtain⟨o2,x2⟩:=x1.st (p':={ p with t:=(H.take p.who).t }) o1.wf (c:=_) rfl rfl rfl rfl
 simp -implicitDefEqProofs[ld_at cp,cel_of cp,stm_at cp,stm_upd,ld_same,cel_same,over,tmC]
 refine hk T1 _ ((o1.mono fun _=>.inr).up o2 fun _ hh=>.inl (eq_pre hh)) ⟨ap,?_⟩ (y1.up o2 (fun t ht hh=>d2 t ht (eq_pre hh)) (by simp))
 exact x2
theorem wwrite_ok (w:Wf T h)(gg:Gd gh)(d1:Off (pre gh) g)(d2:Off (pre g) gh)(g2:Gd g)(x:WPR T h g q p)(y:HallR T h gh hp H)(wg:WG H.n p)(hb:p.k.isBad=false)(h8:H.n≤8)(hl:H.acts.length<1000000)(sg:StG (H.ss p.s))(hk:∀ T' h',Only (two (pre g) (pre gh)) T h T' h'→WPR T' h' g q { p with err:=(p.k.run H p.who p.s p.t).2 }→HallR T' h' gh hp (p.k.run H p.who p.s p.t).1→K (.tuple #[]) h'):callM P qaqZ #[ptr q,ptr hp] h K:=by
 apply qtfZ
 unfold qjtZ
 obtain⟨ap,x⟩:=x
 have cp:=x.hp
 simp -implicitDefEqProofs only[wpC] at cp
 have oa:ldV (some (some 3)) (.pointer (some ⟨q,4,none⟩)) h=some (.agg (tmC p.t).toArray):=by simp[ld_at cp,tmC]
 simp -implicitDefEqProofs[ld_at cp,cel_of cp,stm_at cp,stm_upd,ld_same,cel_same,over,oa]
 refine ap_ok hb wg.o p.t wg.t.1 w gg y wg.s h8 hl sg x.ap fun T1 h1 o1 y1=>?_
 have x1:=x.kp o1.k d1 gg.nil
 have cp:=x1.hp
 simp -implicitDefEqProofs only[wpC] at cp
 obtain⟨o2,x2⟩:=x1.st (p':={ p with err:=(p.k.run H p.who p.s p.t).2 }) o1.wf (c:=_) rfl rfl rfl rfl
 simp -implicitDefEqProofs[ld_at cp,cel_of cp,stm_at cp,stm_upd,ld_same,cel_same,over,repC]
 refine hk T1 _ ((o1.mono fun _=>.inr).up o2 fun _ hh=>.inl (eq_pre hh)) ⟨ap,?_⟩ (y1.up o2 (fun t ht hh=>d2 t ht (eq_pre hh)) (by simp))
 exact x2
end
variable {K:KTy}
theorem wact_ok {T:Tags}{h:Heap}{g gh:Tag}{q hp m:Nat}{p:WP}{H:Hall}(n:Int)(w:Wf T h)(gg:Gd gh)(d1:Off (pre gh) g)(d2:Off (pre g) gh)(g2:Gd g)(x:WPR T h g q p)(y:HallR T h gh hp H)(hs:HS m H)(hm:m<100000)(wg:WG H.n p)(hb:p.k.isBad=false)(h7:p.at_<7){f:Value}
  (hf:stepA[p.at_]?=some f) (hpl:p.at_=2→p.placed=n)
  (hk:∀ T' h',Only (two (pre g) (pre gh)) T h T' h'→WPR T' h' g q { (p.stp H n).1 with at_:=p.at_ }→HallR T' h' gh hp (p.stp H n).2→K (.tuple #[]) h'):nxM P (do let d ← Deferred.ofValue f #[ptr q,ptr hp]; invoke d.target d.args) h K:=by
 have st:=hs.st p.s wg.s
 have n8:=hs.n8.2
 have ac:H.acts.length<900000:=by have:=hs.ac; omega
 have up:∀ T' h',Only (pre gh) T h T' h'→Only (two (pre g) (pre gh)) T h T' h'∧WPR T' h' g q p:=fun T' h' o=>⟨o.mono fun _=>.inr,x.kp o.k d1 gg.nil⟩
 by_cases h0:p.at_=0
 ·rw[stp0 H n h0] at hk
  simp -implicitDefEqProofs only[h0] at hf hk
  cases hf
  refine nx_fn good (by kernel_rfl) ?_
  refine wlock_ok w gg x y wg n8 (by omega) fun T1 h1 o1 y1=>hk T1 h1 (up _ _ o1).1 ?_ y1
  have:=(up _ _ o1).2
  rw[← h0]; exact this
 by_cases h1:p.at_=1
 ·rw[stp1 H n h1] at hk
  simp -implicitDefEqProofs only[h1] at hf hk
  cases hf
  refine nx_fn good (by kernel_rfl) ?_
  refine wbegin_ok w gg x y wg n8 (by omega) st.wr.1 st.wr.2.1 fun T1 h2 o1 y1=>hk T1 h2 (up _ _ o1).1 ?_ y1
  have:=(up _ _ o1).2
  rw[← h1]; exact this
 by_cases h2:p.at_=2
 ·rw[stp2 H n h2] at hk
  simp -implicitDefEqProofs only[h2] at hf hk
  cases hf
  refine nx_fn good (by kernel_rfl) ?_
  refine wtake_ok w gg d1 d2 g2 x y hs.ts (by omega) fun T1 h3 o1 x1 y1=>hk T1 h3 o1 ?_ y1
  rw[← hpl h2,← h2]; exact x1
 by_cases h3:p.at_=3
 ·rw[stp3 H n h3] at hk
  simp -implicitDefEqProofs only[h3] at hf hk
  cases hf
  refine nx_fn good (by kernel_rfl) ?_
  refine wwrite_ok w gg d1 d2 g2 x y wg hb n8 (by omega) (stG_of st hm) fun T1 h4 o1 x1 y1=>hk T1 h4 o1 ?_ y1
  rw[← h3]; exact x1
 by_cases h4:p.at_=4
 ·rw[stp4 H n h4] at hk
  simp -implicitDefEqProofs only[h4] at hf hk
  cases hf
  refine nx_fn good (by kernel_rfl) ?_
  refine wpub_ok w gg x y wg n8 ac fun T1 h5 o1 y1=>hk T1 h5 (up _ _ o1).1 ?_ y1
  have:=(up _ _ o1).2
  rw[← h4]; exact this
 by_cases h5:p.at_=5
 ·rw[stp5 H n h5] at hk
  simp -implicitDefEqProofs only[h5] at hf hk
  cases hf
  refine nx_fn good (by kernel_rfl) ?_
  refine wend_ok w gg x y wg n8 (by omega) st.wr.1 st.wr.2.2 fun T1 h6 o1 y1=>hk T1 h6 (up _ _ o1).1 ?_ y1
  have:=(up _ _ o1).2
  rw[← h5]; exact this
 ·have h6:p.at_=6:=by omega
  rw[stp6 H n (by omega)] at hk
  simp -implicitDefEqProofs only[h6] at hf hk
  cases hf
  refine nx_fn good (by kernel_rfl) ?_
  refine wunlock_ok w gg x y wg n8 (by omega) st.wh fun T1 h7 o1 y1=>hk T1 h7 (up _ _ o1).1 ?_ y1
  have:=(up _ _ o1).2
  rw[← h6]; exact this
set_option maxHeartbeats 2000000 in
theorem wstep_ok {T:Tags}{h:Heap}{g gh:Tag}{q hp m:Nat}{p:WP}{H:Hall}(n:Int)(w:Wf T h)(gg:Gd gh)(d1:Off (pre gh) g)(d2:Off (pre g) gh)(g2:Gd g)(x:WPR T h g q p)(y:HallR T h gh hp H)(hs:HS m H)(hm:m<100000)(wg:WG H.n p)
  (hk:∀ T' h',Only (two (pre g) (pre gh)) T h T' h'→WPR T' h' g q (p.step H n).1→HallR T' h' gh hp (p.step H n).2→K (.tuple #[]) h'):callM P qbtZ #[ptr q,ptr hp,.int .i64 n] h K:=by
 apply qtvZ
 unfold qkfZ
 refine wenabled_ok w x y wg.s fun h1 e1=>?_
 have o1:Only non T h T h1:=Only.of_ext w e1
 obtain⟨ap,x⟩:=x.kp o1.k (Off.non _) (not_non _)
 have y:=y.up o1 (Off.non _) (not_non _)
 have cp:=x.hp
 simp -implicitDefEqProofs only[wpC] at cp
 unfold qnGZ
 cases he:p.enabled H with
 | false =>
  simp -implicitDefEqProofs
  have e:p.step H n=(p,H):=by simp[WP.step,he]
  rw[e] at hk
  exact hk T h1 (o1.mono non_up) ⟨ap,x⟩ y
 | true =>
  have h7:=enabled_at he
  simp -implicitDefEqProofs
  unfold qnFZ
  have hn:=x.ap.nil
  cases hb:p.k.isBad with
  | true =>
   rw[hb] at hn
   have e:p.step H n=({ p with err:=1,placed:=n,at_:=7 },H):=by simp[WP.step,he,hb]
   rw[e] at hk
   simp -implicitDefEqProofs[ld_at cp,cel_of cp,stm_at cp,stm_upd,ld_same,cel_same,over,hn]
   unfold qnAZ
   simp -implicitDefEqProofs[bdRepE]
   refine steps_ok fun b h2 n2 e2 c2=>?_
   unfold qnzZ
   have o2:Only non T h1 T h2:=Only.of_ext o1.wf e2
   have x:=x.kp o2.k (Off.non _) (not_non _)
   have y:=y.up o2 (Off.non _) (not_non _)
   have cp:=x.hp
   simp -implicitDefEqProofs only[wpC] at cp
   obtain⟨o3,x3⟩:=x.st (p':={ p with err:=1,placed:=n,at_:=7 }) o2.wf (c:=_) rfl rfl rfl rfl
   simp -implicitDefEqProofs[ld_at cp,cel_of cp,stm_at cp,stm_upd,ld_same,cel_same,over]
   refine hk T _ (((o1.mono non_up).up o2 non_up).up o3 fun _ hh=>.inl (eq_pre hh)) ⟨ap,?_⟩ (y.up o3 (fun t ht hh=>d2 t ht (eq_pre hh)) (by simp))
   exact x3
  | false =>
   rw[hb] at hn
   have e:p.step H n=p.stp H n:=by simp[WP.step,he,hb]
   rw[e] at hk
   simp -implicitDefEqProofs[ld_at cp,cel_of cp,stm_at cp,stm_upd,ld_same,cel_same,over,hn]
   unfold qnEZ
   rw[seqM_eq]
   -- the act,and going on
   have fin:∀ (p1:WP) (h3:Heap) (s:Env),Only (two (pre g) (pre gh)) T h T h3→WPR T h3 g q p1→HallR T h3 gh hp H→WG H.n p1→p1.stp H n=p.stp H n→p1.at_=p.at_→p1.k=p.k→(p1.at_=2→p1.placed=n)→s 0=ptr q→s 1=ptr hp→qiqZ s h3 K []:=by
    intro p1 h3 s o3 x3 y3 g3 est eat ek epl s0 s1
    obtain⟨ap3,x3'⟩:=x3
    have cp:=x3'.hp
    simp -implicitDefEqProofs only[wpC] at cp
    unfold qiqZ
    simp -implicitDefEqProofs[s0,s1,ld_at cp,cel_of cp,stm_at cp,stm_upd,ld_same,cel_same,over]
    refine steps_ok fun b h4 n4 e4 c4=>?_
    have o4:Only non T h3 T h4:=Only.of_ext o3.wf e4
    have x4:=x3'.kp o4.k (Off.non _) (not_non _)
    have y4:=y3.up o4 (Off.non _) (not_non _)
    have cp:=x4.hp
    simp -implicitDefEqProofs only[wpC] at cp
    unfold qmwZ
    have h17:p1.at_<7:=by omega
    obtain⟨f,hf⟩:∃ f,stepA[p1.at_]?=some f:=⟨_,Array.getElem?_eq_getElem (xs:=stepA) (i:=p1.at_) h17⟩
    have hia:iaV (some (none,1)) (.slice (some ⟨b,0,none⟩) 7 7) (.int .i64 p1.at_)=some (.pointer (some ⟨b,p1.at_,none⟩)):=by
     have:(0:Int)≤p1.at_∧(p1.at_:Int)<7:=by omega
     simp -implicitDefEqProofs[iaV,this]
    have hcl:cel h4 b p1.at_=some f:=by rw[cel_of c4]; exact hf
    simp -implicitDefEqProofs[ld_at cp,cel_of cp,stm_at cp,stm_upd,ld_same,cel_same,over,hia,hcl,s0,s1]
    refine wact_ok n o4.wf gg d1 d2 g2 ⟨ap3,x4⟩ y4 hs hm g3 (by rw[ek]; exact hb) h17 hf epl fun T5 h5 o5 x5 y5=>?_
    obtain⟨ap5,x5⟩:=x5
    have cp:=x5.hp
    simp -implicitDefEqProofs only[wpC] at cp
    unfold qmvZ
    have hw:IntKind.i64.wrap ((p1.at_:Int)+1)=(p1.at_+1:Nat):=by rw[wrap64_id (by omega) (by omega)]; omega
    have hat:=stp_at p1 H n h17
    obtain⟨o6,x6⟩:=x5.st (p':=(p1.stp H n).1) o5.wf (c:=_) rfl rfl rfl rfl
    have x6':=x6.hp
    simp -implicitDefEqProofs only[wpC,hat] at o6 x6'
    simp -implicitDefEqProofs[ld_at cp,cel_of cp,stm_at cp,stm_upd,ld_same,cel_same,over,hw,s0,s1,-Int.natCast_add]
    refine hk T5 _ (((o3.up o4 non_up).up o5 fun _ hh=>hh).up o6 fun _ hh=>.inl (eq_pre hh)) ⟨ap5,?_⟩ (by rw[← est]; exact y5.up o6 (fun t ht hh=>d2 t ht (eq_pre hh)) (by simp))
    rw[← est]
    simp -implicitDefEqProofs only[wpC,hat] at x6
    exact x6
   unfold qnDZ
   simp -implicitDefEqProofs[ld_at cp,cel_of cp,stm_at cp,stm_upd,ld_same,cel_same,over]
   refine⟨fun h2=>?_,fun h2=>?_⟩
   ·have h2:p.at_=2:=by omega
    unfold qnBZ
    obtain⟨o3,x3⟩:=x.st (p':={ p with placed:=n }) o1.wf (c:=_) rfl rfl rfl rfl
    simp -implicitDefEqProofs[ld_at cp,cel_of cp,stm_at cp,stm_upd,ld_same,cel_same,over]
    refine fin { p with placed:=n } _ _ ((o1.mono non_up).up o3 fun _ hh=>.inl (eq_pre hh)) ⟨ap,?_⟩ (y.up o3 (fun t ht hh=>d2 t ht (eq_pre hh)) (by simp)) ⟨wg.s,wg.w,wg.a,wg.t,wg.o⟩ ?_ rfl rfl (fun _=>rfl) ?_ ?_
    ·exact x3
    ·rw[stp2 H n h2,stp2 H n (by exact h2)]
    ·simp -implicitDefEqProofs
    ·simp -implicitDefEqProofs
   ·have h2:p.at_≠2:=by omega
    unfold qnCZ
    simp -implicitDefEqProofs
    refine fin p h1 _ (o1.mono non_up) ⟨ap,x⟩ y wg rfl rfl rfl (fun h=>absurd h h2) ?_ ?_<;>simp
end Go.Proofs.YtmbningljbcpkaaGreat
namespace Go.Den
open Go
set_option linter.unusedVariables false
set_option linter.unusedSimpArgs false
structure SwA (N k:Nat)(p:SwP)(H:Hall):Prop where
 hn:H.n=N
 n0:0<N
 at_:p.now.at_=k % 7
 st:p.stripe=k / 7 % N
 ro:p.rounds=k / 7 / N
 e:p.now.s=p.stripe
 kk:p.now.k = .sweep
 w:p.now.who=8
 lk:∀ s,s<N→(H.ss s).who=if k % 7≠0∧s=k / 7 % N then 9 else 0
theorem SwA.new {H:Hall}{N:Nat}(hn:H.n=N)(n0:0<N)(h:∀ s,s<N→(H.ss s).who=0):SwA N 0 SwP.new H :=
 ⟨hn,n0,rfl,by simp[SwP.new],by simp[SwP.new],rfl,rfl,rfl,fun s hs=>by simp[h s hs]⟩
theorem SwA.en {N k:Nat}{p:SwP}{H:Hall}(x:SwA N k p H):p.now.enabled H=true:=by
 have h1:=x.at_; have h2:=x.kk
 have hs:p.stripe<N:=by rw[x.st]; exact Nat.mod_lt _ x.n0
 have hlk:=x.lk p.stripe hs
 simp only[WP.enabled,WP.done,WP.waits,h1,h2,WK.isBad,x.e,hlk]
 have:¬ 7≤k % 7:=by omega
 by_cases h0:k % 7=0
 ·simp[h0]
 ·have:0<k % 7:=by omega
  simp[this]; omega
theorem put_who {H:Hall}{s t:Nat}{y:Strp}:((H.put s y).ss t).who=if t=s then y.who else (H.ss t).who:=by
 simp only[Hall.put,sput]; split<;>rfl
theorem succ_div7 {k:Nat}(h:k % 7≠6):(k+1) / 7=k / 7∧(k+1) % 7=k % 7+1:=by omega
theorem succ_div7' {k:Nat}(h:k % 7=6):(k+1) / 7=k / 7+1∧(k+1) % 7=0:=by omega
theorem stp_who (p:WP)(H:Hall)(n:Int)(hk:p.k = .sweep)(s:Nat):((p.stp H n).2.ss s).who =
  if s=p.s then (if p.at_=0 then (if canTake (H.ss s).who p.who then p.who+1 else (H.ss s).who) else if 6≤p.at_ then (if canGive (H.ss s).who p.who then 0 else (H.ss s).who) else (H.ss s).who) else (H.ss s).who:=by
 by_cases h0:p.at_=0
 ·rw[stp0 H n h0,h0]
  simp only[if_true,Hall.lock]
  by_cases hs:s=p.s
  ·subst hs
   by_cases hc:canTake (H.ss p.s).who p.who=true
   ·simp[hc,put_who]
   ·simp[hc]
  ·rw[if_neg hs]
   split
   ·rw[put_who,if_neg hs]; rfl
   ·rfl
 by_cases h1:p.at_=1
 ·rw[stp1 H n h1,h1]
  simp only[Hall.begin,put_who]
  by_cases hs:s=p.s
  ·subst hs; simp
  ·simp[hs,Hall.did]
 by_cases h2:p.at_=2
 ·rw[stp2 H n h2,h2]; simp[Hall.take,Hall.did]
 by_cases h3:p.at_=3
 ·rw[stp3 H n h3,h3]
  simp only[hk,WK.run,Hall.sweep,put_who]
  by_cases hs:s=p.s
  ·subst hs; simp
  ·simp[hs,Hall.wr,Hall.did]
 by_cases h4:p.at_=4
 ·rw[stp4 H n h4,h4]
  simp only[Hall.pub,put_who]
  by_cases hs:s=p.s
  ·subst hs; simp
  ·simp[hs,Hall.did]
 by_cases h5:p.at_=5
 ·rw[stp5 H n h5,h5]
  simp only[Hall.end_,put_who]
  by_cases hs:s=p.s
  ·subst hs; simp
  ·simp[hs,Hall.did]
 ·have h6:6≤p.at_:=by omega
  rw[stp6 H n h6]
  simp only[h0,if_false,h6,if_true,Hall.unlock]
  by_cases hs:s=p.s
  ·subst hs
   by_cases hc:canGive (H.ss p.s).who p.who=true
   ·simp[hc,put_who]
   ·simp[hc]
  ·rw[if_neg hs]
   split
   ·rw[put_who,if_neg hs]; rfl
   ·rfl
theorem stp_t (p:WP)(H:Hall)(n:Int)(hk:p.k = .sweep):(p.stp H n).2.t=if p.at_=2 then { H.t with seq:=addU H.t.seq 1 } else H.t:=by
 unfold WP.stp
 have hl:(H.lock p.who p.s).t=H.t:=by unfold Hall.lock; split<;>rfl
 have hu:(H.unlock p.who p.s).t=H.t:=by unfold Hall.unlock; split<;>rfl
 split
 ·rename_i h; simp[h,hl]
 split
 ·rename_i h; simp[h]; rfl
 split
 ·rename_i h; simp[h]; rfl
 split
 ·rename_i h; simp[h,hk,WK.run]; rfl
 split
 ·rename_i h; simp[h]; rfl
 split
 ·rename_i h; simp[h]; rfl
 ·rename_i h _ _ _; simp[h,hu]
theorem SwA.step {N k:Nat}{p:SwP}{H:Hall}(x:SwA N k p H)(n:Int) :
  SwA N (k+1) (p.step H n).1 (p.step H n).2.1∧(p.step H n).2.2=decide (k % 7=6)∧(p.step H n).2.1.t=if k % 7=2 then { H.t with seq:=addU H.t.seq 1 } else H.t:=by
 have hen:=x.en
 have hat:=x.at_
 have hl7:p.now.at_<7:=by omega
 have hst:p.now.step H n=p.now.stp H n:=by simp[WP.step,hen,x.kk,WK.isBad]
 obtain⟨k1,k2,k3⟩:=stp_k p.now H n
 obtain⟨n1,n2⟩:=stp_n p.now H n
 have a1:=stp_at p.now H n hl7
 have tt:=stp_t p.now H n x.kk
 have ww:=stp_who p.now H n x.kk
 have hdone:(p.now.stp H n).1.done=decide (k % 7=6):=by
  rw[WP.done,a1,hat]; exact decide_eq_decide.2 (by omega)
 have hs:p.stripe<N:=by rw[x.st]; exact Nat.mod_lt _ x.n0
 unfold SwP.step
 simp only[hst,hdone]
 have hN:=x.n0
 by_cases h6:k % 7=6
 ·obtain⟨d1,d2⟩:=succ_div7' h6
  have tl:∀ s,s<N→((p.now.stp H n).2.ss s).who=0:=fun s hs'=>by
   rw[ww s,x.e,hat,h6,x.w,x.lk s hs',h6,x.st]
   by_cases hss:s=k / 7 % N
   ·simp[hss,canGive]
   ·simp[hss]
  have tt':(p.now.stp H n).2.t=H.t:=by rw[tt,hat,h6]; simp
  rw[h6]
  simp only[decide_true,if_true,d2]
  refine⟨?_,by simp[h6],by rw[tt']; simp⟩
  unfold SwP.nxt
  have hst':=x.st
  have hro:=x.ro
  have hdm:=Nat.div_add_mod (k / 7) N
  split
  ·rename_i hl
   have hl':k / 7 % N+1=N:=by rw[← hst',← x.hn]; exact hl
   have hq:k / 7+1=N*(k / 7 / N+1):=by rw[Nat.mul_add]; omega
   refine⟨n1.trans x.hn,hN,by rw[d2]; rfl,?_,?_,rfl,rfl,rfl,fun s hs=>by rw[d2]; simp[tl s hs]⟩
   ·show 0=_; rw[d1,hq]; simp
   ·show p.rounds+1=_; rw[d1,hq,Nat.mul_div_cancel_left _ hN,hro]
  ·rename_i hl
   have hl':k / 7 % N+1<N:=by have:=Nat.mod_lt (k / 7) hN; have:¬ (p.stripe+1=N):=fun h=>hl (h.trans x.hn.symm); omega
   have hq:k / 7+1=N*(k / 7 / N)+(k / 7 % N+1):=by omega
   refine⟨n1.trans x.hn,hN,by rw[d2]; rfl,?_,?_,rfl,rfl,rfl,fun s hs=>by rw[d2]; simp[tl s hs]⟩
   ·show p.stripe+1=_; rw[d1,hq,Nat.mul_add_mod,Nat.mod_eq_of_lt hl',hst']
   ·show p.rounds=_; rw[d1,hq,Nat.mul_add_div hN,Nat.div_eq_of_lt hl',hro,Nat.add_zero]
 ·obtain⟨d1,d2⟩:=succ_div7 h6
  simp only[h6,decide_false,Bool.false_eq_true,if_false]
  refine⟨⟨n1.trans x.hn,hN,by show (p.now.stp H n).1.at_=_; rw[a1,hat,d2],by rw[d1]; exact x.st,by rw[d1]; exact x.ro,k3.trans x.e,k1.trans x.kk,k2.trans x.w,fun s hs'=>?_⟩,trivial,by rw[tt,hat]⟩
  show ((p.now.stp H n).2.ss s).who=_
  have h6':¬ 6≤k % 7:=by omega
  rw[ww s,x.e,hat,x.w,x.lk s hs',x.st,d1,d2]
  by_cases hss:s=k / 7 % N
  ·by_cases h0:k % 7=0
   ·simp[hss,h0,canTake]
   ·simp[hss,h0,h6']
  ·simp[hss]
theorem SwA.ro_le {N k:Nat}{p:SwP}{H:Hall}(x:SwA N k p H):p.rounds≤k:=by
 rw[x.ro]; exact Nat.le_trans (Nat.div_le_self _ _) (Nat.div_le_self _ _)
end Go.Den
namespace Go.Den
open Go
set_option linter.unusedVariables false
set_option linter.unusedSimpArgs false
deriving instance DecidableEq for Ent
deriving instance DecidableEq for Evt
end Go.Den
namespace Go.Den
open Go
set_option linter.unusedVariables false
set_option linter.unusedSimpArgs false
def evt0:Evt:=⟨⟨#[]⟩,⟨0,0,0⟩,⟨0,0,0⟩,0⟩
def hdE (l:List Evt):Evt:=l.headD evt0
def nth (r:List (List Evt))(i:Nat):List Evt:=r.getD i []
def bestE (r:List (List Evt)):Nat→Option Nat
 | 0=>none
 | k+1=>match bestE r k with
  | none=>if nth r k=[] then none else some k
  | some b=>if nth r k≠[]∧(hdE (nth r k)).seq<(hdE (nth r b)).seq then some k else some b
def mergeF:Nat→List (List Evt)→List Evt
 | 0,_=>[]
 | f+1,r=>match bestE r r.length with
  | none=>[]
  | some b=>hdE (nth r b)::mergeF f (r.set b (nth r b).tail)
def totE (r:List (List Evt)):Nat:=(r.map (·.length)).sum
def mergeE (r:List (List Evt)):List Evt:=mergeF (totE r) r
structure Tbl where
 c:Cfg
 t:Tm
 n:Nat
 bk:Nat→Book
 fd:Nat→Feed
def bset {α:Type}(f:Nat→α)(i:Nat)(x:α):Nat→α:=fun k=>if k=i then x else f k
def Tbl.stored (M:Tbl):Nat:=((List.range M.n).map fun s=>storedB (M.bk s)).sum
def Hall.tbl (H:Hall):Tbl:=⟨H.c,H.t,H.n,fun s=>(H.ss s).book,fun s=>(H.ss s).feed⟩
def Hall.stored (H:Hall):Nat:=H.tbl.stored
theorem stripeOf_lt {u:ByteArray}{n:Int}(h:1≤n):0≤stripeOf u n∧stripeOf u n<n:=by
 have:=fnv_rng u
 unfold stripeOf
 rw[if_neg (by omega)]
 exact⟨Int.emod_nonneg _ (by omega),Int.emod_lt_of_pos _ (by omega)⟩
end Go.Den
namespace Go.Den
open Go
set_option linter.unusedVariables false
set_option linter.unusedSimpArgs false
def Lv (b:Book)(now:Int):Prop:=∀ x∈b,∀ s∈x.2.ss,now<s.un
end Go.Den
namespace Go.Den
open Go
set_option linter.unusedVariables false
set_option linter.unusedSimpArgs false
abbrev Mine:=List ByteArray
def miset (m:Mine)(u:ByteArray)(on:Bool):Mine:=(m.filter fun k=>!decide (k=u))++if on then [u] else []
def mhas (m:Mine)(u:ByteArray):Bool:=m.any fun k=>decide (k=u)
structure HP where
 who:Int
 x:OpD
 k:Nat
 s:Nat
 at_:Nat
 t:Tm
 placed:Int
 rep:Reply
 all:List (List Evt)
def HP.one (p:HP):Bool:=badB p.x || decide (p.x.kind=9)
def HP.steps (p:HP):Nat:=if p.one then 1 else if p.x.kind=8 then 3*p.k+1 else 4
def HP.done (p:HP):Bool:=decide (p.steps≤p.at_)
def HP.needs (p:HP):Int:=if p.one then -1 else if p.x.kind=8 then (if p.at_<p.k then p.at_ else -1) else if p.at_=0 then p.s else -1
def HP.enabled (p:HP)(H:Hall):Bool:=!p.done && (decide (p.needs<0) || decide ((H.ss p.needs.toNat).who=0))
def HP.stpP (p:HP)(H:Hall)(n:Int):HP × Hall :=
 if p.at_<p.k then ({ p with at_:=p.at_+1 },H.lock p.who p.at_)
 else if p.at_=p.k then ({ p with at_:=p.at_+1,t:=H.t,placed:=n },H.look p.who)
 else if p.at_≤2*p.k then
  ({ p with at_:=p.at_+1,all:=p.all++[(H.ss (p.at_-p.k-1)).feed.told p.who],rep:={ p.rep with lost:=p.rep.lost || (H.ss (p.at_-p.k-1)).feed.lost p.who } },H.drain p.who (p.at_-p.k-1))
 else ({ p with at_:=p.at_+1,rep:={ p.rep with evs:=mergeE p.all } },H.unlock p.who (p.at_-2*p.k-1))
def HP.stpW (p : HP) (m : Mine) (H : Hall) (n : Int) : HP × Mine × Hall :=
  if p.at_ = 0 then ({ p with at_ := 1 }, m, H.lock p.who p.s)
  else if p.at_ = 1 then ({ p with at_ := 2, t := H.t, placed := n }, m, H.look p.who)
  else if p.at_ = 2 then
    (if p.t.closed then ({ p with at_ := 3, rep := { p.rep with err := 5 } }, m, H)
     else if p.x.kind = 6 ∧ mhas m p.x.user = false ∧ H.c.watches ≤ m.length then ({ p with at_ := 3, rep := { p.rep with err := 4 } }, m, H)
     else ({ p with at_ := 3 }, miset m p.x.user (decide (p.x.kind = 6)), H.watch p.who p.s p.x.user (decide (p.x.kind = 6))))
  else ({ p with at_ := p.at_ + 1 }, m, H.unlock p.who p.s)
def HP.stp (p:HP)(m:Mine)(H:Hall)(n:Int):HP × Mine × Hall :=
 if badB p.x then ({ p with at_:=1,placed:=n,rep:={ p.rep with err:=1 } },m,H)
 else if p.x.kind=9 then ({ p with at_:=1,placed:=n,rep:=if H.t.closed then { p.rep with err:=5 } else p.rep },m,H.shut p.who)
 else if p.x.kind=8 then ((p.stpP H n).1,m,(p.stpP H n).2)
 else p.stpW m H n
def HP.step (p:HP)(m:Mine)(H:Hall)(n:Int):HP × Mine × Hall:=if p.enabled H=true then p.stp m H n else (p,m,H)
end Go.Den
namespace Go.Den
open Go
set_option linter.unusedVariables false
set_option linter.unusedSimpArgs false
inductive PR where
 | w (p:WP)
 | r (p:RP)
 | h (p:HP)
def PR.step:PR→Mine→Hall→Int→PR × Mine × Hall
 | .w p,m,H,n=>(.w (p.step H n).1,m,(p.step H n).2)
 | .r p,m,H,n=>(.r (p.step H n).1,m,(p.step H n).2)
 | .h p,m,H,n=>(.h (p.step m H n).1,(p.step m H n).2.1,(p.step m H n).2.2)
structure Wd where
 H:Hall
 ps:Nat→Option PR
 ms:Nat→Mine
def Wd.step (W:Wd)(i:Nat)(n:Int):Wd:=match W.ps i with
 | some p=>⟨(p.step (W.ms i) W.H n).2.2,bset W.ps i (some (p.step (W.ms i) W.H n).1),bset W.ms i (p.step (W.ms i) W.H n).2.1⟩
 | none=>W
end Go.Den
namespace Go.Den
open Go
set_option linter.unusedVariables false
set_option linter.unusedSimpArgs false
theorem bset_same {α:Type}(f:Nat→α)(i:Nat)(x:α):bset f i x i=x:=by simp[bset]
theorem bset_ne {α:Type}{f:Nat→α}{i j:Nat}{x:α}(h:j≠i):bset f i x j=f j:=by simp[bset,h]
end Go.Den
namespace Go.Proofs.YtmbningljbcpkaaGreat
open Go Go.Den Go.MapKept
set_option linter.unusedSimpArgs false
set_option linter.unusedVariables false
set_option maxRecDepth 20000
@[simp] theorem cells_nilF:Value.cells .nilFunc=#[.nilFunc]:=rfl
theorem bdWP (who s:Int)(f:FuncId)(a b:Array Value):bdV (binf P qbQZ) [(0,.int .i64 who),(1,.int .i64 s),(2,.func (.func f) a b),(5,.int .i64 (-1))]=some (.agg #[.int .i64 who,.int .i64 s,.func (.func f) a b,.int .i64 0,.int .u64 0,.int .u64 0,.bool false,.int .i64 (-1),.int .i64 0,.slice none 0 0,.slice none 0 0,.bool false]):=by kernel_rfl
variable {K:KTy}
theorem section_ok (who:Int)(s:Nat)(k:WK)(f:FuncId)(a b:Array Value){h:Heap}(hk:∀ q h',h q=none→Ext h h'→h' q=some (.cells (wpC (sect who s k) (.func (.func f) a b)).toArray qbQZ (0,0))→K (ptr q) h'):callM P qhdZ #[.int .i64 who,.int .i64 s,.func (.func f) a b] h K:=by
 apply quaZ
 unfold qmMZ
 simp -implicitDefEqProofs only[bdWP,ov_s]
 exact nw_intro fun q h' n e c=>hk q h' n e c
def wp0 (H:Hall)(who:Int)(x:OpD):WP:=sect who (stripeOf x.user H.c.stripes).toNat (if badB x then .bad else .op x)
theorem wnew_ok (who:Int)(x:OpD)(xw:OpW x){T:Tags}{h:Heap}{g gh:Tag}{hp:Nat}{H:Hall}(w:Wf T h)(gg:Gd g)(y:HallR T h gh hp H){v:Value}(hv:Sl 1 StrR (fz T h) v x.users)(hl:x.users.length<1000000)(c8:1≤H.c.stripes∧H.c.stripes≤8)
  (hk:∀ T' h' q,Only non T h T' h'→h q=none→WPR T' h' g q (wp0 H who x)→K (ptr q) h'):callM P qmiZ #[ptr hp,.int .i64 who,.agg (opC x v).toArray] h K:=by
 apply quCZ
 unfold qqIZ
 have hone:=hv.one
 refine nw_intro fun v1 h1 n1 e1 c1=>?_
 refine nw_agg fun v3 h3 n3 e3 c3=>?_
 have o1:Only non T h T h3:=Only.of_ext w (e1.trans e3)
 have c1:=e3 _ _ c1
 have c3':=c3
 simp -implicitDefEqProofs only[opC] at c3
 simp -implicitDefEqProofs[ld_at c3,cel_of c3,stm_at c3,stm_upd,ld_same,cel_same,over]
 refine hstripe_ok x.user xw.s1 (y.up o1 (Off.non _) (not_non _)) c8.2 ?_
 unfold qsbZ
 rw[zcInt]
 refine nw_st rfl rfl (by simp) fun v9 h9 n9 e9 c9=>?_
 have c1:=e9 _ _ c1
 have c3:=e9 _ _ c3
 have c3':=e9 _ _ c3'
 obtain⟨s,hs⟩:∃ s,(stripeOf x.user H.c.stripes).toNat=s:=⟨_,rfl⟩
 have hsi:stripeOf x.user H.c.stripes=(s:Int):=by have:=stripeOf_lt (u:=x.user) (n:=H.c.stripes) c8.1; omega
 rw[hsi] at c9
 simp -implicitDefEqProofs only[cells_i] at c1 c9
 simp -implicitDefEqProofs[ld_at c1,cel_of c1,stm_at c1,ld_at c9,cel_of c9,stm_at c9,stm_upd,ld_same,cel_same,over,hsi]
 refine section_ok who s (.op x) qePZ _ _ fun q h4 n4 e4 c4=>?_
 have c1:=e4 _ _ c1
 have c3:=e4 _ _ c3
 have c3':=e4 _ _ c3'
 have c9':=e4 _ _ c9
 have e04:=((e1.trans e3).trans e9).trans e4
 have nq:h q=none:=fresh_of ((e1.trans e3).trans e9) n4
 have oa:ldV (some (some 7)) (ptr v3) h4=some (.agg (opC x v).toArray):=by simp[ld_at c3',opC]
 have ne1:v1≠q:=ne_fresh (e9 _ _ (e3 _ _ ‹_›)) n4
 have ne3:v3≠q:=ne_fresh (e9 _ _ ‹_›) n4
 have ne9:v9≠q:=ne_fresh c9 n4
 unfold qsaZ
 rw[seqM_eq]
 unfold qrZZ
 simp -implicitDefEqProofs only[oa,ov_s]
 refine modBad_ok x xw (hv.ext (@StrR.ext) ((fz_ext T h).trans e04)) hl fun h5 e5=>?_
 unfold qrYZ
 have c4:=e5 _ _ c4
 have cb1:=e5 _ _ c1
 have cb3:=e5 _ _ c3'
 have cb9:=e5 _ _ c9'
 have e05:=e04.trans e5
 have on:Only non T h (tset T q (g++[0])) h5:=Only.enew _ w e05 nq c4
 have hz:∀ b,b≠q→h b=none→∀ o,h5 b=some o→fz (tset T q (g++[0])) h5 b=some o:=fun b hb hn o ho=>fz_at ho (by rw[tset_ne hb]; exact w b hn)
 have n3':h v3=none:=fresh_of e1 n3
 have n9':h v9=none:=fresh_of (e1.trans e3) n9
 unfold wp0 at hk
 rw[hs] at hk
 cases hb:badB x with
 | false =>
  rw[hb] at hk
  simp -implicitDefEqProofs only[Bool.false_eq_true,if_false] at hk
  unfold qrXZ
  simp -implicitDefEqProofs
  exact hk _ h5 q on nq ⟨_,c4,tset_same _ _ _,v1,v9,v3,v,rfl,hz _ ne1 n1 _ cb1,hz _ ne9 n9' _ cb9,hz _ ne3 n3' _ cb3,hone⟩
 | true =>
  rw[hb] at hk
  simp -implicitDefEqProofs only[if_true] at hk
  unfold qrWZ
  simp -implicitDefEqProofs only[wpC,sect] at c4
  simp -implicitDefEqProofs[ld_at c4,cel_of c4,stm_at c4,stm_upd,ld_same,cel_same,over]
  rw[stm_at (n:=1) (v:=.nilFunc) c4 rfl (by simp) rfl]
  refine hk _ _ q (on.own nq c4) nq ⟨.nilFunc,?_,tset_same _ _ _,rfl⟩
  rw[upd_same']; simp[wpC,sect,over]
end Go.Proofs.YtmbningljbcpkaaGreat
namespace Go.Proofs.YtmbningljbcpkaaGreat
open Go Go.Den Go.MapKept
set_option linter.unusedSimpArgs false
set_option linter.unusedVariables false
set_option maxRecDepth 20000
def swC (st ro:Nat)(v:Value):List Value:=[.int .i64 st,.int .i64 ro,v]
structure SwX (T:Tags)(h:Heap)(g:Tag)(q:Nat)(p:SwP)(np:Nat):Prop where
 hp:h q=some (.cells (swC p.stripe p.rounds (ptr np)).toArray qaIZ (0,0))
 tp:T q=g++[0]
 nw:WPR T h (g++[1]) np p.now
def SwR (T:Tags)(h:Heap)(g:Tag)(q:Nat)(p:SwP):Prop:=∃ np,SwX T h g q p np
theorem SwX.kp {U:Tag→Prop}{T T':Tags}{h h':Heap}{g:Tag}{q:Nat}{p:SwP}{np:Nat}(x:SwX T h g q p np)(k:Kp U T h T' h')(o:Off U g)(n:¬ U []):SwX T' h' g q p np :=
 ⟨(k.at x.hp x.tp (o.at _)).1,(k.at x.hp x.tp (o.at _)).2,x.nw.kp k (o.app _) n⟩
theorem SwR.kp {U:Tag→Prop}{T T':Tags}{h h':Heap}{g:Tag}{q:Nat}{p:SwP}(x:SwR T h g q p)(k:Kp U T h T' h')(o:Off U g)(n:¬ U []):SwR T' h' g q p:=by
 obtain⟨np,x⟩:=x
 exact⟨np,x.kp k o n⟩
section
variable {T:Tags}{h:Heap}{g gh:Tag}{q hp:Nat}{p:SwP}{H:Hall}{K:KTy}
theorem sbegin_ok {st ro:Nat}{v0:Value}(o0:One v0)(w:Wf T h)(gg:Gd g)(hq:h q=some (.cells (swC st ro v0).toArray qaIZ (0,0)))(tq:T q=g++[0])
  (hk:∀ T' h',Only (fun t=>t=g++[0]) T h T' h'→SwR T' h' g q ⟨st,ro,sect 8 st .sweep⟩→K (.tuple #[]) h'):callM P qclZ #[ptr q] h K:=by
 apply qsYZ
 unfold qjnZ
 have cp:=hq
 simp -implicitDefEqProofs only[swC] at cp
 simp -implicitDefEqProofs[ld_at cp,cel_of cp,stm_at cp,stm_upd,ld_same,cel_same,over,zcInt]
 refine nw_st rfl rfl (by simp) fun v4 h1 n1 e1 c1=>?_
 simp -implicitDefEqProofs only[cells_i] at c1
 have cp:=e1 _ _ cp
 simp -implicitDefEqProofs[ld_at c1,cel_of c1,stm_at c1,stm_upd,ld_same,cel_same,over]
 refine section_ok 8 st .sweep qbdZ _ _ fun np h2 n2 e2 c2=>?_
 have cp:=e2 _ _ cp
 have cb:=e2 _ _ c1
 have e02:=e1.trans e2
 have nn:h np=none:=fresh_of e1 n2
 have o1:Only (fun t=>t=g++[0]) T h (tset T np (g++[1]++[0])) h2:=Only.enew _ w e02 nn c2
 have ne:q≠np:=ne_fresh hq nn
 have ne4:v4≠np:=ne_fresh c1 n2
 have tq2:(tset T np (g++[1]++[0])) q=g++[0]:=by rw[tset_ne ne]; exact tq
 have x2:WPR (tset T np (g++[1]++[0])) h2 (g++[1]) np (sect 8 st .sweep):=⟨_,c2,tset_same _ _ _,v4,rfl,fz_at cb (by rw[tset_ne ne4]; exact w v4 n1),rfl⟩
 have o2:=Only.upd (U:=fun t=>t=g++[0]) (o':=.cells #[.int .i64 st,.int .i64 ro,ptr np] qaIZ (0,0)) o1.wf cp tq2
 simp -implicitDefEqProofs[ld_at cp,cel_of cp,stm_at cp,stm_upd,ld_same,cel_same,over]
 refine hk _ _ (o1.up o2 fun _ hh=>hh) ⟨np,by rw[upd_same']; rfl,tq2,x2.kp o2.k (off_eq (by simp)) (by simp)⟩
theorem bdSw:bdV (binf P qaIZ) []=some (.agg #[.int .i64 0,.int .i64 0,.pointer none]):=by kernel_rfl
theorem snew_ok (w:Wf T h)(gg:Gd g)(hk:∀ T' h' q,Only (pre g) T h T' h'→SwR T' h' g q SwP.new→K (ptr q) h'):callM P qmjZ #[ptr hp] h K:=by
 apply quDZ
 unfold qqJZ
 simp -implicitDefEqProofs only[bdSw,ov_s]
 refine nw_intro fun v2 h1 n1 e1 c1=>?_
 have o1:Only (pre g) T h (tset T v2 (g++[0])) h1:=Only.enew _ w e1 n1 c1
 refine sbegin_ok (st:=0) (ro:=0) (v0:=.pointer none) ⟨rfl,rfl⟩ o1.wf gg c1 (tset_same _ _ _) fun T2 h2 o2 x2=>?_
 exact hk T2 h2 v2 (o1.up o2 fun t=>eq_pre) x2
theorem sstripe_ok (x:SwR T h g q p)(hk:K (.int .i64 p.stripe) h):callM P qdSZ #[ptr q] h K:=by
 apply qsrZ
 unfold qisZ
 obtain⟨np,x⟩:=x
 have cp:=x.hp
 simp -implicitDefEqProofs only[swC] at cp
 simp -implicitDefEqProofs[ld_at cp,cel_of cp,stm_at cp,stm_upd,ld_same,cel_same,over]; exact hk
theorem srounds_ok (x:SwR T h g q p)(hk:K (.int .i64 p.rounds) h):callM P qdTZ #[ptr q] h K:=by
 apply qssZ
 unfold qitZ
 obtain⟨np,x⟩:=x
 have cp:=x.hp
 simp -implicitDefEqProofs only[swC] at cp
 simp -implicitDefEqProofs[ld_at cp,cel_of cp,stm_at cp,stm_upd,ld_same,cel_same,over]; exact hk
theorem splaced_ok (x:SwR T h g q p)(hk:K (.int .i64 p.now.placed) h):callM P qhbZ #[ptr q] h K:=by
 apply qstZ
 unfold qiuZ
 obtain⟨np,x⟩:=x
 have cp:=x.hp
 simp -implicitDefEqProofs only[swC] at cp
 simp -implicitDefEqProofs[ld_at cp,cel_of cp,stm_at cp,stm_upd,ld_same,cel_same,over]
 exact wplaced_ok x.nw hk
theorem senabled_ok (w:Wf T h)(x:SwR T h g q p)(y:HallR T h gh hp H)(hs:p.now.s<H.n)(hk:∀ h',Ext h h'→K (.bool (p.now.enabled H)) h'):callM P qflZ #[ptr q,ptr hp] h K:=by
 apply qrJZ
 unfold qhpZ
 obtain⟨np,x⟩:=x
 have cp:=x.hp
 simp -implicitDefEqProofs only[swC] at cp
 simp -implicitDefEqProofs[ld_at cp,cel_of cp,stm_at cp,stm_upd,ld_same,cel_same,over]
 exact wenabled_ok w x.nw y hs hk
end
variable {K:KTy}
set_option maxHeartbeats 1000000 in
theorem sstep_ok {T:Tags}{h:Heap}{g gh:Tag}{q hp m:Nat}{p:SwP}{H:Hall}(n:Int)(w:Wf T h)(gg:Gd gh)(d1:Off (pre gh) g)(d2:Off (pre g) gh)(g2:Gd g)(x:SwR T h g q p)(y:HallR T h gh hp H)(hs:HS m H)(hm:m<100000)(sg:SwG H.n p)
  (hk:∀ T' h',Only (two (pre g) (pre gh)) T h T' h'→SwR T' h' g q (p.step H n).1→HallR T' h' gh hp (p.step H n).2.1→K (.bool (p.step H n).2.2) h'):callM P qcQZ #[ptr q,ptr hp,.int .i64 n] h K:=by
 apply qtxZ
 unfold qkhZ
 obtain⟨np,x⟩:=x
 have cp:=x.hp
 simp -implicitDefEqProofs only[swC] at cp
 simp -implicitDefEqProofs[ld_at cp,cel_of cp,stm_at cp,stm_upd,ld_same,cel_same,over]
 refine wstep_ok n w gg (d1.app _) (fun t ht=>d2 t (by exact ht) ∘ pre_trans) (g2.app _) x.nw y hs hm sg.g fun T1 h1 o1 x1 y1=>?_
 have n1:¬ two (pre (g++[1])) (pre gh) (g++[0]):=by
  rintro (hh | hh)
  ·exact not_pre (by simp) hh
  ·exact d1.at [0] hh
 have b1:=o1.k.at x.hp x.tp n1
 have c1:=b1.1
 simp -implicitDefEqProofs only[swC] at c1
 have oo:Only (two (pre g) (pre gh)) T h T1 h1:=o1.mono fun t hh=>hh.elim (fun a=>.inl (pre_trans a)) .inr
 unfold qnNZ
 simp -implicitDefEqProofs[ld_at c1,cel_of c1,stm_at c1,stm_upd,ld_same,cel_same,over]
 refine wdone_ok x1 fun h2 e2=>?_
 have o2:Only non T1 h1 T1 h2:=Only.of_ext o1.wf e2
 have y2:=y1.up o2 (Off.non _) (not_non _)
 have x2:=x1.kp o2.k (Off.non _) (not_non _)
 have c2:=e2 _ _ c1
 have oo2:=oo.up o2 non_up
 obtain⟨r,hr⟩:∃ r,p.now.step H n=r:=⟨_,rfl⟩
 have hn:=wstep_n p.now H n
 rw[hr] at x2 y2 hn ⊢
 have e:p.step H n=if r.1.done then ({ p with now:=r.1 }.nxt H.n,r.2,true) else ({ p with now:=r.1 },r.2,false):=by simp only[SwP.step,hr]
 rw[e] at hk
 unfold qnMZ
 cases hd:r.1.done with
 | false =>
  rw[hd] at hk
  simp -implicitDefEqProofs
  exact hk T1 h2 oo2 ⟨np,c2,b1.2,x2⟩ y2
 | true =>
  rw[hd] at hk
  simp -implicitDefEqProofs only[if_true] at hk
  have h8:=hs.n8
  have hst:=sg.s
  have hro:=sg.r
  have hw:IntKind.i64.wrap ((p.stripe:Int)+1)=(p.stripe+1:Nat):=by rw[wrap64_id (by omega) (by omega)]; omega
  have hwr:IntKind.i64.wrap ((p.rounds:Int)+1)=(p.rounds+1:Nat):=by rw[wrap64_id (by omega) (by omega)]; omega
  have tq:T1 q=g++[0]:=b1.2
  have offg:∀ t,t=g++[0]→two (pre g) (pre gh) t:=fun t hh=>.inl (eq_pre hh)
  have dg:Off (fun t=>t=g++[0]) gh:=fun t ht hh=>d2 t ht (eq_pre hh)
  unfold qnLZ
  simp -implicitDefEqProofs
  rw[seqM_eq]
  unfold qnKZ
  have o3:=Only.upd (U:=fun t=>t=g++[0]) (o':=.cells #[.int .i64 (p.stripe+1:Nat),.int .i64 p.rounds,ptr np] qaIZ (0,0)) o2.wf c2 tq
  have c3:=upd_same' h2 q (.cells #[.int .i64 (p.stripe+1:Nat),.int .i64 p.rounds,ptr np] qaIZ (0,0))
  simp -implicitDefEqProofs[ld_at c2,cel_of c2,stm_at c2,stm_upd,ld_same,cel_same,over,hw,-Int.natCast_add]
  generalize upd h2 q _=h3 at *
  have y3:=y2.up o3 dg (by simp)
  refine config_ok y3 fun h4 e4=>?_
  have o4:Only non T1 h3 T1 h4:=Only.of_ext o3.wf e4
  have y4:=y3.up o4 (Off.non _) (not_non _)
  have c4:=e4 _ _ c3
  have oo4:=(oo2.up o3 offg).up o4 non_up
  unfold qnJZ
  have hcs:(r.2.c).stripes=(H.n:Int):=by rw[hn.2]; exact hs.nn.symm
  have hfd:fdV (some (none,0)) (.agg (cfgC r.2.c).toArray)=some (.int .i64 H.n):=by simp[fdV,cfgC,hcs]
  -- the end
  have fin:∀ (st ro:Nat) (h5:Heap),Only (two (pre g) (pre gh)) T h T1 h5→h5 q=some (.cells (swC st ro (ptr np)).toArray qaIZ (0,0))→HallR T1 h5 gh hp r.2→({ p with now:=r.1 }:SwP).nxt H.n=⟨st,ro,sect 8 st .sweep⟩→callM P qclZ #[ptr q] h5 fun v39 h40=>K (.bool true) h40:=by
   intro st ro h5 o5 c5 y5 en
   rw[en] at hk
   refine sbegin_ok ⟨rfl,rfl⟩ o5.wf g2 c5 tq fun T6 h6 o6 x6=>?_
   exact hk T6 h6 (o5.up o6 offg) x6 (y5.up o6 dg (by simp))
  by_cases hl:p.stripe+1=H.n
  ·have e5:((p.stripe+1:Nat):Int)=H.n:=by omega
   unfold qnHZ
   have o5:=Only.upd (U:=fun t=>t=g++[0]) (o':=.cells #[.int .i64 0,.int .i64 (p.rounds+1:Nat),ptr np] qaIZ (0,0)) o4.wf c4 tq
   simp -implicitDefEqProofs[ld_at c4,cel_of c4,stm_at c4,stm_upd,ld_same,cel_same,over,hfd,e5,hwr,-Int.natCast_add]
   exact fin 0 (p.rounds+1) _ (oo4.up o5 offg) (upd_same' _ _ _) (y4.up o5 dg (by simp)) (by simp[SwP.nxt,hl])
  ·have e5:¬ ((p.stripe+1:Nat):Int)=H.n:=by omega
   unfold qnIZ
   simp -implicitDefEqProofs[ld_at c4,cel_of c4,stm_at c4,stm_upd,ld_same,cel_same,over,hfd,e5,-Int.natCast_add]
   exact fin (p.stripe+1) p.rounds h4 oo4 c4 y4 (by simp[SwP.nxt,hl])
end Go.Proofs.YtmbningljbcpkaaGreat
namespace Go.Den
open Go
set_option linter.unusedVariables false
def wo (h:Heap)(l:List Nat):Heap:=fun q=>if q∈l then none else h q
theorem wo_out {h:Heap}{l:List Nat}{q:Nat}(hq:q ∉ l):wo h l q=h q:=if_neg hq
theorem wo_ext {F h:Heap}{l:List Nat}(e:Ext F h)(hl:∀ q∈l,F q=none):Ext F (wo h l):=fun b o hb=>by
 rw[wo_out (fun hm=>by rw[hl b hm] at hb; cases hb)]; exact e b o hb
theorem wo_get {h:Heap}{l:List Nat}{q:Nat}{o:Obj}(e:wo h l q=some o):q ∉ l∧h q=some o:=by
 unfold wo at e
 split at e
 ·cases e
 ·rename_i hq; exact⟨hq,e⟩
theorem wo_keep {h h' h'':Heap}{l:List Nat}{b:Nat}(e:Ext (wo h l) h')(hb:h b=none)(k:Keep (some b) h' h''):Ext (wo h l) h'':=fun q o hq=>by
 refine k q o (e q o hq) fun hh=>?_
 cases hh
 rw[(wo_get hq).2] at hb; cases hb
theorem wo_upd {h h':Heap}{l:List Nat}{b:Nat}{o:Obj}(e:Ext (wo h l) h')(hb:b∈l):Ext (wo h l) (upd h' b o):=fun q x hq=>by
 rw[upd_ne (fun hh=>(wo_get hq).1 (by rw[hh]; exact hb))]; exact e q x hq
theorem ext_wo {h0 h h':Heap}{l:List Nat}(e0:Ext h0 h)(hl:∀ q∈l,h0 q=none)(e:Ext (wo h l) h'):Ext h0 h':=(wo_ext e0 hl).trans e
def stoTo (b:Book)(i:Nat):Nat:=storedB (b.take i)
theorem stoTo_s {b:Book}{i:Nat}(hi:i<b.length):stoTo b (i+1)=stoTo b i+b[i].2.ss.length:=by
 unfold stoTo storedB
 rw[List.take_succ_eq_append_getElem hi,List.map_append,List.sum_append_nat,List.map_cons,List.map_nil,List.sum_cons,List.sum_nil,Nat.add_zero]
theorem stored_le {m k:Nat}{b:Book}(h1:b.length≤m)(h2:∀ y∈b,y.2.ss.length≤k):storedB b≤m*k:=by
 unfold storedB
 have:∀ (l:Book),(∀ y∈l,y.2.ss.length≤k)→(l.map fun x=>x.2.ss.length).sum≤l.length*k:=by
  intro l hl
  induction l with
  | nil=>simp
  | cons a l ih =>
   have h3:=hl a (by simp)
   have h4:=ih fun y hy=>hl y (by simp[hy])
   simp only[List.map_cons,List.sum_cons,List.length_cons,Nat.add_mul]; omega
 exact Nat.le_trans (this b h2) (Nat.mul_le_mul_right _ h1)
theorem stoTo_le {b:Book}(i:Nat):stoTo b i≤storedB b:=by
 unfold stoTo storedB
 have:(b.map fun x=>x.2.ss.length).sum=((b.take i).map fun x=>x.2.ss.length).sum+((b.drop i).map fun x=>x.2.ss.length).sum:=by
  rw[← List.sum_append_nat,← List.map_append,List.take_append_drop]
 omega
def stoH (H:Hall)(i:Nat):Nat:=((List.range i).map fun s=>storedB (H.ss s).book).sum
theorem stoH_s (H:Hall)(i:Nat):stoH H (i+1)=stoH H i+storedB (H.ss i).book:=by
 unfold stoH
 rw[List.range_succ,List.map_append,List.sum_append_nat,List.map_cons,List.map_nil,List.sum_cons,List.sum_nil,Nat.add_zero]
theorem stoH_all (H:Hall):stoH H H.n=H.stored:=rfl
theorem stoH_le {m:Nat}{H:Hall}(x:HS m H):∀ i,i≤H.n→stoH H i≤i*(m*m)
 | 0,_=>by simp[stoH]
 | i+1,hi=>by
  have ih:=stoH_le x i (by omega)
  have b:=(x.st i (by omega)).bk
  have:=stored_le b.bl b.bn
  rw[stoH_s,Nat.add_mul]; omega
end Go.Den
namespace Go.Proofs.YtmbningljbcpkaaGreat
open Go Go.Den Go.MapKept
set_option linter.unusedSimpArgs false
set_option linter.unusedVariables false
set_option maxRecDepth 20000
theorem allX_at {b:Book}{Lv:List (List Value)}{F:Heap}(l2:El 4 EntR F Lv (b.map (·.2))){i:Nat}(hi:i<(allX b Lv).length):∃ (hb:i<b.length) (v:Value),(allX b Lv)[i]=#[.string b[i].1,.agg (v::presC b[i].2.told).toArray]∧Sl 4 SessR F v b[i].2.ss∧Sn v:=by
 have hb:i<b.length:=by simpa [allX] using hi
 have hL:i<Lv.length:=by rw[l2.len]; simpa using hb
 have he:=l2.el i hL (by simpa using hb)
 obtain⟨v,h1,h2,h3⟩:=he
 simp -implicitDefEqProofs only[List.getElem_map] at h1 h2
 refine⟨hb,v,?_,h2,h3⟩
 simp -implicitDefEqProofs only[allX,List.getElem_map,List.getElem_range]
 have e1:b.getD i (⟨#[]⟩,ent0)=b[i]:=by rw[List.getD_eq_getElem?_getD,List.getElem?_eq_getElem hb]; rfl
 have e2:Lv.getD i []=Lv[i]:=by rw[List.getD_eq_getElem?_getD,List.getElem?_eq_getElem hL]; rfl
 rw[e1,e2,h1]
def StoJ (hB:Heap)(v3:Nat)(b:Book)(i:Nat)(h':Heap):Prop:=Ext (wo hB [v3]) h'∧h' v3=some (.cells #[.int .i64 (stoTo b i)] qqZ (0,0))
def StoC (hB F:Heap)(v3:Nat)(b:Book)(l i:Nat)(s2:Env)(h':Heap):Prop:=StoJ hB v3 b i h'∧s2 3=ptr v3∧∃ (hi:i<b.length) (xb:Nat) (sv:Value),s2 5=ptr xb∧xb≠l∧h' xb=some (.cells (sv::presC b[i].2.told).toArray qjZ (0,0))∧Sl 4 SessR F sv b[i].2.ss
variable {K:KTy}
theorem stored_ok (b:Book)(hl:b.length≤100000)(hn:∀ y∈b,y.2.ss.length≤900000){F h:Heap}(eF:Ext F h){kw vw:Value}(x:BookR F kw vw b)(hk:∀ h',Ext h h'→K (.int .i64 (storedB b)) h'):callM P qctZ #[.agg #[kw,vw]] h K:=by
 apply qumZ
 unfold qpqZ
 refine nw_agg fun v1 h1 n1 e1 c1=>?_
 rw[zcInt]
 refine nw_intro fun v3 h3 n3 e3 c3=>?_
 have c1:=e3 _ _ c1
 have e0:=e1.trans e3
 have n3':h v3=none:=fresh_of e1 n3
 have o1:=x.1.one
 have o2:=x.2.1.one
 have ec3:upd h3 v3 (.cells #[.int .i64 0] qqZ (0,0))=h3:=(upd_of (fun _ _=>rfl) c3).symm
 simp -implicitDefEqProofs[ld_at c3,cel_of c3,stm_at c3,stm_upd,ld_same,cel_same,over]
 rw[ec3,seqM_eq]
 unfold qqnZ
 simp -implicitDefEqProofs[ld_at c1,cel_of c1,stm_at c1,stm_upd,ld_same,cel_same,over]
 refine all_ok b (eF.trans e0) x fun pA hB nA eA cA=>?_
 have nA3:v3≠pA:=ne_fresh c3 nA
 have c3:=eA _ _ c3
 have e0B:=e0.trans eA
 obtain⟨Lv,l1,l2⟩:=x.2.1.els EntR.one
 simp -implicitDefEqProofs only[List.length_map] at l1
 have hF3:F v3=none:=by
  cases hh:F v3 with
  | none=>rfl
  | some o=>rw[eF _ _ hh] at n3'; cases n3'
 have F1:Ext F (wo hB [v3]):=wo_ext (eF.trans e0B) (by simpa using hF3)
 have hsb:stoTo b b.length=storedB b:=by simp[stoTo]
 have hbound:storedB b≤90000000000:=Nat.le_trans (stored_le hl hn) (by decide)
 unfold qqmZ
 refine rf_go good mixed rfl (by kernel_rfl) (all_it b (hA:=wo hB [v3]) (p:=pA) (kw:=kw) (vw:=vw) (Lv:=Lv) (by rw[wo_out (by simpa using Ne.symm nA3)]; exact cA) (x.ext F1) (l1.ext F1) l2.size (by simpa using l2.len))
  (fun l b' i h'=>StoJ hB v3 b i h') (fun _ _ _ _=>False) (fun l b' i s2 h'=>StoC hB F v3 b l i s2 h') ?_ ?_ ?_ (fun _ _ _ _ _ _ _ h _=>h) ?_ ?_ ?_ ?_ ?_ (fun _ _ _ _ _ _ _ h=>h.elim) (fun _ _ _ _ _ _ _ _ h=>h.elim)
 ·intro l b' hl' hb'
  exact⟨fun q o hq=>(wo_get hq).2,by simpa [stoTo,storedB] using c3⟩
 ·intro l b' i h' J; exact J.1
 ·intro l b' hl' hb' i h' h'' J k
  exact⟨wo_keep J.1 hl' k,k _ _ J.2 (fun hh=>by cases hh; rw[hl'] at c3; cases c3)⟩
 ·rintro l b' i s2 ha hb hl' hb' ⟨J,s3,hi,xb,sv,s5,nx,cx,sx⟩ k
  exact⟨⟨wo_keep J.1 hl' k,k _ _ J.2 (fun hh=>by cases hh; rw[hl'] at c3; cases c3)⟩,s3,hi,xb,sv,s5,nx,k _ _ cx (fun hh=>nx (by cases hh; rfl)),sx⟩
 ·intro i hi; simp[allX]
 ·rintro i hi l b' h2 hl' hb' ⟨ol,hol⟩ ⟨ob,hob⟩ J
  rw[qtUZ]
  unfold qpTZ
  rw[zcEnt]
  obtain⟨hib,sv,hx,hsv,hsn⟩:=allX_at l2 hi
  rw[hx]
  have hso:=hsv.one
  simp -implicitDefEqProofs
  refine nw_st rfl (by simp[presC]) (by simp[presC,hso.1]) fun xb h4 n4 e4 c4=>?_
  refine⟨⟨⟨J.1.trans e4,e4 _ _ J.2⟩,by simp,hib,xb,sv,by simp,fun hh=>(by subst hh; rw[hol] at n4; cases n4),?_,hsv⟩,by rw[hol,e4 _ _ hol],by rw[hob,e4 _ _ hob]⟩
  simpa using c4
 ·rintro i hi l b' s2 h3 hl' hb' ⟨ol,hol⟩ ⟨ob,hob⟩ ⟨J,s3,hib,xb,sv,s5,nx,cx,sx⟩
  rw[qtVZ]
  unfold qpUZ
  have cv:=J.2
  have hlen:=sx.len
  simp -implicitDefEqProofs only[presC] at cx
  have hw:IntKind.i64.wrap ((stoTo b i:Int)+b[i].2.ss.length)=(stoTo b (i+1):Nat):=by
   have h1:=stoTo_le (b:=b) (i+1)
   rw[stoTo_s hib] at h1 ⊢
   rw[wrap64_id (by omega) (by omega)]; omega
  have hl3:l≠v3:=fun hh=>by subst hh; rw[hl'] at c3; cases c3
  have hb3:b'≠v3:=fun hh=>by subst hh; rw[hb'] at c3; cases c3
  simp -implicitDefEqProofs[s3,s5,ld_at cv,cel_of cv,stm_at cv,ld_at cx,cel_of cx,stm_at cx,stm_upd,ld_same,cel_same,over,hlen,hw]
  refine⟨by rw[upd_ne hl3],by rw[upd_ne hb3],wo_upd J.1 (by simp),upd_same' _ _ _⟩
 ·intro l b' h' hl' hlb hb' hd J
  have hlx:(allX b Lv).length=b.length:=by simp[allX]
  rw[hlx] at J
  have cv:=J.2
  rw[hsb] at cv
  have nb3:v3≠b':=fun hh=>by subst hh; rw[hb'] at c3; cases c3
  simp -implicitDefEqProofs only[blkM_n,thenM_n]
  simp -implicitDefEqProofs[ld_at cv,cel_of cv,stm_at cv,stm_upd,ld_same,cel_same,over,hd,ld_skip nb3,cel_skip nb3]
  refine hk _ ?_
  exact ext_upd (o:=.deferred none) (fresh_of e0B hb') (ext_wo e0B (by simpa using n3') J.1)
theorem zcStripe:zc P qanZ=some #[.int .i64 0,.int .u64 0,.int .u64 0,.slice none 0 0,.slice none 0 0,.slice none 0 0,.slice none 0 0,.pointer none]:=by kernel_rfl
theorem hstored_ok {T : Tags} {h : Heap} {g : Tag} {p m : Nat} {H : Hall} (w : Wf T h) (x : HallR T h g p H) (hs : HS m H) (hm : m ≤ 100000) (hk : ∀ h', Ext h h' → K (.int .i64 H.stored) h') : callM P qieZ #[ptr p] h K := by
  apply qsLZ
  unfold qjeZ
  rw [seqM_eq]
  unfold qmtZ
  obtain ⟨sv, av, Y, x⟩ := x
  have cp := x.hp
  simp -implicitDefEqProofs only [hallC] at cp
  have hlen := x.st.len
  have h8 := hs.n8.2
  have hmm : m * m ≤ 10000000000 := Nat.le_trans (Nat.mul_le_mul hm hm) (by decide)
  have hst : ∀ i, i ≤ H.n → stoH H i ≤ 80000000000 := fun i hi => Nat.le_trans (stoH_le hs i hi) (Nat.le_trans (Nat.mul_le_mul (Nat.le_trans hi h8) hmm) (by decide))
  simp -implicitDefEqProofs [ld_at cp, cel_of cp, stm_at cp, stm_upd, ld_same, cel_same, over, hlen]
  refine loop_on [9, 10] (fun s h' => Ext h h' ∧ ∃ i : Nat, i ≤ H.n ∧ s 11 = .int .i64 i ∧ s 3 = .int .i64 (stoH H i)) (fun s _ => (H.n - num (s 11)).toNat) ⟨Ext.refl h, 0, by omega, rfl, rfl⟩ ?_
  rintro s h1 hf ⟨e1, i, hi, s11, s3⟩
  have s9 : s 9 = sv := by simpa using hf 9 (by simp)
  have s10 : s 10 = .int .i64 H.n := by simpa using hf 10 (by simp)
  unfold qmsZ
  simp -implicitDefEqProofs only [s11, s10, bin_lss, ov_s, cd_b]
  refine ⟨fun hc => ?_, fun hc => ?_⟩
  rotate_left
  · have : i = H.n := by have : ¬ ((i : Int) < H.n) := by simpa using hc
                         omega
    subst this
    simp -implicitDefEqProofs [s3, stoH_all]
    exact hk _ e1
  have hlt : i < H.n := by have : ((i : Int) < H.n) := by simpa using hc
                           omega
  have hw : IntKind.i64.wrap ((i : Int) + 1) = (i + 1 : Nat) := by rw [wrap64_id (by omega) (by omega)]; omega
  have hw2 : IntKind.i64.wrap ((stoH H i : Int) + storedB (H.ss i).book) = (stoH H (i + 1) : Nat) := by
    have h1 := hst (i + 1) (by omega)
    rw [stoH_s] at h1 ⊢
    rw [wrap64_id (by omega) (by omega)]; omega
  have o1 : Only non T h T h1 := Only.of_ext w e1
  have x1 := x.own o1.k
  obtain ⟨b, ob, rb, hb1, tb, ia, l1, l2, l3, l4, l5, l6⟩ := x1.lds (s := i) (k := .i64) hlt
  have hsr := x1.sr i hlt
  have st := hs.st i hlt
  have u1 := hsr.1.1.one
  have u2 := hsr.1.2.1.one
  have u3 := hsr.2.1.1.one
  have u4 := hsr.2.1.2.1.one
  unfold qmrZ
  rw [s9, s11, ia, zcStripe]
  simp -implicitDefEqProofs only [strC] at l6
  simp -implicitDefEqProofs only [ov_s, l6]
  refine nw_st (by simp) (by simp) (by simp [u1.1, u2.1, u3.1, u4.1]) fun yb h2 n2 e2 c2 => ?_
  simp -implicitDefEqProofs only [cells_agg] at c2
  simp -implicitDefEqProofs [ld_at c2, cel_of c2, stm_at c2, stm_upd, ld_same, cel_same, over]
  refine stored_ok _ (by have := st.bk.bl; omega) (fun y hy => by have := st.bk.bn y hy; omega) ((fz_ext T h1).trans e2) hsr.2.1 fun h3 e3 => ?_
  unfold qmqZ
  simp -implicitDefEqProofs [s3, s9, s10, s11, hw, hw2, -Int.natCast_add]
  exact ⟨⟨(e1.trans e2).trans e3, i + 1, by omega, rfl, rfl⟩, by omega⟩
end Go.Proofs.YtmbningljbcpkaaGreat
namespace Go.Proofs.YtmbningljbcpkaaGreat
open Go Go.Den Go.MapKept
set_option linter.unusedSimpArgs false
set_option linter.unusedVariables false
set_option maxRecDepth 20000
def small:Cfg:=⟨3,2,16,4,1,100,0⟩
theorem bdSmall:bdV (binf P qxZ) [(0,.int .i64 3),(1,.int .i64 2),(2,.int .i64 16),(3,.int .i64 4),(4,.int .i64 1),(5,.int .u64 100)]=some (.agg (cfgC small).toArray):=by kernel_rfl
variable {K:KTy}
theorem small_ok {h:Heap}(hk:∀ h',Ext h h'→K (.agg (cfgC small).toArray) h'):callM P qfiZ #[] h K:=by
 apply qrDZ
 unfold qhkZ
 rw[zcCfg,bdSmall]
 simp -implicitDefEqProofs only[nwM_s]
 intro v1 n1
 simp -implicitDefEqProofs[stm_upd,ld_same,cel_same,over,cfgC]
 exact hk _ (Ext.upd n1 _)
theorem zcOp:zc P qaCZ=some #[.int .i64 0,.string ⟨#[]⟩,.int .i64 0,.int .i64 0,.int .i64 0,.int .u64 0,.slice none 0 0]:=by kernel_rfl
end Go.Proofs.YtmbningljbcpkaaGreat
namespace Go.Proofs.YtmbningljbcpkaaGreat
open Go Go.Den Go.MapKept
set_option linter.unusedSimpArgs false
set_option linter.unusedVariables false
set_option maxRecDepth 20000
theorem g1:Gd [1]:=⟨0,[],rfl⟩
theorem g2:Gd [2]:=⟨1,[],rfl⟩
theorem d12:Off (pre [1]) [2]:=off_pre (g:=[]) (x:=[1]) (y:=[2]) (by simp) (by simp)
theorem d21:Off (pre [2]) [1]:=off_pre (g:=[]) (x:=[2]) (y:=[1]) (by simp) (by simp)
end Go.Proofs.YtmbningljbcpkaaGreat
namespace Go.Proofs.YtmbningljbcpkaaGreat
open Go Go.Den Go.MapKept
set_option linter.unusedSimpArgs false
set_option linter.unusedVariables false
set_option maxRecDepth 20000
def wrOp (x:OpD):OpD:={ x with kind:=1+x.kind % 3 }
theorem wrOp_w {x:OpD}(w:OpW x):OpW (wrOp x):=⟨(by show I64 (1+x.kind % 3); unfold I64; omega),w.i2,w.i3,w.i4,w.u1,w.s1⟩
variable {K:KTy}
theorem writing18_ok (x:OpD){h:Heap}{v:Value}(ho:One v)(hk:∀ h',Ext h h'→K (.agg (opC (wrOp x) v).toArray) h'):callM P qciZ #[.agg (opC x v).toArray] h K:=by
 apply qqKZ
 unfold qfcZ
 refine nw_agg fun v1 h1 n1 e1 c1=>?_
 rw[zcOp]
 refine nw_intro fun v3 h3 n3 e3 c3=>?_
 have ne:=ne_fresh c1 n3
 have c1:=e3 _ _ c1
 simp -implicitDefEqProofs only[opC] at c1
 have m1:=tmod_rng x.kind (show (0:Int)<3 by omega)
 have m2:=Int.mul_tdiv_add_tmod x.kind 3
 have e2:(x.kind.tmod 3+3).tmod 3=x.kind % 3:=by rw[tmod_pos (by omega)]; omega
 have w1:IntKind.i64.wrap (x.kind.tmod 3+3)=x.kind.tmod 3+3:=wrap64_id (by omega) (by omega)
 have w2:IntKind.i64.wrap (1+x.kind % 3)=1+x.kind % 3:=wrap64_id (by omega) (by omega)
 simp -implicitDefEqProofs[ld_at c1,cel_of c1,stm_at c1,ld_at c3,cel_of c3,stm_at c3,stm_skip ne,stm_skip (Ne.symm ne),ld_skip ne,ld_skip (Ne.symm ne),cel_skip ne,cel_skip (Ne.symm ne),stm_upd,ld_same,cel_same,over,w1,e2,w2,ho.1,ho.2]
 refine kv (hk _ ?_) rfl
 exact ext_upd n1 (ext_upd (fresh_of e1 n3) (e1.trans e3))
end Go.Proofs.YtmbningljbcpkaaGreat
namespace Go.Proofs.YtmbningljbcpkaaGreat
open Go Go.Den Go.MapKept
set_option linter.unusedSimpArgs false
set_option linter.unusedVariables false
set_option maxRecDepth 20000
theorem ext_of_only {U:Tag→Prop}{h:Heap}{T':Tags}{h':Heap}(o:Only U (fun _=>[]) h T' h')(u:¬ U []):Ext h h':=by
 have:=(o.ext u).trans (fz_ext _ _)
 rw[fz_nil] at this; exact this
def SwAJ (T0:Tags)(h0:Heap)(hp pp:Nat)(c:Cfg)(N B:Nat)(v:Value)(h':Heap):Prop :=
 ∃ (T':Tags) (k:Nat) (p:SwP) (H:Hall),Only (two (pre [2]) (pre [1])) T0 h0 T' h'∧HallR T' h' [1] hp H∧SwR T' h' [2] pp p∧SwA N k p H∧HS k H∧SwG N p∧H.t.seq=((k+4) / 7:Nat)∧H.c=c∧v = .int .i64 k∧k≤B
theorem two21:¬ two (pre [2]) (pre [1]) []:=by rintro (h | h)<;>simp[pre] at h
theorem sw_step {T0:Tags}{h0:Heap}{hp pp N B k:Nat}{c:Cfg}{T':Tags}{h':Heap}{p:SwP}{H:Hall}(hk3:k<B)(hB:B≤300)(o:Only (two (pre [2]) (pre [1])) T0 h0 T' h')(y:HallR T' h' [1] hp H)(x:SwR T' h' [2] pp p)(si:SwA N k p H)(hs:HS k H)(sg:SwG N p)(hq:H.t.seq=((k+4) / 7:Nat))(hc:H.c=c)
  {K:KTy} (hk:∀ h'',SwAJ T0 h0 hp pp c N B (.int .i64 (k+1:Nat)) h''→K (.bool (decide (k % 7=6))) h''):callM P qcQZ #[ptr pp,ptr hp,.int .i64 k] h' K:=by
 have sg':=sg
 rw[← si.hn] at sg
 obtain⟨s1,s2,s3⟩:=si.step (k:Int)
 have hr:=si.ro_le
 refine sstep_ok k o.wf g1 d12 d21 g2 x y hs (by omega) sg fun T2 h2 o2 x2 y2=>?_
 rw[s2]
 refine hk h2 ⟨T2,k+1,_,_,o.trans o2,y2,x2,s1,hs.sstep sg _,?_,?_,(sstep_n p H k).2.trans hc,rfl,by omega⟩
 ·have:=sg.step hs (k:Int) (by omega)
  rw[← si.hn]; exact this
 ·rw[s3]
  by_cases h2:k % 7=2
  ·rw[if_pos h2]
   show addU H.t.seq 1=_
   rw[hq]; unfold addU
   rw[if_neg (by omega)]; omega
  ·rw[if_neg h2,hq]; omega
def c2:Cfg:=⟨2,2,16,4,1,100,0⟩
theorem c2W:CfgW c2:=by constructor<;>simp[c2,I64,U64]
theorem cfg_nn {c:Cfg}(h:rightB c=true):((c.stripes.toNat:Nat):Int)=c.stripes∧0<c.stripes.toNat:=by
 simp -implicitDefEqProofs only[rightB,decide_eq_true_eq] at h; omega
theorem swAJ0 (B:Nat){T:Tags}{h:Heap}{hp pp:Nat}{c:Cfg}(cw:CfgW c)(hr:rightB c=true)(w:Wf T h)(y:HallR T h [1] hp (hall0 c c.stripes.toNat))(x:SwR T h [2] pp SwP.new):SwAJ T h hp pp c c.stripes.toNat B (.int .i64 0) h:=by
 have hn:=cfg_nn hr
 exact⟨T,0,SwP.new,_,Only.refl w,y,x,SwA.new rfl hn.2 (fun s _=>rfl),HS.new cw hr hn.1,SwG.new hn.2,rfl,rfl,rfl,by omega⟩
variable {K:KTy}
set_option maxHeartbeats 1000000 in
theorem awake18_ok {h:Heap}(hk:∀ h',Ext h h'→K (.bool true) h'):callM P qdtZ #[] h K:=by
 apply qrIZ
 unfold qhoZ
 refine small_ok fun h1 e1=>?_
 unfold qkLZ
 rw[zcCfg]
 simp -implicitDefEqProofs only[cfgC,small]
 refine nw_st rfl rfl (by simp) fun v3 h3 n3 e3 c3=>?_
 simp -implicitDefEqProofs only[cells_agg] at c3
 simp -implicitDefEqProofs[ld_at c3,cel_of c3,stm_at c3,stm_upd,ld_same,cel_same,over]
 have n3':h v3=none:=fresh_of e1 n3
 have e03:=ext_upd (o:=.cells #[.int .i64 2,.int .i64 2,.int .i64 16,.int .i64 4,.int .i64 1,.int .u64 100,.int .u64 0] qxZ (0,0)) n3' (e1.trans e3)
 generalize upd h3 v3 _=h4 at *
 have w1:=wf_nil h4
 refine hallNew_ok c2 c2W w1 g1 (fun hr T2 h5 q o2 y2=>?_) (fun hr=>by simp[rightB,c2] at hr)
 unfold qkKZ
 have enil:binV .eql 4 true (ptr q) (.pointer none)=some (.bool false):=rfl
 simp -implicitDefEqProofs[enil]
 unfold qkJZ
 refine snew_ok o2.wf g2 fun T3 h6 p o3 x3=>?_
 have y3:=y2.up o3 d21 g2.nil
 have eall:Ext h h6:=e03.trans (ext_of_only ((o2.mono fun _=>.inr).up o3 fun _=>.inl) two21)
 unfold qkIZ
 rw[seqM_eq]
 unfold qkGZ
 have o0:Only (two (pre [2]) (pre [1])) (fun _=>[]) h4 T3 h6:=(o2.mono fun _=>.inr).up o3 fun _=>.inl
 refine loop_on [2,4] (fun s h'=>SwAJ T3 h6 q p c2 2 14 (s 5) h') (fun s _=>(30-num (s 5)).toNat) (swAJ0 14 c2W hr o3.wf y3 x3) ?_
 rintro s h7 hf ⟨T4,k,r,H,o4,y4,x4,si,hs,sg,hq,hc,s5,hn⟩
 have s2:s 2=ptr q:=by simpa using hf 2 (by simp)
 have s4:s 4=ptr p:=by simpa using hf 4 (by simp)
 have hw:IntKind.i64.wrap ((k:Int)+1)=(k+1:Nat):=by rw[wrap64_id (by omega) (by omega)]; omega
 have hro:=si.ro
 unfold qkFZ
 by_cases h14:k<14
 ·have h30:(k:Int)<30:=by omega
  have hr0:r.rounds=0:=by rw[hro]; omega
  simp -implicitDefEqProofs[s5,s4,h30]
  refine srounds_ok x4 ?_
  simp -implicitDefEqProofs[hr0]
  unfold qkEZ
  simp -implicitDefEqProofs only[s2,s4,s5]
  refine sw_step (by omega) (by omega) o4 y4 x4 si hs sg hq hc fun h8 J=>?_
  unfold qkDZ
  simp -implicitDefEqProofs[s5,s2,s4,hw,-Int.natCast_add]
  exact⟨J,by omega⟩
 ·have:k=14:=by omega
  subst this
  have hr1:r.rounds=1:=hro
  simp -implicitDefEqProofs[s5,s4]
  refine srounds_ok x4 ?_
  simp -implicitDefEqProofs[hr1,s4,s5]
  unfold qkHZ
  simp -implicitDefEqProofs[s4,s5]
  refine sstripe_ok x4 ?_
  have hst:r.stripe=0:=si.st
  simp -implicitDefEqProofs[hst]
  exact hk _ (e03.trans (ext_of_only (o0.trans o4) two21))
end Go.Proofs.YtmbningljbcpkaaGreat
namespace Go.Den
open Go
set_option linter.unusedVariables false
set_option linter.unusedSimpArgs false
def wd0 (c:Cfg)(n:Nat):Wd:=⟨hall0 c n,fun _=>none,fun _=>[]⟩
end Go.Den
namespace Go.Proofs.YtmbningljbcpkaaGreat
open Go Go.Den Go.MapKept
set_option linter.unusedSimpArgs false
set_option linter.unusedVariables false
set_option maxRecDepth 20000
def UW (t:Tag):Prop:=pre [1] t∨pre [2] t
theorem UW.nil:¬ UW []:=by rintro (h | h)<;>simp[pre] at h
theorem UW.two (i:Nat){t:Tag}(h:two (pre [2,i]) (pre [1]) t):UW t:=h.elim (fun h=>.inr (pre_trans (g:=[2]) (s:=[i]) h)) .inl
theorem g2i (i:Nat):Gd [2,i]:=⟨1,[i],rfl⟩
theorem d12i (i:Nat):Off (pre [1]) [2,i]:=off_pre (g:=[]) (x:=[1]) (y:=[2,i]) (by simp) (by simp)
theorem d2i1 (i:Nat):Off (pre [2,i]) [1]:=off_pre (g:=[]) (x:=[2,i]) (y:=[1]) (by simp) (by simp)
theorem d2ij {i j:Nat}(h:i≠j):Off (pre [2,i]) [2,j]:=off_pre (g:=[2]) (x:=[i]) (y:=[j]) (by simpa using h) (by simpa using Ne.symm h)
theorem dtwo {i j:Nat}(h:i≠j):Off (two (pre [2,i]) (pre [1])) [2,j]:=fun t ht hh=>hh.elim (d2ij h t ht) (d12i j t ht)
def PRm (T:Tags)(h:Heap)(g:Tag)(q:Nat):PR→Prop
 | .w p=>WPR T h g q p
 | .r p=>RPR T h g q p
 | .h _=>False
theorem PRm.kp {U:Tag→Prop}{T T':Tags}{h h':Heap}{g:Tag}{q:Nat}{p:PR}(x:PRm T h g q p)(k:Kp U T h T' h')(o:Off U g)(n:¬ U []):PRm T' h' g q p:=by
 cases p with
 | w p=>exact WPR.kp x k o n
 | r p=>exact RPR.kp x k o n
 | h p=>exact x
structure WdM (T:Tags)(h:Heap)(hp:Nat)(A:Nat→Nat)(W:Wd):Prop where
 hl:HallR T h [1] hp W.H
 ps:∀ i p,W.ps i=some p→PRm T h [2,i] (A i) p
theorem WdM.up {U:Tag→Prop}{T T':Tags}{h h':Heap}{hp:Nat}{A:Nat→Nat}{W:Wd}(x:WdM T h hp A W)(o:Only U T h T' h')(f:∀ t,UW t→¬ U t)(n:¬ U []):WdM T' h' hp A W :=
 ⟨x.hl.up o (fun t ht=>f t (.inl ht)) n,fun i p hp=>(x.ps i p hp).kp o.k (fun t ht=>f t (.inr (pre_trans (g:=[2]) (s:=[i]) ht))) n⟩
theorem WdM.ext {T:Tags}{h h':Heap}{hp:Nat}{A:Nat→Nat}{W:Wd}(x:WdM T h hp A W)(w:Wf T h)(e:Ext h h'):WdM T h' hp A W:=x.up (Only.of_ext (U:=non) w e) (fun _ _ h=>h) (not_non _)
theorem WdM.put {U:Tag→Prop}{T T':Tags}{h h':Heap}{hp i:Nat}{A:Nat→Nat}{W:Wd}{p:PR}(x:WdM T h hp A W)(o:Only U T h T' h')(u:∀ j,j≠i→Off U [2,j])(n:¬ U []){k:Int}(hp':W.ps i=some p)
  (y':HallR T' h' [1] hp (p.step (W.ms i) W.H k).2.2) (x':PRm T' h' [2,i] (A i) (p.step (W.ms i) W.H k).1):WdM T' h' hp A (W.step i k):=by
 refine⟨?_,fun j q hq=>?_⟩
 ·have:(W.step i k).H=(p.step (W.ms i) W.H k).2.2:=by simp only[Wd.step,hp']
  rw[this]; exact y'
 ·have hP:(W.step i k).ps j=if j=i then some (p.step (W.ms i) W.H k).1 else W.ps j:=by simp only[Wd.step,hp',bset]
  rw[hP] at hq
  split at hq
  ·rename_i hj; subst hj
   simp -implicitDefEqProofs only[Option.some.injEq] at hq; subst hq
   exact x'
  ·rename_i hj
   exact (x.ps j q hq).kp o.k (u j hj) n
theorem wd0M {T:Tags}{h:Heap}{hp:Nat}{c:Cfg}{n:Nat}(x:HallR T h [1] hp (hall0 c n))(A:Nat→Nat):WdM T h hp A (wd0 c n):=⟨x,fun i p h=>by simp[wd0] at h⟩
end Go.Proofs.YtmbningljbcpkaaGreat
namespace Go.Proofs.YtmbningljbcpkaaGreat
open Go Go.Den Go.MapKept
set_option linter.unusedSimpArgs false
set_option linter.unusedVariables false
set_option maxRecDepth 20000
theorem bin_neqS (t:Nat)(c:Bool)(a b:ByteArray):binV .neq t c (.string a) (.string b)=some (.bool (!decide (a=b))):=by
 simp -implicitDefEqProofs only[binV,strV]
 by_cases h:a=b
 ·subst h; simp
 ·have:¬ a.toList=b.toList:=fun e=>h (str_inj e)
  simp -implicitDefEqProofs[h,this]
theorem take_eq_succ {α:Type}{xs ys:List α}{i:Nat}(h:xs.take i=ys.take i)(h1:i<xs.length)(h2:i<ys.length)(e:xs[i]=ys[i]):xs.take (i+1)=ys.take (i+1):=by
 rw[List.take_succ_eq_append_getElem h1,List.take_succ_eq_append_getElem h2,h,e]
end Go.Proofs.YtmbningljbcpkaaGreat
namespace Go.Proofs.YtmbningljbcpkaaGreat
open Go Go.Den Go.MapKept
set_option linter.unusedSimpArgs false
set_option linter.unusedVariables false
set_option maxRecDepth 20000
theorem g3:Gd [3]:=⟨2,[],rfl⟩
def fewB (c:Cfg)(xs:List OpD)(l:Nat):Bool:=decide (xs.length≤7) && decide (l≤300) && rightB c && xs.all shortB
theorem opsAt {F:Heap}{v:Value}{xs:List OpD}(x:Sl 7 OpR F v xs){i:Nat}(hi:i<xs.length):∃ b p u,iaV (some (none,7)) v (.int .i64 i)=some (.pointer (some ⟨b,p,none⟩))∧(∀ h',Ext F h'→ldV (some (some 7)) (.pointer (some ⟨b,p,none⟩)) h'=some (.agg (opC xs[i] u).toArray))∧Sl 1 StrR F u xs[i].users∧OpW xs[i]:=by
 obtain⟨b,o,c,i1,i2,i3⟩:=x.at (k:=.i64) (i:=i) (by omega) (by omega)
 obtain⟨u,h1,h2,h3⟩:=i3
 simp -implicitDefEqProofs only[Int.toNat_natCast] at h1 h2 h3
 exact⟨b,o,u,i1,fun h' e=>by rw[ldV_n (cels_ext e i2),h1],h2,h3⟩
variable {K:KTy}
set_option maxHeartbeats 1000000 in
theorem few18_ok (c : Cfg) (xs : List OpD) (l : Nat) {h : Heap} {v tv : Value} (x : Sl 7 OpR h v xs) (hl : lnV 7 tv = some (.int .i64 l)) (hk : ∀ h', Ext h h' → K (.bool (fewB c xs l)) h') : callM P qiiZ #[.agg (cfgC c).toArray, v, tv] h K := by
  apply qsQZ
  unfold qjjZ
  have hlen := x.len
  refine nw_agg fun v1 h1 n1 e1 c1 => ?_
  have og : ldV (some (some 7)) (ptr v1) h1 = some (.agg (cfgC c).toArray) := by simp [ld_at c1, cfgC]
  by_cases h7 : xs.length ≤ 7
  rotate_left
  · have h7' : (7 : Int) < xs.length := by omega
    simp -implicitDefEqProofs [hlen, h7']
    refine kb (hk _ e1) (by simp [fewB, h7])
  have h7' : ¬ (7 : Int) < xs.length := by omega
  by_cases h3 : l ≤ 300
  rotate_left
  · have h3' : (300 : Int) < l := by omega
    simp -implicitDefEqProofs [hlen, hl, h7', h3']
    refine kb (hk _ e1) (by simp [fewB, h3])
  have h3' : ¬ (300 : Int) < l := by omega
  simp -implicitDefEqProofs [hlen, hl, h7', h3', og]
  refine refRight_ok c fun h2 e2 => ?_
  have e0 := e1.trans e2
  cases hr : rightB c with
  | false =>
    simp -implicitDefEqProofs
    refine kb (hk _ e0) (by simp [fewB, hr])
  | true =>
  simp -implicitDefEqProofs
  unfold qmDZ
  rw [seqM_eq]
  unfold qmCZ
  refine loop_on [1] (fun s h' => Ext h h' ∧ ∃ i : Nat, i ≤ xs.length ∧ s 7 = .int .i64 i ∧ s 6 = .bool false ∧ (xs.take i).all shortB = true) (fun s _ => (xs.length - num (s 7)).toNat) ⟨e0, 0, by omega, rfl, rfl, by simp⟩ ?_
  rintro s h4 hf ⟨e4, i, hi, s7, s6, hall⟩
  have s1 : s 1 = v := by simpa using hf 1 (by simp)
  unfold qmBZ
  simp -implicitDefEqProofs only [s1, hlen, s7, bin_lss, ov_s, cd_b]
  refine ⟨fun hc => ?_, fun hc => ?_⟩
  · have hlt : i < xs.length := by have : ((i : Int) < xs.length) := by simpa using hc
                                   omega
    have hw : IntKind.i64.wrap ((i : Int) + 1) = (i + 1 : Nat) := by rw [wrap64_id (by omega) (by omega)]; omega
    obtain ⟨b, p, u, i1, i2, i3, i4⟩ := opsAt x hlt
    unfold qmAZ
    simp -implicitDefEqProofs only [s1, s7, i1, i2 _ e4, ov_s]
    refine short_ok xs[i] (i3.ext (@StrR.ext) e4) fun h5 e5 => ?_
    unfold qmzZ
    cases hs : shortB xs[i] with
    | false =>
      simp -implicitDefEqProofs
      unfold qmxZ
      simp -implicitDefEqProofs
      have : xs.all shortB = false := by
        cases hh : xs.all shortB with
        | false => rfl
        | true => rw [List.all_eq_true] at hh; rw [hh _ (List.getElem_mem hlt)] at hs; cases hs
      refine kb (hk _ (e4.trans e5)) (by simp [fewB, this])
    | true =>
      simp -implicitDefEqProofs
      unfold qmyZ
      simp -implicitDefEqProofs [s1, s6, s7, hw, -Int.natCast_add]
      exact ⟨⟨e4.trans e5, i + 1, by omega, rfl, List.all_eq_true.1 (all_succ hlt hall hs)⟩, by omega⟩
  · have : i = xs.length := by have : ¬ ((i : Int) < xs.length) := by simpa using hc
                               omega
    subst this
    rw [List.take_of_length_le (Nat.le_refl _)] at hall
    simp -implicitDefEqProofs
    refine kb (hk _ e4) (by simp [fewB, h7, h3, hr, hall])
end Go.Proofs.YtmbningljbcpkaaGreat
namespace Go.Proofs.YtmbningljbcpkaaGreat
open Go Go.Den Go.MapKept
set_option linter.unusedSimpArgs false
set_option linter.unusedVariables false
set_option maxRecDepth 20000
deriving instance DecidableEq for Reply
end Go.Proofs.YtmbningljbcpkaaGreat
namespace Go.Proofs.YtmbningljbcpkaaGreat
open Go Go.Den Go.MapKept
set_option linter.unusedSimpArgs false
set_option linter.unusedVariables false
set_option maxRecDepth 20000
def UsrR (h:Heap)(c:List Value)(x:ByteArray × Ent):Prop:=∃ v,c = .string x.1::v::presC x.2.told∧Sl 4 SessR h v x.2.ss
theorem UsrR.ext {h h':Heap}{c:List Value}{x:ByteArray × Ent}(e:Ext h h')(r:UsrR h c x):UsrR h' c x:=let ⟨v,h1,h2⟩:=r; ⟨v,h1,h2.ext (@SessR.ext) e⟩
theorem unSlUsr:P.underlying qlZ=some (.slice qhZ):=by kernel_rfl
theorem apUsr:apC P qhZ=some (5,64,5):=by kernel_rfl
theorem bsUsr:bsI P qlZ=some (qhZ,5,#[.string ⟨#[]⟩,.slice none 0 0,.int .i64 0,.int .i64 0,.int .i64 0]):=by kernel_rfl
theorem bdUsr (k:ByteArray)(b:Option Addr)(n c:Nat)(p q r:Int):bdV (binf P qhZ) [(0,.string k),(1,.slice b n c),(2,.agg #[.int .i64 p,.int .i64 q,.int .i64 r])]=some (.agg #[.string k,.slice b n c,.int .i64 p,.int .i64 q,.int .i64 r]):=by kernel_rfl
theorem Sl.slice' {α:Type}{sz:Nat}{R:Heap→List Value→α→Prop}{h:Heap}{v:Value}{xs:List α}(x:Sl sz R h v xs):∃ b n c,v = .slice b n c:=by
 rcases x with ⟨_,a,c,rfl⟩ | ⟨b,o,cap,rfl,_⟩
 ·exact⟨_,_,_,rfl⟩
 ·exact⟨_,_,_,rfl⟩
theorem usr_ld {F:Heap}{v:Value}{l:Book}(x:Sl 5 UsrR F v l){i:Nat}(hi:i<l.length):∃ b p sv,iaV (some (none,5)) v (.int .i64 i)=some (.pointer (some ⟨b,p,none⟩))∧(∀ h',Ext F h'→cel h' b p=some (.string l[i].1)∧cel h' b (p+1)=some sv∧ldV (some (some 3)) (.pointer (some ⟨b,p+2,none⟩)) h'=some (.agg (presC l[i].2.told).toArray))∧Sl 4 SessR F sv l[i].2.ss:=by
 obtain⟨b,p,c,h1,h2,h3⟩:=x.at (k:=.i64) (i:=i) (by omega) (by omega)
 simp -implicitDefEqProofs only[Int.toNat_natCast] at h3
 obtain⟨sv,rfl,hs⟩:=h3
 refine⟨b,p,sv,h1,fun h' e=>?_,hs⟩
 have hc:=cels_ext e h2
 have g:=(cels_get hc).2
 refine⟨g 0 (by simp[presC]),g 1 (by simp[presC]),?_⟩
 have:=cels_sub hc (j:=2) (m:=3) (by omega)
 rw[ldV_n (l:=presC l[i].2.told) (by simpa [presC] using this)]
end Go.Proofs.YtmbningljbcpkaaGreat
namespace Go.Den
open Go
set_option linter.unusedVariables false
set_option linter.unusedSimpArgs false
def insS:List Sess→Sess→List Sess
 | [],s=>[s]
 | x::r,s=>if s.id<x.id then s::x::r else x::insS r s
theorem ins_del {s:Sess}:∀ {l:List Sess},SrtI l→insS (delS l s.id) s=putS l s
 | [],_=>rfl
 | x::r,so=>by
  obtain⟨s1,s2⟩:=List.pairwise_cons.1 so
  have ih:=ins_del (s:=s) s2
  have hr:x.id ≥ s.id→delS r s.id=r:=fun h=>List.filter_eq_self.2 fun y hy=>by
   have:=s1 y hy
   have:¬ y.id=s.id:=by omega
   simp[this]
  simp only[putS]
  by_cases h1:x.id<s.id
  ·have e:delS (x::r) s.id=x::delS r s.id:=by
    have:¬ x.id=s.id:=by omega
    simp[delS,this]
   rw[if_pos h1,e,insS,if_neg (by omega),ih]
  rw[if_neg h1]
  by_cases h2:x.id=s.id
  ·have e:delS (x::r) s.id=r:=by
    have:=hr (by omega)
    unfold delS at this ⊢
    rw[List.filter_cons,if_neg (by simp[h2]),this]
   rw[if_pos h2,e]
   cases r with
   | nil=>rfl
   | cons y r' =>
    have:=s1 y (by simp)
    rw[insS,if_pos (by omega)]
  ·have e:delS (x::r) s.id=x::r:=by
    have:=hr (by omega)
    unfold delS at this ⊢
    rw[List.filter_cons,if_pos (by simp[h2]),this]
   rw[if_neg h2,e,insS,if_pos (by omega)]
theorem del_none {l:List Sess}{id:Int}(h:hasI l id=false):delS l id=l:=List.filter_eq_self.2 fun y hy=>by
 have:¬ y.id=id:=fun e=>by
  have:hasI l id=true:=hasI_iff.2 ⟨y,hy,e⟩
  rw[h] at this; cases this
 simp[this]
theorem clear_eq (l:List Sess)(id:Int):clearS l id=(delS l id,if hasI l id then 0 else 3):=by
 unfold clearS
 cases h:hasI l id with
 | true=>simp
 | false=>simp[del_none h]
def beat1 (id un:Int)(s:Sess):Sess:=if s.id=id∧s.un<un then { s with un:=un } else s
theorem beat_eq (l:List Sess)(id un:Int):beatS l id un=if hasI l id then (l.map (beat1 id un),0) else (l,3):=by
 unfold beatS
 split
 ·congr 1
  refine List.map_congr_left fun s _=>?_
  unfold beat1
  by_cases h:s.id=id
  ·by_cases h2:s.un<un
   ·simp only[h,h2,and_self,if_true]
    congr 1; omega
   ·rw[if_pos h,if_neg (by omega)]
    have:max s.un un=s.un:=by omega
    rw[this]
  ·simp[h]
 ·rfl
def beatsI (l:List Sess)(k i:Nat):Prop:=∃ (hk:k<l.length) (hi:i<l.length),l[i].pr<l[k].pr∨(l[k].pr=l[i].pr∧(l[k].id<l[i].id∨(l[k].id=l[i].id∧k<i)))
def accL (l:List Sess):Sess × Nat:=l.foldl (fun x s=>(if x.2=0 || better s x.1 then s else x.1,x.2+1)) (⟨0,0,0,0⟩,0)
theorem accL_purge (l:List Sess)(now:Int):ofAcc l now=accL (purgeS l now):=by
 unfold ofAcc accL
 generalize ((⟨0,0,0,0⟩,0):Sess × Nat)=z
 induction l generalizing z with
 | nil=>rfl
 | cons s l ih =>
  rw[List.foldl_cons,ih]
  unfold purgeS
  rw[List.filter_cons]
  unfold ofStep
  cases h:late now s.un with
  | true=>simp[h]
  | false=>simp[h]
theorem accL_snoc (l:List Sess)(s:Sess):accL (l++[s])=(if (accL l).2=0 || better s (accL l).1 then s else (accL l).1,(accL l).2+1):=by simp[accL]
theorem snoc_ind {α:Type}{P:List α→Prop}(h0:P [])(h1:∀ l a,P l→P (l++[a])):∀ l,P l:=fun l=>by
 have:∀ m:List α,P m.reverse:=fun m=>by
  induction m with
  | nil=>exact h0
  | cons a m ih=>rw[List.reverse_cons]; exact h1 _ _ ih
 have h:=this l.reverse
 rwa [List.reverse_reverse] at h
theorem accL_spec (l:List Sess):(accL l).2=l.length∧(l≠[]→∃ i,∃ hi:i<l.length,l[i]=(accL l).1∧∀ k,¬ beatsI l k i):=by
 refine snoc_ind (P:=fun l=>(accL l).2=l.length∧(l≠[]→∃ i,∃ hi:i<l.length,l[i]=(accL l).1∧∀ k,¬ beatsI l k i)) ⟨rfl,fun h=>absurd rfl h⟩ (fun l s ih=>?_) l
 obtain⟨h1,h2⟩:=ih
 rw[accL_snoc]
 refine⟨by simp[h1],fun _=>?_⟩
 have hget:∀ k (hk:k<l.length),(l++[s])[k]'(by simp; omega)=l[k]:=fun k hk=>List.getElem_append_left hk
 have hlast:∀ (h:l.length<(l++[s]).length),(l++[s])[l.length]=s:=fun h=>by simp
 by_cases hl:l=[]
 ·subst hl
  refine⟨0,by simp,by simp[accL],fun k hk=>?_⟩
  obtain⟨a,b,c⟩:=hk
  have:k=0:=by simp at a; omega
  subst this
  simp at c
 obtain⟨i,hi,e,hb⟩:=h2 hl
 have hlen:¬ (accL l).2=0:=by
  rw[h1]; intro h; exact hl (List.length_eq_zero_iff.1 h)
 by_cases hbt:better s (accL l).1=true
 ·simp only[hbt,Bool.or_true,if_true]
  refine⟨l.length,by simp,hlast _,fun k hk=>?_⟩
  obtain⟨a,b,c⟩:=hk
  rw[hlast b] at c
  have ha:k≤l.length:=by simp at a; omega
  by_cases hkl:k=l.length
  ·subst hkl
   rw[hlast a] at c
   omega
  have hk':k<l.length:=by omega
  rw[hget k hk'] at c
  have hnb:¬ beatsI l k i:=hb k
  apply hnb
  refine⟨hk',hi,?_⟩
  rw[e]
  simp only[better,Bool.or_eq_true,Bool.and_eq_true,decide_eq_true_eq] at hbt
  omega
 ·have hbt':better s (accL l).1=false:=by simpa using hbt
  have hz:(decide ((accL l).2=0) || better s (accL l).1)=false:=by simp[hlen,hbt']
  rw[hz]
  refine⟨i,by simp; omega,by rw[hget i hi]; simpa using e,fun k hk=>?_⟩
  obtain⟨a,b,c⟩:=hk
  rw[hget i hi] at c
  have ha:k≤l.length:=by simp at a; omega
  by_cases hkl:k=l.length
  ·subst hkl
   rw[hlast a] at c
   rw[e] at c
   simp only[better,Bool.or_eq_false_iff,Bool.and_eq_false_iff,decide_eq_false_iff_not] at hbt'
   omega
  have hk':k<l.length:=by omega
  rw[hget k hk'] at c
  exact hb k ⟨hk',hi,c⟩
theorem pres_first {l:List Sess}{now:Int}{i:Nat}(hi:i<(purgeS l now).length)(hf:∀ k,¬ beatsI (purgeS l now) k i):presOf l now=⟨(purgeS l now)[i].st,(purgeS l now)[i].pr,(purgeS l now).length⟩:=by
 have hne:purgeS l now≠[]:=fun h=>by rw[h] at hi; simp at hi
 obtain⟨h1,h2⟩:=accL_spec (purgeS l now)
 obtain⟨j,hj,e,hb⟩:=h2 hne
 have hij:i=j:=by
  by_cases hc:i=j
  ·exact hc
  exfalso
  have n1:=hf j
  have n2:=hb i
  have n1:¬ ((purgeS l now)[i].pr<(purgeS l now)[j].pr∨((purgeS l now)[j].pr=(purgeS l now)[i].pr∧((purgeS l now)[j].id<(purgeS l now)[i].id∨((purgeS l now)[j].id=(purgeS l now)[i].id∧j<i)))):=fun h=>n1 ⟨hj,hi,h⟩
  have n2:¬ ((purgeS l now)[j].pr<(purgeS l now)[i].pr∨((purgeS l now)[i].pr=(purgeS l now)[j].pr∧((purgeS l now)[i].id<(purgeS l now)[j].id∨((purgeS l now)[i].id=(purgeS l now)[j].id∧i<j)))):=fun h=>n2 ⟨hi,hj,h⟩
  omega
 subst hij
 unfold presOf
 rw[accL_purge,← e,h1]
theorem pres_none {l:List Sess}{now:Int}(h:purgeS l now=[]):presOf l now=⟨0,0,0⟩:=by
 unfold presOf
 rw[accL_purge,h]; rfl
theorem pres_some {l:List Sess}{now:Int}(h:purgeS l now≠[]):∃ i,i<(purgeS l now).length∧∀ k,¬ beatsI (purgeS l now) k i:=by
 obtain⟨i,hi,_,hb⟩:=(accL_spec (purgeS l now)).2 h
 exact⟨i,hi,hb⟩
def becR (u:ByteArray)(e:Ent):Book→Bool→Book
 | [],put=>if put then [] else [(u,e)]
 | x::r,put=>(if !put && !ltS x.1 u then [(u,e)] else [])++((if x.1=u then [] else [x])++becR u e r (put || !ltS x.1 u))
theorem becR_put (u:ByteArray)(e:Ent):∀ b:Book,becR u e b true=delB b u
 | []=>rfl
 | x::r=>by
  unfold becR
  rw[Bool.true_or,becR_put u e r]
  unfold delB
  by_cases h:x.1=u
  ·simp[h]
  ·simp[h]
theorem becR_new (u:ByteArray)(e:Ent):∀ {b:Book},SrtK (keysL b)→becR u e b false=putB b u e
 | [],_=>rfl
 | (k,y)::r,so=>by
  obtain⟨s1,s2⟩:=List.pairwise_cons.1 so
  unfold becR
  simp only[putB]
  cases hk:ltS k u with
  | true =>
   have hne:¬ k=u:=fun e=>by rw[e,ltS_irrefl] at hk; cases hk
   simp[hk,hne,becR_new u e s2]
  | false =>
   have hn:u ∉ keysL r:=fun h=>by
    have:=s1 u h
    have:=ltS_asymm this
    by_cases hku:k=u
    ·subst hku
     have h2:=s1 k h
     rw[ltS_irrefl] at h2; cases h2
    ·rcases (ltS_total hk (by simpa using this)) with rfl
     exact hku rfl
   by_cases hku:k=u
   ·simp[hk,hku,becR_put,delB_none hn]
   ·simp[hk,hku,becR_put,delB_none hn]
theorem settle_eq {b:Book}(so:SrtK (keysL b))(u:ByteArray)(ss:List Sess)(now:Int):(settleB b u ss now).1=becR u ⟨ss,presOf ss now⟩ b (decide (ss=[])):=by
 unfold settleB
 by_cases h:ss=[]
 ·simp[h,becR_put]
 ·simp[h,becR_new _ _ so]
end Go.Den
namespace Go.Proofs.YtmbningljbcpkaaGreat
open Go Go.Den Go.MapKept
set_option linter.unusedSimpArgs false
set_option linter.unusedVariables false
set_option maxRecDepth 20000
theorem unSlSs:P.underlying qbZ=some (.slice qcZ):=by kernel_rfl
theorem apSs:apC P qcZ=some (4,32,4):=by kernel_rfl
theorem bsSs:bsI P qbZ=some (qcZ,4,#[.int .i64 0,.int .i64 0,.int .i64 0,.int .u64 0]):=by kernel_rfl
theorem purgeS_snoc (l:List Sess)(s:Sess)(now:Int):purgeS (l++[s]) now=if now<s.un then purgeS l now++[s] else purgeS l now:=by
 unfold purgeS
 rw[List.filter_append]
 by_cases h:now<s.un
 ·rw[if_pos h,List.filter_cons_of_pos (by simp[late]; omega)]; rfl
 ·rw[if_neg h,List.filter_cons_of_neg (by simp[late]; omega)]; simp
variable {K:KTy}
theorem rpurge_ok (l:List Sess)(now:Int){h:Heap}{v:Value}(x:Sl 4 SessR h v l)(hl:l.length<1000000)
  (hk:∀ h' v',Rf 4 qcZ h h' v' (purgeS l now).length ((purgeS l now).flatMap sessC)→K v' h'):callM P qbuZ #[v,.int .u64 now] h K:=by
 apply qrUZ
 unfold qhwZ
 have lx:=x.len
 rw[seqM_eq]
 unfold qlhZ
 refine loop_on [0,1] (fun s h'=>∃ i:Nat,i≤l.length∧s 6 = .int .i64 i∧Rf 4 qcZ h h' (s 5) (purgeS (l.take i) now).length ((purgeS (l.take i) now).flatMap sessC)) (fun s _=>(l.length-num (s 6)).toNat) ⟨0,by omega,by simp,by simpa [purgeS] using Rf.nil (Ext.refl _)⟩ ?_
 rintro s h1 hf ⟨i,hi,s6,r⟩
 have s0:s 0=v:=by simpa using hf 0 (by simp)
 have s1:s 1 = .int .u64 now:=by simpa using hf 1 (by simp)
 unfold qlgZ
 simp -implicitDefEqProofs[s0,s6,lx]
 refine⟨fun hc=>?_,fun hc=>?_⟩
 rotate_left
 ·have hie:i=l.length:=by omega
  subst hie
  rw[List.take_of_length_le (Nat.le_refl _)] at r
  exact hk _ _ r
 ·have hlt:i<l.length:=by omega
  have hw:IntKind.i64.wrap ((i:Int)+1)=(i+1:Nat):=by rw[wrap64_id (by omega) (by omega)]; omega
  obtain⟨b,p,i1,i2⟩:=sess_ld x hlt (k:=.i64)
  have i2:=i2 h1 r.ex
  have un:cel h1 b (p+3)=some (.int .u64 l[i].un):=(cels_get i2).2 3 (by simp[sessC])
  have ps:=purgeS_snoc (l.take i) l[i] now
  rw[← List.take_succ_eq_append_getElem hlt] at ps
  have hlen:(purgeS (l.take i) now).length≤l.length:=by unfold purgeS; have:=List.length_filter_le (fun s=>!late now s.un) (l.take i); simp at this ⊢; omega
  unfold qlfZ
  rw[seqM_eq]
  unfold qleZ
  simp -implicitDefEqProofs[s0,s1,s6,i1,un]
  refine⟨fun hc2=>?_,fun hc2=>?_⟩
  ·rw[if_pos hc2] at ps
   unfold qldZ
   simp -implicitDefEqProofs[s0,s6,i1,ldV_n i2]
   refine bs_one bsSs (by simp[sessC]) (by simp[sessC]) fun b2 h2 n2 e2 c2=>?_
   refine Rf.app2 (m:=1) (news:=sessC l[i]) unSlSs apSs (by omega) (r.ext e2) (.inr ⟨b2,0,1,rfl,cels_one c2 (by simp[sessC])⟩) (by simp[sessC]) (by unfold maxLen; omega) (by omega) fun v' h3 r3 hkp hrow=>?_
   unfold qlcZ
   simp -implicitDefEqProofs[s0,s1,s6,hw,-Int.natCast_add]
   refine⟨⟨i+1,by omega,rfl,?_⟩,by omega⟩
   rw[ps]
   simpa using r3
  ·rw[if_neg (by omega)] at ps
   simp -implicitDefEqProofs[s0,s1,s6,hw,-Int.natCast_add]
   exact⟨⟨i+1,by omega,rfl,by rw[ps]; exact r⟩,by omega⟩
theorem bdPres0:bdV (binf P qiZ) []=some (.agg #[.int .i64 0,.int .i64 0,.int .i64 0]):=by kernel_rfl
theorem bdPres (a b c:Int):bdV (binf P qiZ) [(0,.int .i64 a),(1,.int .i64 b),(2,.int .i64 c)]=some (.agg #[.int .i64 a,.int .i64 b,.int .i64 c]):=by kernel_rfl
theorem beats_iff {l:List Sess}{k i:Nat}(hk:k<l.length)(hi:i<l.length):beatsI l k i↔(l[i].pr<l[k].pr∨(l[k].pr=l[i].pr∧(l[k].id<l[i].id∨(l[k].id=l[i].id∧k<i)))) :=
 ⟨fun ⟨_,_,h⟩=>h,fun h=>⟨hk,hi,h⟩⟩
def OfI (L:List Sess)(i k:Nat)(v:Value):Prop:=∃ f:Bool,v = .bool f∧(f=true→∀ j,j<k→¬ beatsI L j i)∧(f=false→∃ j,beatsI L j i)
set_option maxHeartbeats 4000000 in
theorem rof_ok (l:List Sess)(now:Int){h:Heap}{v:Value}(x:Sl 4 SessR h v l)(hl:l.length<1000000)
  (hk:∀ h',Ext h h'→K (.agg (presC (presOf l now)).toArray) h'):callM P qiZZ #[v,.int .u64 now] h K:=by
 apply qtHZ
 unfold qkrZ
 rw[zcPres]
 refine nw_agg fun v1 h1 n1 e1 c1=>?_
 refine rpurge_ok l now (x.ext (@SessR.ext) e1) hl fun h4 v3 r4=>?_
 have c1:=r4.ex _ _ c1
 have e4:=e1.trans r4.ex
 obtain⟨L,hL⟩:∃ L,purgeS l now=L:=⟨_,rfl⟩
 rw[hL] at r4
 have y:=rf_sess r4
 have ly:=y.len
 have hle:L.length≤l.length:=by rw[← hL]; unfold purgeS; exact List.length_filter_le _ _
 unfold qotZ
 rw[seqM_eq]
 unfold qosZ
 refine loop_on [4,5] (fun s h'=>h'=h4∧∃ i:Nat,i≤L.length∧s 6 = .int .i64 i∧∀ j,j<i→∃ k,beatsI L k j) (fun s _=>(L.length-num (s 6)).toNat) ⟨rfl,0,by omega,by simp,fun j hj=>by omega⟩ ?_
 rintro s h5 hf ⟨rfl,i,hi,s6,hb⟩
 have s4:s 4=ptr v1:=by simpa using hf 4 (by simp)
 have s5:s 5=v3:=by simpa using hf 5 (by simp)
 unfold qorZ
 simp -implicitDefEqProofs[s5,s6,ly]
 refine⟨fun hc=>?_,fun hc=>?_⟩
 rotate_left
 ·have hie:i=L.length:=by omega
  have hnil:purgeS l now=[]:=by
   by_cases hne:purgeS l now=[]
   ·exact hne
   ·obtain⟨j,h1,h2⟩:=pres_some hne
    rw[hL] at h1 h2
    obtain⟨k,hk⟩:=hb j (by omega)
    exact absurd hk (h2 k)
  rw[pres_none hnil] at hk
  have tg:tagg P qiZ=some (some 3):=by kernel_rfl
  simp -implicitDefEqProofs[s4,bdPres0,ld_at c1,cel_of c1,stm_at c1,stm_upd,ld_same,cel_same,over,tg]
  exact hk _ (ext_upd n1 e4)
 ·have hlt:i<L.length:=by omega
  have hw:IntKind.i64.wrap ((i:Int)+1)=(i+1:Nat):=by rw[wrap64_id (by omega) (by omega)]; omega
  obtain⟨bi,pi,i1,i2⟩:=sess_ld y hlt (k:=.i64)
  have i2:=(cels_get (i2 _ (Ext.refl _))).2
  have i20:cel h5 bi pi=some (.int .i64 L[i].id):=i2 0 (by simp[sessC])
  have i21:cel h5 bi (pi+1)=some (.int .i64 L[i].st):=i2 1 (by simp[sessC])
  have i22:cel h5 bi (pi+2)=some (.int .i64 L[i].pr):=i2 2 (by simp[sessC])
  unfold qoqZ
  rw[seqM_eq]
  unfold qopZ
  rw[seqM_eq]
  unfold qooZ
  refine loop_on [4,5,6] (fun r h'=>h'=h5∧∃ k:Nat,k≤L.length∧r 8 = .int .i64 k∧OfI L i k (r 7)) (fun r _=>(L.length-num (r 8)).toNat) ⟨rfl,0,by omega,by simp,true,by simp,fun _ j hj=>by omega,fun h=>by cases h⟩ ?_
  rintro r h6 hf6 ⟨rfl,k,hk',r8,f,r7,ft,ff⟩
  have r4':r 4=ptr v1:=by simpa [s4] using hf6 4 (by simp)
  have r5:r 5=v3:=by simpa [s5] using hf6 5 (by simp)
  have r6:r 6 = .int .i64 i:=by simpa [s6] using hf6 6 (by simp)
  unfold qonZ
  simp -implicitDefEqProofs[r5,r8,ly]
  refine⟨fun hc2=>?_,fun hc2=>?_⟩
  ·have hlk:k<L.length:=by omega
   have hwk:IntKind.i64.wrap ((k:Int)+1)=(k+1:Nat):=by rw[wrap64_id (by omega) (by omega)]; omega
   obtain⟨bk,pk,k1,k2⟩:=sess_ld y hlk (k:=.i64)
   have k2:=(cels_get (k2 _ (Ext.refl _))).2
   have k20:cel h6 bk pk=some (.int .i64 L[k].id):=k2 0 (by simp[sessC])
   have k22:cel h6 bk (pk+2)=some (.int .i64 L[k].pr):=k2 2 (by simp[sessC])
   have bi':=beats_iff hlk hlt
   unfold qomZ
   rw[seqM_eq]
   unfold qolZ
   by_cases p1:L[i].pr<L[k].pr
   ·have bb:=bi'.2 (.inl p1)
    simp -implicitDefEqProofs[r5,r6,r8,i1,k1,i20,i22,k20,k22,p1]
    unfold qedZ
    simp -implicitDefEqProofs[r4',r5,r6,r8,r7,hwk,s4,s5,s6,-Int.natCast_add]
    exact⟨⟨k+1,by omega,rfl,⟨false,rfl,(fun h=>by cases h),fun _=>⟨k,bb⟩⟩⟩,by omega⟩
   have keep:¬ beatsI L k i→∀ j,j<k+1→f=true→¬ beatsI L j i:=fun nb j hj hft=>by
    by_cases hjk:j<k
    ·exact ft hft j hjk
    ·have:j=k:=by omega
     subst this; exact nb
   by_cases p2:L[k].pr=L[i].pr
   rotate_left
   ·have nb:¬ beatsI L k i:=fun h=>by rcases bi'.1 h with h | h; exact p1 h; exact p2 h.1
    simp -implicitDefEqProofs[r5,r6,r8,i1,k1,i20,i22,k20,k22,p1,p2]
    unfold qeeZ
    simp -implicitDefEqProofs[r4',r5,r6,r8,r7,hwk,s4,s5,s6,-Int.natCast_add]
    exact⟨⟨k+1,by omega,rfl,⟨f,rfl,fun hft j hj=>keep nb j hj hft,ff⟩⟩,by omega⟩
   by_cases p3:L[k].id<L[i].id
   ·have bb:=bi'.2 (.inr ⟨p2,.inl p3⟩)
    simp -implicitDefEqProofs[r5,r6,r8,i1,k1,i20,i22,k20,k22,p1,p2,p3]
    unfold qedZ
    simp -implicitDefEqProofs[r4',r5,r6,r8,r7,hwk,s4,s5,s6,-Int.natCast_add]
    exact⟨⟨k+1,by omega,rfl,⟨false,rfl,(fun h=>by cases h),fun _=>⟨k,bb⟩⟩⟩,by omega⟩
   by_cases p4:L[k].id=L[i].id
   rotate_left
   ·have nb:¬ beatsI L k i:=fun h=>by rcases bi'.1 h with h | ⟨_,h | h⟩; exact p1 h; exact p3 h; exact p4 h.1
    simp -implicitDefEqProofs[r5,r6,r8,i1,k1,i20,i22,k20,k22,p1,p2,p3,p4]
    unfold qeeZ
    simp -implicitDefEqProofs[r4',r5,r6,r8,r7,hwk,s4,s5,s6,-Int.natCast_add]
    exact⟨⟨k+1,by omega,rfl,⟨f,rfl,fun hft j hj=>keep nb j hj hft,ff⟩⟩,by omega⟩
   by_cases p5:k<i
   ·have bb:=bi'.2 (.inr ⟨p2,.inr ⟨p4,p5⟩⟩)
    have p5':(k:Int)<i:=by omega
    simp -implicitDefEqProofs[r5,r6,r8,i1,k1,i20,i22,k20,k22,p1,p2,p3,p4,p5]
    unfold qedZ
    simp -implicitDefEqProofs[r4',r5,r6,r8,r7,hwk,s4,s5,s6,-Int.natCast_add]
    exact⟨⟨k+1,by omega,rfl,⟨false,rfl,(fun h=>by cases h),fun _=>⟨k,bb⟩⟩⟩,by omega⟩
   ·have nb:¬ beatsI L k i:=fun h=>by rcases bi'.1 h with h | ⟨_,h | ⟨_,h⟩⟩; exact p1 h; exact p3 h; exact p5 h
    simp -implicitDefEqProofs[r5,r6,r8,i1,k1,i20,i22,k20,k22,p1,p2,p3,p4,p5]
    unfold qeeZ
    simp -implicitDefEqProofs[r4',r5,r6,r8,r7,hwk,s4,s5,s6,-Int.natCast_add]
    exact⟨⟨k+1,by omega,rfl,⟨f,rfl,fun hft j hj=>keep nb j hj hft,ff⟩⟩,by omega⟩
  ·have hke:k=L.length:=by omega
   unfold qntZ
   cases f with
   | false =>
    simp -implicitDefEqProofs[r7,r4',r5,r6,r8,hw,s4,s5,s6,-Int.natCast_add]
    refine⟨⟨i+1,by omega,rfl,fun j hj=>?_⟩,by omega⟩
    by_cases hji:j<i
    ·exact hb j hji
    ·have:j=i:=by omega
     subst this; exact ff rfl
   | true =>
    have hfi:∀ j,¬ beatsI L j i:=fun j hj=>by
     have h1:=hj
     obtain⟨h1,_⟩:=h1
     exact ft rfl j (by omega) hj
    have hp:=pres_first (l:=l) (now:=now) (i:=i) (by rw[hL]; exact hlt) (by rw[hL]; exact hfi)
    simp -implicitDefEqProofs only[hL] at hp
    have tg:tagg P qiZ=some (some 3):=by kernel_rfl
    simp -implicitDefEqProofs[r7]
    unfold qnsZ
    simp -implicitDefEqProofs[r4',r5,r6,i1,i21,i22,ly,bdPres,ld_at c1,cel_of c1,stm_at c1,stm_upd,ld_same,cel_same,over,tg]
    rw[hp] at hk
    exact hk _ (ext_upd n1 e4)
theorem entOf_at:∀ {b:Book} {u:ByteArray} {i:Nat} (hi:i<b.length),b[i].1=u→(∀ j (h:j<i),b[j].1≠u)→entOf b u=b[i].2
 | [],_,_,hi,_,_=>absurd hi (by simp)
 | (k,e)::r,u,0,_,h,_=>by show (if k=u then e else entOf r u)=e; exact if_pos h
 | (k,e)::r,u,i+1,hi,h,hn=>by
  show (if k=u then e else entOf r u)=_
  have h0:¬ k=u:=hn 0 (by omega)
  rw[if_neg h0]
  exact entOf_at (by simpa using hi) h fun j hj=>hn (j+1) (by omega)
theorem entOf_no:∀ {b:Book} {u:ByteArray},(∀ j (h:j<b.length),b[j].1≠u)→entOf b u=ent0
 | [],_,_=>rfl
 | (k,e)::r,u,hn=>by
  show (if k=u then e else entOf r u)=_
  have h0:¬ k=u:=hn 0 (by simp)
  rw[if_neg h0]
  exact entOf_no fun j hj=>hn (j+1) (by simpa using hj)
theorem zcUsr:zc P qhZ=some #[.string ⟨#[]⟩,.slice none 0 0,.int .i64 0,.int .i64 0,.int .i64 0]:=by kernel_rfl
theorem bdUsrN (k:ByteArray):bdV (binf P qhZ) [(0,.string k)]=some (.agg #[.string k,.slice none 0 0,.int .i64 0,.int .i64 0,.int .i64 0]):=by kernel_rfl
theorem bin_eqlS (t:Nat)(c:Bool)(a b:ByteArray):binV .eql t c (.string a) (.string b)=some (.bool (decide (a=b))):=by
 simp -implicitDefEqProofs only[binV,strV]
 by_cases h:a=b
 ·subst h; simp
 ·have:¬ a.toList=b.toList:=fun e=>h (str_inj e)
  simp -implicitDefEqProofs[h,this]
theorem rfind_ok (b:Book)(u:ByteArray){h:Heap}{v:Value}(x:Sl 5 UsrR h v b)(hl:b.length<1000000)
  (hk:∀ h' sv,Ext h h'→Sl 4 SessR h sv (entOf b u).ss→K (.agg (.string u::sv::presC (entOf b u).told).toArray) h'):callM P qdXZ #[v,.string u] h K:=by
 apply qsBZ
 unfold qiEZ
 have lx:=x.len
 have tg:tagg P qhZ=some (some 5):=by kernel_rfl
 rw[zcUsr]
 refine nw_agg fun v1 h1 n1 e1 c1=>?_
 rw[seqM_eq]
 unfold qlUZ
 refine loop_on [0,1,4] (fun s h'=>h'=h1∧∃ i:Nat,i≤b.length∧s 5 = .int .i64 i∧∀ j (hj:j<b.length),j<i→b[j].1≠u) (fun s _=>(b.length-num (s 5)).toNat) ⟨rfl,0,by omega,by simp,fun j _ hj=>by omega⟩ ?_
 rintro s h2 hf ⟨rfl,i,hi,s5,hn⟩
 have s0:s 0=v:=by simpa using hf 0 (by simp)
 have s1:s 1 = .string u:=by simpa using hf 1 (by simp)
 have s4:s 4=ptr v1:=by simpa using hf 4 (by simp)
 unfold qlTZ
 simp -implicitDefEqProofs[s0,s5,lx]
 refine⟨fun hc=>?_,fun hc=>?_⟩
 ·have hlt:i<b.length:=by omega
  have hw:IntKind.i64.wrap ((i:Int)+1)=(i+1:Nat):=by rw[wrap64_id (by omega) (by omega)]; omega
  obtain⟨ub,up,uc,a1,a2,a3⟩:=x.at (k:=.i64) (i:=i) (by omega) (by omega)
  simp -implicitDefEqProofs only[Int.toNat_natCast] at a3
  obtain⟨sv,rfl,hs⟩:=a3
  have hcs:=cels_ext e1 a2
  have q0:cel h2 ub up=some (.string b[i].1):=(cels_get hcs).2 0 (by simp[presC])
  unfold qlSZ
  have bn:binV .eql 3 false (.string b[i].1) (.string u)=some (.bool (decide (b[i].1=u))):=bin_eqlS _ _ _ _
  by_cases hb:b[i].1=u
  ·have he:=entOf_at hlt hb fun j hj=>hn j (by omega) hj
   have bn:binV .eql 3 false (.string b[i].1) (.string u)=some (.bool true):=by rw[bn,decide_eq_true hb]
   simp -implicitDefEqProofs[s0,s1,s5,a1,q0,bn]
   unfold qlQZ
   have ho:=hs.one
   simp -implicitDefEqProofs[s0,s4,s5,a1,ldV_n hcs]
   rw[stm_at (n:=5) c1 (by simp[presC]) (by simp) (by simp[presC,ho.1])]
   rw[he] at hk
   have:=hk _ sv (ext_upd (o:=.cells (over #[.string ⟨#[]⟩,.slice none 0 0,.int .i64 0,.int .i64 0,.int .i64 0] 0 (Value.agg (Value.string b[i].1::sv::presC b[i].2.told).toArray).cells.toList) qhZ (0,0)) n1 e1) hs
   simp -implicitDefEqProofs[s4,tg,stm_upd,ld_same,cel_same,over,presC]
   simp -implicitDefEqProofs only[← hb,presC] at this
   simpa [over] using this
  ·have bn:binV .eql 3 false (.string b[i].1) (.string u)=some (.bool false):=by rw[bn,decide_eq_false hb]
   simp -implicitDefEqProofs[s0,s1,s5,a1,q0,bn]
   unfold qlRZ
   simp -implicitDefEqProofs[s0,s1,s4,s5,hw,-Int.natCast_add]
   refine⟨⟨i+1,by omega,rfl,fun j hj hji=>?_⟩,by omega⟩
   by_cases hjj:j<i
   ·exact hn j hj hjj
   ·have:j=i:=by omega
    subst this; exact hb
 ·have he:=entOf_no (b:=b) (u:=u) fun j hj=>hn j hj (by omega)
  unfold qlVZ
  simp -implicitDefEqProofs[s1,s4,bdUsrN,ld_at c1,cel_of c1,stm_at c1,stm_upd,ld_same,cel_same,over,tg]
  rw[he] at hk
  have:=hk (upd h2 v1 (.cells #[.string u,.slice none 0 0,.int .i64 0,.int .i64 0,.int .i64 0] qhZ (0,0))) (.slice none 0 0) (ext_upd n1 e1) (.inl ⟨rfl,_,_,rfl⟩)
  exact this
end Go.Proofs.YtmbningljbcpkaaGreat
namespace Go.Proofs.YtmbningljbcpkaaGreat
open Go Go.Den Go.MapKept
set_option linter.unusedSimpArgs false
set_option linter.unusedVariables false
set_option maxRecDepth 20000
theorem rf_sessT {T:Tags}{h0 h:Heap}{v:Value}{l:List Sess}(r:Rf 4 qcZ h0 h v l.length (l.flatMap sessC))(w:Wf T h0):Sl 4 SessR (fz T h) v l:=by
 rw[← map_flat] at r
 exact r.sl w rfl (El.enc (enc:=sessC) (fun _=>rfl) (fun y=>by simp[sessC]) fun h y=>rfl)
variable {K:KTy}
theorem rhas_ok (l:List Sess)(id:Int){h:Heap}{v:Value}(x:Sl 4 SessR h v l)(hl:l.length<1000000)(hk:K (.bool (hasI l id)) h):callM P qcmZ #[v,.int .i64 id] h K:=by
 apply qtpZ
 unfold qjvZ
 have lx:=x.len
 rw[seqM_eq]
 unfold qnrZ
 refine loop_on [0,1,4] (fun s h'=>h'=h∧∃ i:Nat,i≤l.length∧s 5 = .int .i64 i∧∀ j (hj:j<l.length),j<i→l[j].id≠id) (fun s _=>(l.length-num (s 5)).toNat) ⟨rfl,0,by omega,by simp,fun j _ hj=>by omega⟩ ?_
 rintro s h1 hf ⟨rfl,i,hi,s5,hn⟩
 have s0:s 0=v:=by simpa using hf 0 (by simp)
 have s1:s 1 = .int .i64 id:=by simpa using hf 1 (by simp)
 have s4:s 4 = .bool false:=by simpa using hf 4 (by simp)
 unfold qnqZ
 simp -implicitDefEqProofs[s0,s5,lx]
 refine⟨fun hc=>?_,fun hc=>?_⟩
 rotate_left
 ·have e:hasI l id=false:=by
   rw[Bool.eq_false_iff]
   intro h
   obtain⟨y,hy,h2⟩:=hasI_iff.1 h
   obtain⟨j,hj,rfl⟩:=List.getElem_of_mem hy
   exact hn j hj (by omega) h2
  rw[e] at hk
  exact hk
 ·have hlt:i<l.length:=by omega
  have hw:IntKind.i64.wrap ((i:Int)+1)=(i+1:Nat):=by rw[wrap64_id (by omega) (by omega)]; omega
  obtain⟨b,p,i1,i2⟩:=sess_ld x hlt (k:=.i64)
  have q0:cel h1 b p=some (.int .i64 l[i].id):=(cels_get (i2 _ (Ext.refl _))).2 0 (by simp[sessC])
  unfold qnpZ
  simp -implicitDefEqProofs[s0,s1,s5,i1,q0]
  refine⟨fun he=>?_,fun he=>?_⟩
  ·have e:hasI l id=true:=hasI_iff.2 ⟨l[i],List.getElem_mem hlt,he⟩
   rw[e] at hk
   unfold qnnZ
   simp -implicitDefEqProofs
   exact hk
  ·unfold qnoZ
   simp -implicitDefEqProofs[s0,s1,s4,s5,hw,-Int.natCast_add]
   refine⟨⟨i+1,by omega,rfl,fun j hj hji=>?_⟩,by omega⟩
   by_cases hjj:j<i
   ·exact hn j hj hjj
   ·have:j=i:=by omega
    subst this; exact he
theorem delS_snoc (l:List Sess)(s:Sess)(id:Int):delS (l++[s]) id=if s.id=id then delS l id else delS l id++[s]:=by
 unfold delS
 rw[List.filter_append]
 by_cases h:s.id=id
 ·rw[if_pos h,List.filter_cons_of_neg (by simp[h])]; simp
 ·rw[if_neg h,List.filter_cons_of_pos (by simp[h])]; rfl
theorem rclear_ok (l:List Sess)(id:Int){h:Heap}{v:Value}(x:Sl 4 SessR h v l)(hl:l.length<1000000)
  (hk:∀ h' v',Rf 4 qcZ h h' v' (delS l id).length ((delS l id).flatMap sessC)→K v' h'):callM P qduZ #[v,.int .i64 id] h K:=by
 apply qrVZ
 unfold qhyZ
 have lx:=x.len
 rw[seqM_eq]
 unfold qlnZ
 refine loop_on [0,1] (fun s h'=>∃ i:Nat,i≤l.length∧s 6 = .int .i64 i∧Rf 4 qcZ h h' (s 5) (delS (l.take i) id).length ((delS (l.take i) id).flatMap sessC)) (fun s _=>(l.length-num (s 6)).toNat) ⟨0,by omega,by simp,by simpa [delS] using Rf.nil (Ext.refl _)⟩ ?_
 rintro s h1 hf ⟨i,hi,s6,r⟩
 have s0:s 0=v:=by simpa using hf 0 (by simp)
 have s1:s 1 = .int .i64 id:=by simpa using hf 1 (by simp)
 unfold qlmZ
 simp -implicitDefEqProofs[s0,s6,lx]
 refine⟨fun hc=>?_,fun hc=>?_⟩
 rotate_left
 ·have hie:i=l.length:=by omega
  subst hie
  rw[List.take_of_length_le (Nat.le_refl _)] at r
  exact hk _ _ r
 ·have hlt:i<l.length:=by omega
  have hw:IntKind.i64.wrap ((i:Int)+1)=(i+1:Nat):=by rw[wrap64_id (by omega) (by omega)]; omega
  obtain⟨b,p,i1,i2⟩:=sess_ld x hlt (k:=.i64)
  have i2:=i2 h1 r.ex
  have q0:cel h1 b p=some (.int .i64 l[i].id):=(cels_get i2).2 0 (by simp[sessC])
  have ps:=delS_snoc (l.take i) l[i] id
  rw[← List.take_succ_eq_append_getElem hlt] at ps
  have hlen:(delS (l.take i) id).length≤l.length:=by unfold delS; have:=List.length_filter_le (fun s=>!decide (s.id=id)) (l.take i); simp at this ⊢; omega
  unfold qllZ
  rw[seqM_eq]
  unfold qlkZ
  simp -implicitDefEqProofs[s0,s1,s6,i1,q0]
  refine⟨fun hc2=>?_,fun hc2=>?_⟩
  ·rw[if_neg hc2] at ps
   unfold qljZ
   simp -implicitDefEqProofs[s0,s6,i1,ldV_n i2]
   refine bs_one bsSs (by simp[sessC]) (by simp[sessC]) fun b2 h2 n2 e2 c2=>?_
   refine Rf.app2 (m:=1) (news:=sessC l[i]) unSlSs apSs (by omega) (r.ext e2) (.inr ⟨b2,0,1,rfl,cels_one c2 (by simp[sessC])⟩) (by simp[sessC]) (by unfold maxLen; omega) (by omega) fun v' h3 r3 hkp hrow=>?_
   unfold qliZ
   simp -implicitDefEqProofs[s0,s1,s6,hw,-Int.natCast_add]
   refine⟨⟨i+1,by omega,rfl,?_⟩,by omega⟩
   rw[ps]
   simpa using r3
  ·rw[if_pos hc2] at ps
   simp -implicitDefEqProofs[s0,s1,s6,hw,-Int.natCast_add]
   exact⟨⟨i+1,by omega,rfl,by rw[ps]; exact r⟩,by omega⟩
theorem zcSs:zc P qcZ=some #[.int .i64 0,.int .i64 0,.int .i64 0,.int .u64 0]:=by kernel_rfl
set_option maxHeartbeats 1000000 in
theorem rbeat_ok (l:List Sess)(id un:Int){T:Tags}{h:Heap}{v:Value}(w:Wf T h)(x:Sl 4 SessR (fz T h) v l)(hl:l.length<1000000)
  (hk:∀ h' v',Ext h h'→Sl 4 SessR (fz T h') v' (beatS l id un).1→K (.tuple #[v',.int .i64 (beatS l id un).2]) h'):callM P qhhZ #[v,.int .i64 id,.int .u64 un] h K:=by
 apply qsCZ
 unfold qiFZ
 have lx:=x.len
 rw[beat_eq] at hk
 refine rhas_ok l id (x.ext (@SessR.ext) (fz_ext _ _)) hl ?_
 unfold qmhZ
 cases hh:hasI l id with
 | false =>
  rw[hh] at hk
  simp -implicitDefEqProofs only[Bool.false_eq_true,if_false] at hk
  simp -implicitDefEqProofs
  exact hk h v (Ext.refl _) x
 | true =>
 rw[hh] at hk
 simp -implicitDefEqProofs only[if_true] at hk
 simp -implicitDefEqProofs
 unfold qmgZ
 rw[seqM_eq]
 unfold qmfZ
 refine loop_on [0,1,2,7] (fun s h'=>∃ i:Nat,i≤l.length∧s 9 = .int .i64 i∧Rf 4 qcZ h h' (s 8) i (((l.take i).map (beat1 id un)).flatMap sessC)) (fun s _=>(l.length-num (s 9)).toNat) ⟨0,by omega,by simp,by simpa using Rf.nil (Ext.refl _)⟩ ?_
 rintro s h1 hf ⟨i,hi,s9,r⟩
 have s0:s 0=v:=by simpa using hf 0 (by simp)
 have s1:s 1 = .int .i64 id:=by simpa using hf 1 (by simp)
 have s2:s 2 = .int .u64 un:=by simpa using hf 2 (by simp)
 have s7:s 7 = .int .i64 0:=by simpa using hf 7 (by simp)
 unfold qmeZ
 simp -implicitDefEqProofs[s0,s9,lx]
 refine⟨fun hc=>?_,fun hc=>?_⟩
 rotate_left
 ·have hie:i=l.length:=by omega
  subst hie
  rw[List.take_of_length_le (Nat.le_refl _)] at r
  have r':Rf 4 qcZ h h1 (s 8) (l.map (beat1 id un)).length ((l.map (beat1 id un)).flatMap sessC):=by simpa using r
  exact hk h1 (s 8) r.ex (rf_sessT r' w)
 ·have hlt:i<l.length:=by omega
  have hw:IntKind.i64.wrap ((i:Int)+1)=(i+1:Nat):=by rw[wrap64_id (by omega) (by omega)]; omega
  obtain⟨b,p,i1,i2⟩:=sess_ld x hlt (k:=.i64)
  have i2:=i2 h1 ((fz_ext _ _).trans r.ex)
  have hfl:((l.take (i+1)).map (beat1 id un)).flatMap sessC=((l.take i).map (beat1 id un)).flatMap sessC++sessC (beat1 id un l[i]):=by
   rw[List.take_succ_eq_append_getElem hlt,List.map_append,List.flatMap_append]; simp
  unfold qmdZ
  rw[seqM_eq]
  unfold qmcZ
  rw[zcSs]
  simp -implicitDefEqProofs only[s0,s9,i1,ldV_n i2,ov_s]
  refine nw_st rfl (by simp[sessC]) (by simp[sessC]) fun bx h2 n2 e2 c2=>?_
  simp -implicitDefEqProofs only[cells_agg,sessC] at c2
  have q0:cel h2 bx 0=some (.int .i64 l[i].id):=by simp[cel_of c2]
  have q3:cel h2 bx 3=some (.int .u64 l[i].un):=by simp[cel_of c2]
  rw[seqM_eq]
  -- behind the change
  have fin:∀ (h3:Heap) (s':Env),(∀ b o,h1 b=some o→h3 b=some o)→h3 bx=some (.cells (sessC (beat1 id un l[i])).toArray qcZ (0,0))→s' 0=v→s' 1 = .int .i64 id→s' 2 = .int .u64 un→s' 7 = .int .i64 0→s' 8=s 8→s' 9 = .int .i64 i→s' 10=ptr bx→∀ {Q:Post},(∀ h' s'' (v':Value),Rf 4 qcZ h h' (s'' 8) (i+1) (((l.take (i+1)).map (beat1 id un)).flatMap sessC)→s'' 0=v→s'' 1 = .int .i64 id→s'' 2 = .int .u64 un→s'' 7 = .int .i64 0→s'' 9 = .int .i64 i→Q .normal [] s'' h')→qfdZ s' h3 Q []:=by
   intro h3 s' e3 c3 t0 t1 t2 t7 t8 t9 t10 Q hQ
   unfold qfdZ
   have ol:ldV (some (some 4)) (ptr bx) h3=some (.agg (sessC (beat1 id un l[i])).toArray):=by simp[ld_at c3,sessC]
   simp -implicitDefEqProofs[t10,t8,ol]
   refine bs_one bsSs (by simp[sessC]) (by omega) fun b2 h4 n4 e4 c4=>?_
   refine Rf.app2 (m:=1) (news:=sessC (beat1 id un l[i])) unSlSs apSs (by omega) ((r.ext e3).ext e4) (.inr ⟨b2,0,1,rfl,cels_one c4 (by simp[sessC])⟩) (by simp[sessC]) (by unfold maxLen; omega) (by omega) fun v' h5 r5 hkp hrow=>?_
   rw[← hfl] at r5
   refine hQ _ _ v' ?_ (by simpa using t0) (by simpa using t1) (by simpa using t2) (by simpa using t7) (by simpa using t9)
   simpa using r5
  unfold qmbZ
  have hb1:beat1 id un l[i]=if l[i].id=id∧l[i].un<un then { l[i] with un:=un } else l[i]:=rfl
  by_cases ci:l[i].id=id
  ·by_cases cu:l[i].un<un
   ·simp -implicitDefEqProofs[s1,s2,q0,q3,ci,cu]
    unfold qmaZ
    simp -implicitDefEqProofs only[s2]
    rw[if_pos ⟨ci,cu⟩] at hb1
    simp -implicitDefEqProofs[ld_at c2,cel_of c2,stm_at c2,stm_upd,ld_same,cel_same,over]
    refine fin _ _ ?_ ?_ (by simpa using s0) (by simpa using s1) (by simpa using s2) (by simpa using s7) (by simp) (by simpa using s9) (by simp) fun h' s'' v' r' t0 t1 t2 t7 t9=>?_
    ·intro j o ho
     have hne:j≠bx:=fun e=>by subst e; rw[n2] at ho; cases ho
     rw[upd_ne hne]; exact e2 _ _ ho
    ·rw[upd_same',hb1]; simp[sessC]
    ·simp -implicitDefEqProofs[t0,t1,t2,t7,t9,s0,s1,s2,s7,s9,hw,-Int.natCast_add]
     exact⟨⟨i+1,by omega,rfl,by rw[← List.map_take]; exact r'⟩,by omega⟩
   ·simp -implicitDefEqProofs[s1,s2,q0,q3,ci,cu]
    unfold qfHZ
    simp -implicitDefEqProofs
    rw[if_neg (by omega)] at hb1
    refine fin _ _ (fun j o ho=>e2 _ _ ho) (by rw[hb1]; exact c2) (by simpa using s0) (by simpa using s1) (by simpa using s2) (by simpa using s7) (by simp) (by simpa using s9) (by simp) fun h' s'' v' r' t0 t1 t2 t7 t9=>?_
    simp -implicitDefEqProofs[t0,t1,t2,t7,t9,s0,s1,s2,s7,s9,hw,-Int.natCast_add]
    exact⟨⟨i+1,by omega,rfl,by rw[← List.map_take]; exact r'⟩,by omega⟩
  ·simp -implicitDefEqProofs[s1,s2,q0,q3,ci]
   unfold qfHZ
   simp -implicitDefEqProofs
   rw[if_neg (fun h=>ci h.1)] at hb1
   refine fin _ _ (fun j o ho=>e2 _ _ ho) (by rw[hb1]; exact c2) (by simpa using s0) (by simpa using s1) (by simpa using s2) (by simpa using s7) (by simp) (by simpa using s9) (by simp) fun h' s'' v' r' t0 t1 t2 t7 t9=>?_
   simp -implicitDefEqProofs[t0,t1,t2,t7,t9,s0,s1,s2,s7,s9,hw,-Int.natCast_add]
   exact⟨⟨i+1,by omega,rfl,by rw[← List.map_take]; exact r'⟩,by omega⟩
theorem insS_pre {s:Sess}:∀ {l:List Sess} {i:Nat},(∀ j (h:j<l.length),j<i→¬ s.id<l[j].id)→insS l s=l.take i++insS (l.drop i) s
 | _,0,_=>by simp
 | [],i+1,_=>by simp
 | x::r,i+1,h=>by
  have h0:¬ s.id<x.id:=h 0 (by simp) (by omega)
  show (if s.id<x.id then s::x::r else x::insS r s)=_
  rw[if_neg h0,insS_pre (l:=r) (i:=i) fun j hj hji=>h (j+1) (by simpa using hj) (by omega)]
  simp -implicitDefEqProofs
def InsI (s:Sess)(l:List Sess)(i:Nat)(f:Bool)(out:List Sess):Prop:=(f=false→out=l.take i∧∀ j (h:j<l.length),j<i→¬ s.id<l[j].id)∧(f=true→out++l.drop i=insS l s∧out.length=i+1)
theorem InsI.step0 {s:Sess}{l:List Sess}{i:Nat}{out:List Sess}(x:InsI s l i false out)(hi:i<l.length)(h:¬ s.id<l[i].id):InsI s l (i+1) false (out++[l[i]]):=by
 obtain⟨h1,h2⟩:=x.1 rfl
 refine⟨fun _=>⟨by rw[h1,List.take_succ_eq_append_getElem hi],fun j hj hji=>?_⟩,fun h=>by cases h⟩
 by_cases hjj:j<i
 ·exact h2 j hj hjj
 ·have:j=i:=by omega
  subst this; exact h
theorem InsI.step1 {s:Sess}{l:List Sess}{i:Nat}{out:List Sess}(x:InsI s l i false out)(hi:i<l.length)(h:s.id<l[i].id):InsI s l (i+1) true ((out++[s])++[l[i]]):=by
 obtain⟨h1,h2⟩:=x.1 rfl
 refine⟨fun h=>(by cases h),fun _=>⟨?_,?_⟩⟩
 ·rw[insS_pre h2,List.drop_eq_getElem_cons hi]
  show _=l.take i++(if s.id<l[i].id then s::l[i]::l.drop (i+1) else _)
  rw[if_pos h,h1]; simp
 ·rw[h1]; simp; omega
theorem InsI.step2 {s:Sess}{l:List Sess}{i:Nat}{out:List Sess}(x:InsI s l i true out)(hi:i<l.length):InsI s l (i+1) true (out++[l[i]]):=by
 obtain⟨h1,h2⟩:=x.2 rfl
 refine⟨fun h=>(by cases h),fun _=>⟨?_,by simp[h2]⟩⟩
 rw[← h1,List.drop_eq_getElem_cons hi]; simp
theorem InsI.fin0 {s:Sess}{l:List Sess}{out:List Sess}(x:InsI s l l.length false out):out++[s]=insS l s:=by
 obtain⟨h1,h2⟩:=x.1 rfl
 rw[insS_pre h2,h1]; simp[insS]
theorem InsI.fin1 {s:Sess}{l:List Sess}{out:List Sess}(x:InsI s l l.length true out):out=insS l s:=by
 have:=(x.2 rfl).1
 simpa using this
theorem InsI.len {s:Sess}{l:List Sess}{i:Nat}{f:Bool}{out:List Sess}(x:InsI s l i f out)(hi:i≤l.length):out.length≤i+1:=by
 cases f with
 | false=>have:=(x.1 rfl).1; rw[this]; simp; omega
 | true=>have:=(x.2 rfl).2; omega
end Go.Proofs.YtmbningljbcpkaaGreat
namespace Go.Proofs.YtmbningljbcpkaaGreat
open Go Go.Den Go.MapKept
set_option linter.unusedSimpArgs false
set_option linter.unusedVariables false
set_option maxRecDepth 20000
structure SetE (l:List Sess)(s:Sess)(h0:Heap)(v1:Nat)(v25:Value)(i:Nat)(e:Env)(h':Heap):Prop where
 e4:e 4=ptr v1
 e10:e 10=v25
 e11:e 11 = .int .i64 i
 r:∃ (f:Bool) (out:List Sess),e 9 = .bool f∧InsI s l i f out∧Rf 4 qcZ h0 h' (e 8) out.length (out.flatMap sessC)
variable {K:KTy}
set_option maxHeartbeats 4000000 in
theorem rset_ok (l:List Sess)(so:SrtI l)(s:Sess)(most:Int){T:Tags}{h:Heap}{v:Value}(w:Wf T h)(x:Sl 4 SessR (fz T h) v l)(hl:l.length<100000)
  (hk:∀ h' v',Ext h h'→Sl 4 SessR (fz T h') v' (setS l s most).1→K (.tuple #[v',.int .i64 (setS l s most).2]) h'):callM P qipZ #[v,.agg (sessC s).toArray,.int .i64 most] h K:=by
 apply qtoZ
 unfold qjuZ
 have lx:=x.len
 refine nw_agg fun v1 h1 n1 e1 c1=>?_
 have c1':=c1
 simp -implicitDefEqProofs only[sessC] at c1'
 have q0:cel h1 v1 0=some (.int .i64 s.id):=by simp[cel_of c1']
 simp -implicitDefEqProofs[q0]
 have xh:∀ h',Ext h h'→Sl 4 SessR h' v l:=fun h' e=>x.ext (@SessR.ext) ((fz_ext _ _).trans e)
 refine rhas_ok l s.id (xh _ e1) (by omega) ?_
 unfold qnmZ
 have full:hasI l s.id=false→most≤l.length→K (.tuple #[v,.int .i64 2]) h1:=fun h2 h3=>by
  have e:setS l s most=(l,2):=by unfold setS; rw[if_pos ⟨h2,h3⟩]
  rw[e] at hk
  exact hk h1 v e1 (x.ext (@SessR.ext) (fz_of_ext e1))
 have go:setS l s most=(putS l s,0)→∀ (a b c d e f g i j:Value),qhxZ (ptr v1) h1 v (.agg (sessC s).toArray) (.int .i64 most) a b c d e f g i j K:=by
  intro hset a b c d e f g i j
  rw[hset] at hk
  unfold qhxZ
  simp -implicitDefEqProofs[q0]
  refine rclear_ok l s.id (xh _ e1) (by omega) fun h2 v25 r2=>?_
  have e2:Ext h h2:=e1.trans r2.ex
  obtain⟨L,hL⟩:∃ L,delS l s.id=L:=⟨_,rfl⟩
  have hput:insS L s=putS l s:=by rw[← hL]; exact ins_del so
  have hLl:L.length≤l.length:=by rw[← hL]; unfold delS; exact List.length_filter_le _ _
  rw[hL] at r2
  have y2:=rf_sess r2
  have ly:=y2.len
  have c2:=r2.ex _ _ c1
  unfold qnlZ
  rw[seqM_eq]
  unfold qnkZ
  refine loop_on [4,7,10] (fun e h'=>∃ i:Nat,i≤L.length∧SetE L s h2 v1 v25 i e h') (fun e _=>(L.length-num (e 11)).toNat) ⟨0,by omega,⟨by simp,by simp,by simp,false,[],by simp,⟨fun _=>⟨by simp,fun j _ hj=>by omega⟩,fun h=>by cases h⟩,by simpa using Rf.nil (Ext.refl _)⟩⟩ ?_
  rintro e h3 hf ⟨i,hi,⟨t4,t10,t11,fl,out,t9,I,r3⟩⟩
  have t7:e 7 = .int .i64 0:=by simpa using hf 7 (by simp)
  have ho:=I.len hi
  have e3:Ext h h3:=e2.trans r3.ex
  have c3:=r3.ex _ _ c2
  have c3':=c3
  simp -implicitDefEqProofs only[sessC] at c3'
  have p0:cel h3 v1 0=some (.int .i64 s.id):=by simp[cel_of c3']
  have pl:ldV (some (some 4)) (ptr v1) h3=some (.agg (sessC s).toArray):=by simp[ld_at c3',sessC]
  unfold qnjZ
  simp -implicitDefEqProofs[t10,t11,ly]
  refine⟨fun hc=>?_,fun hc=>?_⟩
  ·have hlt:i<L.length:=by omega
   have hw:IntKind.i64.wrap ((i:Int)+1)=(i+1:Nat):=by rw[wrap64_id (by omega) (by omega)]; omega
   obtain⟨b',p',i1,i2⟩:=sess_ld y2 hlt (k:=.i64)
   have i20:cel h3 b' p'=some (.int .i64 L[i].id):=(cels_get (i2 h3 r3.ex)).2 0 (by simp[sessC])
   unfold qniZ
   rw[seqM_eq]
   unfold qnhZ
   rw[seqM_eq]
   -- the session itself is put behind
   have fin:∀ (h4:Heap) (e':Env) (fl':Bool) (out':List Sess),e' 4=ptr v1→e' 7 = .int .i64 0→e' 9 = .bool fl'→e' 10=v25→e' 11 = .int .i64 i→Rf 4 qcZ h2 h4 (e' 8) out'.length (out'.flatMap sessC)→out'.length≤i+2→InsI s L (i+1) fl' (out'++[L[i]])→∀ {Q:Post},(∀ h5 e5,e5 4=ptr v1→e5 7 = .int .i64 0→e5 9 = .bool fl'→e5 10=v25→e5 11 = .int .i64 i→Rf 4 qcZ h2 h5 (e5 8) (out'++[L[i]]).length ((out'++[L[i]]).flatMap sessC)→Q .normal [] e5 h5)→qfGZ e' h4 Q []:=by
    intro h4 e' fl' out' u4 u7 u9 u10 u11 r4 hlo I' Q hQ
    have i2':=i2 h4 r4.ex
    unfold qfGZ
    simp -implicitDefEqProofs[u10,u11,i1,ldV_n i2']
    refine bs_one bsSs (by simp[sessC]) (by omega) fun b2 h5 n5 e5 c5=>?_
    refine Rf.app2 (m:=1) (news:=sessC L[i]) unSlSs apSs (by omega) (r4.ext e5) (.inr ⟨b2,0,1,rfl,cels_one c5 (by simp[sessC])⟩) (by simp[sessC]) (by unfold maxLen; omega) (by omega) fun v' h6 r6 hkp hrow=>?_
    refine hQ _ _ (by simpa using u4) (by simpa using u7) (by simpa using u9) (by simpa using u10) (by simpa using u11) ?_
    simpa using r6
   have e4:e 4=ptr v1:=t4
   unfold qngZ
   cases fl with
   | true =>
    simp -implicitDefEqProofs[t9]
    unfold qfFZ
    simp -implicitDefEqProofs
    refine fin _ _ true out (by simpa using t4) (by simpa using t7) (by simpa using t9) (by simpa using t10) (by simpa using t11) (by simpa using r3) (by omega) (I.step2 hlt) fun h5 e5 w4 w7 w9 w10 w11 r5=>?_
    simp -implicitDefEqProofs[w4,w7,w9,w10,w11,t4,t7,t10,t11,hw,-Int.natCast_add]
    exact⟨⟨i+1,by omega,⟨by simp[w4],by simp[w10],by simp,true,out++[L[i]],by simp[w9],I.step2 hlt,by simpa using r5⟩⟩,by omega⟩
   | false =>
    simp -implicitDefEqProofs[t9,t4,t10,t11,i1,i20,p0]
    refine⟨fun hlt2=>?_,fun hlt2=>?_⟩
    ·unfold qnfZ
     simp -implicitDefEqProofs[t4,pl]
     refine bs_one bsSs (by simp[sessC]) (by omega) fun b2 h5 n5 e5 c5=>?_
     refine Rf.app2 (m:=1) (news:=sessC s) unSlSs apSs (by omega) (r3.ext e5) (.inr ⟨b2,0,1,rfl,cels_one c5 (by simp[sessC])⟩) (by simp[sessC]) (by unfold maxLen; omega) (by omega) fun v' h6 r6 hkp hrow=>?_
     unfold qlWZ
     simp -implicitDefEqProofs
     refine fin _ _ true (out++[s]) (by simpa using t4) (by simpa using t7) (by simp) (by simpa using t10) (by simpa using t11) (by simpa using r6) (by simp; omega) (I.step1 hlt hlt2) fun h5 e5 w4 w7 w9 w10 w11 r5=>?_
     simp -implicitDefEqProofs[w4,w7,w9,w10,w11,t4,t7,t10,t11,hw,-Int.natCast_add]
     exact⟨⟨i+1,by omega,⟨by simp[w4],by simp[w10],by simp,true,(out++[s])++[L[i]],by simp[w9],I.step1 hlt hlt2,by simpa using r5⟩⟩,by omega⟩
    ·unfold qfFZ
     simp -implicitDefEqProofs
     refine fin _ _ false out (by simpa using t4) (by simpa using t7) (by simpa using t9) (by simpa using t10) (by simpa using t11) (by simpa using r3) (by omega) (I.step0 hlt (by omega)) fun h5 e5 w4 w7 w9 w10 w11 r5=>?_
     simp -implicitDefEqProofs[w4,w7,w9,w10,w11,t4,t7,t10,t11,hw,-Int.natCast_add]
     exact⟨⟨i+1,by omega,⟨by simp[w4],by simp[w10],by simp,false,out++[L[i]],by simp[w9],I.step0 hlt (by omega),by simpa using r5⟩⟩,by omega⟩
  ·have hie:i=L.length:=by omega
   subst hie
   unfold qlZZ
   rw[seqM_eq]
   unfold qlYZ
   cases fl with
   | true =>
    have ho':=I.fin1.trans hput
    subst ho'
    simp -implicitDefEqProofs[t9]
    exact hk _ _ e3 (rf_sessT (r3.back e2) w)
   | false =>
    have ho':=I.fin0.trans hput
    simp -implicitDefEqProofs[t9]
    unfold qlXZ
    simp -implicitDefEqProofs[t4,pl]
    refine bs_one bsSs (by simp[sessC]) (by omega) fun b2 h5 n5 e5 c5=>?_
    refine Rf.app2 (m:=1) (news:=sessC s) unSlSs apSs (by omega) (r3.ext e5) (.inr ⟨b2,0,1,rfl,cels_one c5 (by simp[sessC])⟩) (by simp[sessC]) (by unfold maxLen; omega) (by omega) fun v' h6 r6 hkp hrow=>?_
    have r6':Rf 4 qcZ h2 h6 v' (out++[s]).length ((out++[s]).flatMap sessC):=by simpa using r6
    rw[ho'] at r6'
    exact hk _ _ (e2.trans r6.ex) (rf_sessT (r6'.back e2) w)
 cases hh:hasI l s.id with
 | true =>
  simp -implicitDefEqProofs
  exact go (by unfold setS; rw[if_neg (by rw[hh]; simp)]) _ _ _ _ _ _ _ _ _
 | false =>
  simp -implicitDefEqProofs[lx]
  refine⟨fun hc=>full hh hc,fun hc=>?_⟩
  exact go (by unfold setS; rw[if_neg (by omega)]) _ _ _ _ _ _ _ _ _
end Go.Proofs.YtmbningljbcpkaaGreat
namespace Go.Proofs.YtmbningljbcpkaaGreat
open Go Go.Den Go.MapKept
set_option linter.unusedSimpArgs false
set_option linter.unusedVariables false
set_option maxRecDepth 20000
theorem bin_geqS (t:Nat)(c:Bool)(a b:ByteArray):binV .geq t c (.string a) (.string b)=some (.bool (!ltS a b)):=rfl
theorem becR_step (u:ByteArray)(e:Ent)(b:Book){i:Nat}(hi:i<b.length)(put:Bool):becR u e (b.drop i) put=(if !put && !ltS b[i].1 u then [(u,e)] else [])++((if b[i].1=u then [] else [b[i]])++becR u e (b.drop (i+1)) (put || !ltS b[i].1 u)):=by
 rw[List.drop_eq_getElem_cons hi]; rfl
theorem becR_len (u:ByteArray)(e:Ent):∀ (b:Book) (put:Bool),(becR u e b put).length≤b.length+1
 | [],true=>by simp[becR]
 | [],false=>by simp[becR]
 | x::r,true=>by
  rw[becR_put]; unfold delB; have:=List.length_filter_le (fun p:ByteArray × Ent=>!decide (p.1=u)) (x::r); simp at this ⊢; omega
 | x::r,false=>by
  unfold becR
  have h1:=becR_len u e r true
  have h2:=becR_len u e r false
  cases hl:ltS x.1 u with
  | true=>simp; split<;>simp<;>omega
  | false =>
   simp -implicitDefEqProofs
   rw[becR_put]
   have:(delB r u).length≤r.length:=by unfold delB; exact List.length_filter_le _ _
   split<;>simp<;>omega
theorem bsChg8:bsI P qRZ=some (qPZ,7,#[.string ⟨#[]⟩,.int .i64 0,.int .i64 0,.int .i64 0,.int .i64 0,.int .i64 0,.int .i64 0]):=by kernel_rfl
theorem bdChg8 (k:ByteArray)(a b c d e f:Int):bdV (binf P qPZ) [(0,.string k),(1,.agg #[.int .i64 a,.int .i64 b,.int .i64 c]),(2,.agg #[.int .i64 d,.int .i64 e,.int .i64 f])]=some (.agg #[.string k,.int .i64 a,.int .i64 b,.int .i64 c,.int .i64 d,.int .i64 e,.int .i64 f]):=by kernel_rfl
structure BecE (b:Book)(u:ByteArray)(ne:Ent)(R:Book)(T:Tags)(h0:Heap)(i:Nat)(s:Env)(h':Heap):Prop where
 i_:s 14 = .int .i64 i
 r:∃ (put:Bool) (out:Book) (L:List (List Value)),s 13 = .bool put∧out++becR u ne (b.drop i) put=R∧Rf 5 qhZ h0 h' (s 12) out.length L.flatten∧El 5 UsrR (fz T h0) L out
variable {K:KTy}
set_option maxHeartbeats 8000000 in
theorem rbecome_ok (b:Book)(so:SrtK (keysL b))(u:ByteArray)(ss:List Sess)(now:Int){T:Tags}{h:Heap}{v sv:Value}(w:Wf T h)(x:Sl 5 UsrR (fz T h) v b)(xs:Sl 4 SessR (fz T h) sv ss)(hl:b.length<100000)(hb:∀ y∈b,y.2.ss.length<1000000)(hss:ss.length<1000000)
  (hk:∀ h' v' cv,Ext h h'→Sl 5 UsrR (fz T h') v' (settleB b u ss now).1→Sl 7 ChgR (fz T h') cv (settleB b u ss now).2→K (.tuple #[v',cv]) h'):callM P qcNZ #[v,.string u,sv,.int .u64 now] h K:=by
 apply qrAZ
 unfold qfIZ
 have lx:=x.len
 have ls:=xs.len
 refine rfind_ok b u (x.ext (@UsrR.ext) (fz_ext _ _)) (by omega) fun h1 ov_ e1 hov=>?_
 have oo:=hov.one
 unfold qjZZ
 rw[zcUsr]
 refine nw_st rfl (by simp[presC]) (by simp[presC,oo.1]) fun bu h2 n2 e2 c2=>?_
 simp -implicitDefEqProofs only[cells_agg,presC] at c2
 have e02:=e1.trans e2
 refine rof_ok ss now (xs.ext (@SessR.ext) ((fz_ext _ _).trans e02)) hss fun h3 e3=>?_
 unfold qjYZ
 rw[zcPres]
 refine nw_st rfl (by simp[presC]) (by simp[presC]) fun bp h4 n4 e4 c4=>?_
 simp -implicitDefEqProofs only[cells_agg,presC] at c4
 have e24:=e3.trans e4
 have e04:=e02.trans e24
 have cu4:=e24 _ _ c2
 have h0:(decide ((ss.length:Int)=0))=decide (ss=[]):=decide_eq_decide.2 ⟨fun hh=>List.length_eq_zero_iff.1 (by omega),fun hh=>by rw[hh]; rfl⟩
 obtain⟨ne,hne⟩:∃ ne:Ent,ne=⟨ss,presOf ss now⟩:=⟨_,rfl⟩
 obtain⟨R,hR⟩:∃ R,becR u ne b (decide (ss=[]))=R:=⟨_,rfl⟩
 have hset:(settleB b u ss now).1=R:=by rw[settle_eq so,← hne]; exact hR
 have w4:Wf T h4:=w.ext e04
 have xF:Sl 5 UsrR (fz T h4) v b:=x.ext (@UsrR.ext) (fz_of_ext e04)
 have sF:Sl 4 SessR (fz T h4) sv ss:=xs.ext (@SessR.ext) (fz_of_ext e04)
 obtain⟨svb,svn,svc,rfl⟩:=Sl.slice' xs
 have hlR:R.length≤b.length+1:=by rw[← hR]; exact becR_len _ _ _ _
 simp -implicitDefEqProofs[ls]
 rw[seqM_eq]
 unfold qjXZ
 refine loop_on [0,1,2,9,10,11] (fun s h'=>∃ i:Nat,i≤b.length∧BecE b u ne R T h4 i s h') (fun s _=>(b.length-num (s 14)).toNat) ⟨0,by omega,⟨by simp,decide (ss=[]),[],[],by simp,by simpa using hR,by simpa using Rf.nil (Ext.refl _),El.nil⟩⟩ ?_
 rintro s h5 hf ⟨i,hi,⟨s14,put,out,L,s13,hout,r5,el5⟩⟩
 have s0:s 0=v:=by simpa using hf 0 (by simp)
 have s1:s 1 = .string u:=by simpa using hf 1 (by simp)
 have s2:s 2 = .slice svb svn svc:=by simpa using hf 2 (by simp)
 have s9:s 9 = .slice none 0 0:=by simpa using hf 9 (by simp)
 have s10:s 10=ptr bu:=by simpa using hf 10 (by simp)
 have s11:s 11=ptr bp:=by simpa using hf 11 (by simp)
 have hol:out.length≤R.length:=by rw[← hout]; simp
 have c5:=r5.ex _ _ c4
 have op:∀ h',h' bp=some (.cells #[.int .i64 (presOf ss now).st,.int .i64 (presOf ss now).pr,.int .i64 (presOf ss now).lv] qiZ (0,0))→ldV (some (some 3)) (ptr bp) h'=some (.agg #[.int .i64 (presOf ss now).st,.int .i64 (presOf ss now).pr,.int .i64 (presOf ss now).lv]):=fun h' hc=>by simp[ld_at hc]
 unfold qjWZ
 simp -implicitDefEqProofs[s0,s14,lx]
 refine⟨fun hc=>?_,fun hc=>?_⟩
 ·have hlt:i<b.length:=by omega
  have hw:IntKind.i64.wrap ((i:Int)+1)=(i+1:Nat):=by rw[wrap64_id (by omega) (by omega)]; omega
  unfold qjVZ
  rw[seqM_eq]
  unfold qjUZ
  rw[seqM_eq]
  have hstep:=becR_step u ne b hlt put
  obtain⟨ub,up,uc,a1,a2,a3⟩:=xF.at (k:=.i64) (i:=i) (by omega) (by omega)
  simp -implicitDefEqProofs only[Int.toNat_natCast] at a3
  obtain⟨bv,rfl,hbv⟩:=a3
  have bvo:=hbv.one
  have q0:∀ h',Ext h4 h'→cel h' ub up=some (.string b[i].1):=fun h' e=>(cels_get (cels_ext ((fz_ext _ _).trans e) a2)).2 0 (by simp[presC])
  have fin:∀ (h6:Heap) (e':Env) (put':Bool) (out':Book) (L':List (List Value)),e' 0=v→e' 1 = .string u→e' 2 = .slice svb svn svc→e' 9 = .slice none 0 0→e' 10=ptr bu→e' 11=ptr bp→e' 13 = .bool put'→e' 14 = .int .i64 i→Rf 5 qhZ h4 h6 (e' 12) out'.length L'.flatten→El 5 UsrR (fz T h4) L' out'→out'.length≤200000→(out'++(if b[i].1=u then [] else [b[i]]))++becR u ne (b.drop (i+1)) put'=R →
    ∀ {Q:Post},(∀ h7 e'',e'' 0=v→e'' 1 = .string u→e'' 2 = .slice svb svn svc→e'' 9 = .slice none 0 0→e'' 10=ptr bu→e'' 11=ptr bp→e'' 14 = .int .i64 i→(∃ (put:Bool) (out:Book) (L:List (List Value)),e'' 13 = .bool put∧out++becR u ne (b.drop (i+1)) put=R∧Rf 5 qhZ h4 h7 (e'' 12) out.length L.flatten∧El 5 UsrR (fz T h4) L out)→Q .normal [] e'' h7)→qerZ e' h6 Q []:=by
   intro h6 e' put' out' L' u0 u1 u2 u9 u10 u11 u13 u14 r6 el6 hlo hR' Q hQ
   have q0':=q0 h6 r6.ex
   have bn:binV .neq 3 false (.string b[i].1) (.string u)=some (.bool (!decide (b[i].1=u))):=bin_neqS _ _ _ _
   unfold qerZ
   by_cases hu:b[i].1=u
   ·rw[if_pos hu] at hR'
    simp -implicitDefEqProofs[u0,u1,u14,a1,q0',bn,hu]
    refine hQ _ _ (by simpa using u0) (by simpa using u1) (by simpa using u2) (by simpa using u9) (by simpa using u10) (by simpa using u11) (by simpa using u14) ⟨put',out',L',by simpa using u13,by simpa using hR',by simpa using r6,el6⟩
   ·rw[if_neg hu] at hR'
    simp -implicitDefEqProofs[u0,u1,u14,a1,q0',bn,hu]
    unfold qjxZ
    simp -implicitDefEqProofs[u0,u14,a1,ldV_n (cels_ext ((fz_ext _ _).trans r6.ex) a2)]
    refine bs_one bsUsr (by simp[presC]) (by omega) fun b2 h7 n7 e7 c7=>?_
    refine Rf.app2 (m:=1) (news:=.string b[i].1::bv::presC b[i].2.told) unSlUsr apUsr (by omega) (r6.ext e7) (.inr ⟨b2,0,1,rfl,cels_one c7 (by simp[presC])⟩) (by simp[presC,bvo.1]) (by unfold maxLen; omega) (by omega) fun v' h8 r8 hkp hrow=>?_
    unfold qjwZ
    refine hQ _ _ (by simpa using u0) (by simpa using u1) (by simpa using u2) (by simpa using u9) (by simpa using u10) (by simpa using u11) (by simpa using u14) ⟨put',out'++[b[i]],L'++[.string b[i].1::bv::presC b[i].2.told],by simpa using u13,hR',?_,el6.app (El.sing (by simp[presC]) (by simp[presC,bvo.1]) ⟨bv,rfl,hbv⟩)⟩
    rw[List.flatten_append]; simpa using r8
  have noput:(put=true∨ltS b[i].1 u=true)→(out++(if b[i].1=u then [] else [b[i]]))++becR u ne (b.drop (i+1)) put=R:=fun hh=>by
   rw[← hout,hstep]
   rcases hh with hh | hh
   ·subst hh; simp
   ·rw[hh]; simp
  have q0':=q0 h5 r5.ex
  unfold qjTZ
  cases put with
  | true =>
   simp -implicitDefEqProofs[s13]
   unfold qeqZ
   simp -implicitDefEqProofs
   refine fin _ _ true out L (by simpa using s0) (by simpa using s1) (by simpa using s2) (by simpa using s9) (by simpa using s10) (by simpa using s11) (by simpa using s13) (by simpa using s14) (by simpa using r5) el5 (by omega) (noput (.inl rfl)) fun h7 e'' w0 w1 w2 w9 w10 w11 w14 w=>?_
   simp -implicitDefEqProofs[w0,w1,w2,w9,w10,w11,w14,s0,s1,s2,s9,s10,s11,s14,hw,-Int.natCast_add]
   exact⟨⟨i+1,by omega,⟨by simp,by simpa using w⟩⟩,by omega⟩
  | false =>
   simp -implicitDefEqProofs[s13,s0,s1,s14,a1,q0',bin_geqS]
   cases hlt2:ltS b[i].1 u with
   | true =>
    simp -implicitDefEqProofs
    unfold qeqZ
    simp -implicitDefEqProofs
    refine fin _ _ false out L (by simpa using s0) (by simpa using s1) (by simpa using s2) (by simpa using s9) (by simpa using s10) (by simpa using s11) (by simpa using s13) (by simpa using s14) (by simpa using r5) el5 (by omega) (noput (.inr hlt2)) fun h7 e'' w0 w1 w2 w9 w10 w11 w14 w=>?_
    simp -implicitDefEqProofs[w0,w1,w2,w9,w10,w11,w14,s0,s1,s2,s9,s10,s11,s14,hw,-Int.natCast_add]
    exact⟨⟨i+1,by omega,⟨by simp,by simpa using w⟩⟩,by omega⟩
   | false =>
    simp -implicitDefEqProofs
    unfold qjSZ
    simp -implicitDefEqProofs only[s11,s1,s2,op _ c5,ov_s]
    simp -implicitDefEqProofs[bdUsr]
    refine bs_one bsUsr (by simp) (by omega) fun b2 h6 n6 e6 c6=>?_
    refine Rf.app2 (m:=1) (news:=.string u::.slice svb svn svc::presC ne.told) unSlUsr apUsr (by omega) (r5.ext e6) (.inr ⟨b2,0,1,rfl,by rw[hne]; exact cels_one c6 (by simp)⟩) (by simp[presC]) (by unfold maxLen; omega) (by omega) fun v' h7 r7 hkp hrow=>?_
    unfold qjRZ
    simp -implicitDefEqProofs
    have hR':((out++[(u,ne)])++(if b[i].1=u then [] else [b[i]]))++becR u ne (b.drop (i+1)) true=R:=by
     rw[← hout,hstep,hlt2]; simp
    refine fin _ _ true (out++[(u,ne)]) (L++[.string u::.slice svb svn svc::presC ne.told]) (by simpa using s0) (by simpa using s1) (by simpa using s2) (by simpa using s9) (by simpa using s10) (by simpa using s11) (by simp) (by simpa using s14) (by rw[List.flatten_append]; simpa using r7) (el5.app (El.sing (by simp[presC]) (by simp[presC]) ⟨_,rfl,by rw[hne]; exact sF⟩)) (by simp; omega) hR' fun h8 e'' w0 w1 w2 w9 w10 w11 w14 w=>?_
    simp -implicitDefEqProofs[w0,w1,w2,w9,w10,w11,w14,s0,s1,s2,s9,s10,s11,s14,hw,-Int.natCast_add]
    exact⟨⟨i+1,by omega,⟨by simp,by simpa using w⟩⟩,by omega⟩
 ·have hie:i=b.length:=by omega
  subst hie
  -- what is told
  have fin:∀ (h6:Heap) (e':Env),Ext h4 h6→e' 1 = .string u→e' 10=ptr bu→e' 11=ptr bp→Sl 5 UsrR (fz T h6) (e' 12) R→qesZ e' h6 K []:=by
   intro h6 e' e46 u1 u10 u11 xR
   have cp6:=e46 _ _ c4
   have cu6:=e46 _ _ cu4
   have oq:ldV (some (some 3)) (.pointer (some ⟨bu,2,none⟩)) h6=some (.agg #[.int .i64 (entOf b u).told.st,.int .i64 (entOf b u).told.pr,.int .i64 (entOf b u).told.lv]):=by simp[ld_at cu6]
   unfold qesZ
   simp -implicitDefEqProofs[u10,u11,op _ cp6,oq,presNe]
   refine⟨fun hne'=>?_,fun heq'=>?_⟩
   ·have hne2:¬ presOf ss now=(entOf b u).told:=by simpa using hne'
    have hs2:(settleB b u ss now).2=[⟨u,(entOf b u).told,presOf ss now⟩]:=by unfold settleB; simp[hne2]
    unfold qjAZ
    simp -implicitDefEqProofs[u1,u10,u11,op _ cp6,oq,bdChg8]
    refine bs_one bsChg8 (by simp) (by omega) fun b2 h7 n7 e7 c7=>?_
    refine hk h7 _ _ ((e04.trans e46).trans e7) (by rw[hset]; exact xR.ext (@UsrR.ext) (fz_of_ext e7)) ?_
    rw[hs2]
    have cc:=fz_new (T:=T) (w.ext (e04.trans e46)) n7 c7
    refine .inr ⟨b2,0,1,rfl,by simp,by unfold maxLen; omega,fun i hi=>?_⟩
    have hi0:i=0:=by simp at hi; omega
    subst hi0
    exact⟨_,by simpa using cels_one cc (by simp),by simp[ChgR,chgC,presC]⟩
   ·have heq2:presOf ss now=(entOf b u).told:=by simpa using heq'
    have hs2:(settleB b u ss now).2=[]:=by unfold settleB; simp[heq2]
    refine hk h6 _ _ (e04.trans e46) (by rw[hset]; exact xR) ?_
    rw[hs2]
    exact .inl ⟨rfl,_,_,rfl⟩
  rw[List.drop_of_length_le (Nat.le_refl _)] at hout
  unfold qjBZ
  rw[seqM_eq]
  unfold qjzZ
  cases put with
  | true =>
   have hR':out=R:=by simpa [becR] using hout
   subst hR'
   simp -implicitDefEqProofs[s13]
   exact fin _ _ r5.ex (by simpa using s1) (by simpa using s10) (by simpa using s11) (by simpa using r5.sl w4 rfl (el5.ext (@UsrR.ext) (fz_of_ext r5.ex)))
  | false =>
   have hR':out++[(u,ne)]=R:=by simpa [becR] using hout
   simp -implicitDefEqProofs[s13]
   unfold qjyZ
   simp -implicitDefEqProofs[s11,s1,s2,op _ c5,bdUsr]
   refine bs_one bsUsr (by simp) (by omega) fun b2 h6 n6 e6 c6=>?_
   refine Rf.app2 (m:=1) (news:=.string u::.slice svb svn svc::presC ne.told) unSlUsr apUsr (by omega) (r5.ext e6) (.inr ⟨b2,0,1,rfl,by rw[hne]; exact cels_one c6 (by simp)⟩) (by simp[presC]) (by unfold maxLen; omega) (by omega) fun v' h7 r7 hkp hrow=>?_
   have el7:=el5.app (El.sing (c:=.string u::.slice svb svn svc::presC ne.told) (y:=(u,ne)) (R:=UsrR) (h:=fz T h4) (sz:=5) (by simp[presC]) (by simp[presC]) ⟨_,rfl,by rw[hne]; exact sF⟩)
   have r7':Rf 5 qhZ h4 h7 v' (out++[(u,ne)]).length (L++[.string u::.slice svb svn svc::presC ne.told]).flatten:=by rw[List.flatten_append]; simpa using r7
   rw[hR'] at r7' el7
   exact fin _ _ r7'.ex (by simpa using s1) (by simpa using s10) (by simpa using s11) (by simpa using r7'.sl w4 rfl (el7.ext (@UsrR.ext) (fz_of_ext r7'.ex)))
end Go.Proofs.YtmbningljbcpkaaGreat
namespace Go.Proofs.YtmbningljbcpkaaGreat
open Go Go.Den Go.MapKept
set_option linter.unusedSimpArgs false
set_option linter.unusedVariables false
set_option maxRecDepth 20000
variable {K:KTy}
set_option maxHeartbeats 8000000 in
theorem rwrite_ok {m:Nat}(b:Book)(g:BkM m b)(hm:m<90000)(o:OpD)(ow:OpW o)(now:Int)(hn:U64 now)(most:Int){T:Tags}{h:Heap}{v uv:Value}(ou:One uv)(w:Wf T h)(x:Sl 5 UsrR (fz T h) v b)
  (hk:∀ h' v' cv,Ext h h'→Sl 5 UsrR (fz T h') v' (writeB b o now most).1→Sl 7 ChgR (fz T h') cv (writeB b o now most).2.1→K (.tuple #[v',cv,.int .i64 (writeB b o now most).2.2]) h'):callM P qfpZ #[v,.agg (opC o uv).toArray,.int .u64 now,.int .i64 most] h K:=by
 apply qrOZ
 unfold qhsZ
 refine nw_agg fun v1 h1 n1 e1 c1=>?_
 simp -implicitDefEqProofs only[opC] at c1
 have cs:∀ h',Ext h1 h'→cel h' v1 0=some (.int .i64 o.kind)∧cel h' v1 1=some (.string o.user)∧cel h' v1 2=some (.int .i64 o.id)∧cel h' v1 3=some (.int .i64 o.status)∧cel h' v1 4=some (.int .i64 o.prio)∧cel h' v1 5=some (.int .u64 o.ttl):=fun h' e=>by
  have:=e _ _ c1
  simp -implicitDefEqProofs[cel_of this]
 obtain⟨k0,k1,k2,k3,k4,k5⟩:=cs h1 (Ext.refl _)
 simp -implicitDefEqProofs[k1]
 refine rfind_ok b o.user (x.ext (@UsrR.ext) ((fz_ext _ _).trans e1)) (by have:=g.bl; omega) fun h2 sv e2 hsv=>?_
 have e02:=e1.trans e2
 unfold qkUZ
 simp -implicitDefEqProofs[fdV]
 have w2:Wf T h2:=w.ext e02
 obtain⟨S,hS⟩:∃ S,purgeS (entOf b o.user).ss now=S:=⟨_,rfl⟩
 have he:(entOf b o.user).ss.length≤m∧SrtI (entOf b o.user).ss:=by
  rcases entOf_cases b o.user with e | ⟨y,h1,h2,h3⟩
  ·rw[e]; exact⟨by simp[ent0],List.Pairwise.nil⟩
  ·rw[h3]; exact⟨g.bn y h1,(g.bw.us y h1).1⟩
 have hSl:S.length≤m:=by rw[← hS]; unfold purgeS; exact Nat.le_trans (List.length_filter_le _ _) he.1
 have hSs:SrtI S:=by rw[← hS]; exact he.2.purge now
 refine rpurge_ok (entOf b o.user).ss now (hsv.ext (@SessR.ext) e2) (by omega) fun h3 sv3 r3=>?_
 rw[hS] at r3
 have xs3:Sl 4 SessR (fz T h3) sv3 S:=rf_sessT r3 w2
 have e03:=e02.trans r3.ex
 have e13:=e2.trans r3.ex
 have w3:Wf T h3:=w.ext e03
 obtain⟨k0,k1,k2,k3,k4,k5⟩:=cs h3 e13
 unfold qkTZ
 simp -implicitDefEqProofs[k5]
 refine refAdd_ok hn ow.u1 ?_
 obtain⟨un,hun⟩:∃ un,addU now o.ttl=un:=⟨_,rfl⟩
 rw[hun]
 unfold qkSZ
 rw[seqM_eq]
 have fin:∀ (h4:Heap) (s:Env) (W:List Sess × Int),Ext h3 h4→s 0=v→s 2 = .int .u64 now→s 5=ptr v1→s 13 = .int .i64 W.2→Sl 4 SessR (fz T h4) (s 11) W.1→workS S o now most=W→W.1.length<1000000→qcjZ s h4 K []:=by
  intro h4 s W e34 u0 u2 u5 u13 xW hW hl
  have e04:=e03.trans e34
  obtain⟨_,q1,_⟩:=cs h4 (e13.trans e34)
  have w4:Wf T h4:=w.ext e04
  unfold qcjZ
  simp -implicitDefEqProofs[u0,u2,u5,q1]
  have hwr:writeB b o now most=((settleB b o.user W.1 now).1,(settleB b o.user W.1 now).2,W.2):=by unfold writeB; simp only[hS,hW]
  rw[hwr] at hk
  refine rbecome_ok b (by have:=g.bw.so; exact this) o.user W.1 now w4 (x.ext (@UsrR.ext) (fz_of_ext e04)) xW (by have:=g.bl; omega) (fun y hy=>by have:=g.bn y hy; omega) hl fun h5 v' cv e5 xv xc=>?_
  unfold qjQZ
  simp -implicitDefEqProofs[u13]
  exact hk h5 v' cv (e04.trans e5) xv xc
 unfold qkRZ
 simp -implicitDefEqProofs[k0]
 have hWl:(workS S o now most).1.length<1000000:=by have:=work_len (ss:=S) o now most; omega
 have xs3h:∀ h',Ext h3 h'→Sl 4 SessR (fz T h') sv3 S:=fun h' e=>xs3.ext (@SessR.ext) (fz_of_ext e)
 refine⟨fun c1'=>?_,fun c1'=>?_⟩
 ·have hW:workS S o now most=setS S ⟨o.id,o.status,o.prio,un⟩ most:=by unfold workS; rw[if_pos c1',hun]
  rw[hW] at hWl
  unfold qkNZ
  simp -implicitDefEqProofs[k2,k3,k4,bdSess]
  refine rset_ok S hSs ⟨o.id,o.status,o.prio,un⟩ most w3 xs3 (by omega) fun h4 sv4 e4 xs4=>?_
  unfold qkMZ
  simp -implicitDefEqProofs
  exact fin h4 _ _ e4 (by simp) (by simp) (by simp) (by simp) (by simpa using xs4) hW hWl
 unfold qkQZ
 simp -implicitDefEqProofs
 refine⟨fun c2'=>?_,fun c2'=>?_⟩
 ·have hW:workS S o now most=beatS S o.id un:=by unfold workS; rw[if_neg c1',if_pos c2',hun]
  rw[hW] at hWl
  unfold qkPZ
  simp -implicitDefEqProofs[k2]
  refine rbeat_ok S o.id un w3 xs3 (by omega) fun h4 sv4 e4 xs4=>?_
  unfold qkOZ
  simp -implicitDefEqProofs
  exact fin h4 _ _ e4 (by simp) (by simp) (by simp) (by simp) (by simpa using xs4) hW hWl
 unfold qjPZ
 simp -implicitDefEqProofs
 refine⟨fun c3'=>?_,fun c3'=>?_⟩
 ·have hW:workS S o now most=(delS S o.id,if hasI S o.id then 0 else 3):=by unfold workS; rw[if_neg c1',if_neg c2',if_pos c3',clear_eq]
  rw[hW] at hWl
  unfold qjNZ
  rw[seqM_eq]
  unfold qjMZ
  simp -implicitDefEqProofs[k2]
  refine rhas_ok S o.id (xs3.ext (@SessR.ext) (fz_ext _ _)) (by omega) ?_
  have clr:∀ (s:Env),s 0=v→s 2 = .int .u64 now→s 5=ptr v1→s 11=sv3→s 13 = .int .i64 (if hasI S o.id then 0 else 3)→qeMZ s h3 (thenM (fun m s15 h16=>qcjZ s15 h16 K m) (retM P [ResultVar.tmp 8,ResultVar.tmp 9,ResultVar.tmp 10] K)) []:=by
   intro s u0 u2 u5 u11 u13
   unfold qeMZ
   simp -implicitDefEqProofs[u5,u11,k2]
   refine rclear_ok S o.id (xs3.ext (@SessR.ext) (fz_ext _ _)) (by omega) fun h4 sv4 r4=>?_
   exact fin h4 _ _ r4.ex (by simpa using u0) (by simpa using u2) (by simpa using u5) (by simpa using u13) (by simpa using rf_sessT r4 w3) hW hWl
  unfold qjLZ
  cases hh:hasI S o.id with
  | true =>
   rw[hh] at clr
   simp -implicitDefEqProofs
   unfold qjKZ
   simp -implicitDefEqProofs
   exact clr _ (by simp) (by simp) (by simp) (by simp) (by simp)
  | false =>
   rw[hh] at clr
   simp -implicitDefEqProofs
   unfold qjJZ
   simp -implicitDefEqProofs
   exact clr _ (by simp) (by simp) (by simp) (by simp) (by simp)
 ·have hW:workS S o now most=(S,0):=by unfold workS; rw[if_neg c1',if_neg c2',if_neg c3']
  rw[hW] at hWl
  unfold qjOZ
  simp -implicitDefEqProofs
  exact fin h3 _ _ (Ext.refl _) (by simp) (by simp) (by simp) (by simp) (by simpa using xs3) hW hWl
end Go.Proofs.YtmbningljbcpkaaGreat
namespace Go.Proofs.YtmbningljbcpkaaGreat
open Go Go.Den Go.MapKept
set_option linter.unusedSimpArgs false
set_option linter.unusedVariables false
set_option maxRecDepth 20000
def rt (T:Tags)(v:Value):Tags:=fun k=>if rowOf v=some k then lc else T k
theorem rt_nil {T:Tags}{v:Value}{k:Nat}(h:rt T v k=[]):rowOf v≠some k∧T k=[]:=by
 unfold rt at h
 by_cases hv:rowOf v=some k
 ·rw[if_pos hv] at h; cases h
 ·rw[if_neg hv] at h; exact⟨hv,h⟩
theorem rt_of {T:Tags}{v:Value}{k:Nat}(h1:rowOf v≠some k)(h2:T k=[]):rt T v k=[]:=by unfold rt; rw[if_neg h1]; exact h2
theorem rt_fz {T:Tags}{v:Value}{h:Heap}:Ext (fz (rt T v) h) (fz T h):=fun b o e=>by
 obtain⟨h1,h2⟩:=fz_get e
 exact fz_at h1 (rt_nil h2).2
theorem rt_wf {T:Tags}{v:Value}{sz n:Nat}{e:TypeId}{xs:List Value}{h0 h:Heap}(w:Wf T h0)(r:Rf sz e h0 h v n xs):Wf (rt T v) h:=fun b hb=>by
 refine rt_of (fun hh=>?_) ?_
 ·obtain⟨o,ho⟩:=r.row.lt b hh
  rw[ho] at hb; cases hb
 ·exact w.ext r.ex b hb
theorem rt_old {T:Tags}{v:Value}{sz n:Nat}{e:TypeId}{xs:List Value}{h0 h:Heap}(r:Rf sz e h0 h v n xs):Ext (fz T h0) (fz (rt T v) h):=fun b o hb=>by
 obtain⟨h1,h2⟩:=fz_get hb
 exact fz_at (r.ex _ _ h1) (rt_of (fun hh=>by rw[r.new b hh] at h1; cases h1) h2)
theorem rt_app {T:Tags}{v v':Value}{h h':Heap}(kp:∀ b o,h b=some o→rowOf v≠some b→h' b=some o)(ha:rowOf v'=rowOf v∨∃ b,rowOf v'=some b∧h b=none):Ext (fz (rt T v) h) (fz (rt T v') h'):=fun b o hb=>by
 obtain⟨h1,h2⟩:=fz_get hb
 obtain⟨h3,h4⟩:=rt_nil h2
 refine fz_at (kp b o h1 h3) (rt_of (fun hh=>?_) h4)
 rcases ha with ha | ⟨k,ha,hk⟩
 ·exact h3 (by rw[← ha]; exact hh)
 ·rw[ha] at hh; cases hh; rw[hk] at h1; cases h1
theorem unSlChg8:P.underlying qRZ=some (.slice qPZ):=by kernel_rfl
theorem apChg8:apC P qPZ=some (7,64,7):=by kernel_rfl
structure RsE (b:Book)(now:Int)(T:Tags)(h0:Heap)(i:Nat)(s:Env)(h':Heap):Prop where
 i_:s 8 = .int .i64 i
 r:Rf 7 qPZ h0 h' (s 6) (sweepTo b now i).2.length ((sweepTo b now i).2.flatMap chgC)
 o:Sl 5 UsrR (fz (rt T (s 6)) h') (s 7) (sweepTo b now i).1
variable {K:KTy}
set_option maxHeartbeats 8000000 in
theorem rsweep_ok {m:Nat}(b:Book)(g:BkM m b)(hm:m<90000)(now:Int){T:Tags}{h:Heap}{v:Value}(w:Wf T h)(x:Sl 5 UsrR (fz T h) v b)
  (hk:∀ h' v' cv,Ext h h'→Sl 5 UsrR (fz T h') v' (sweepB b now).1→Sl 7 ChgR (fz T h') cv (sweepB b now).2→K (.tuple #[v',cv]) h'):callM P qfqZ #[v,.int .u64 now] h K:=by
 apply qrPZ
 unfold qhtZ
 have lx:=x.len
 rw[seqM_eq]
 unfold qkZZ
 refine loop_on [0,1] (fun s h'=>∃ i:Nat,i≤b.length∧RsE b now T h i s h') (fun s _=>(b.length-num (s 8)).toNat) ⟨0,by omega,⟨by simp,by simpa [sweepTo] using Rf.nil (Ext.refl _),?_⟩⟩ ?_
 ·simp -implicitDefEqProofs only[sweepTo]
  have:Sl 5 UsrR (fz (rt T (.slice none 0 0)) h) v b:=x.ext (@UsrR.ext) (rt_old (sz:=7) (e:=qPZ) (Rf.nil (Ext.refl h)))
  simpa using this
 rintro s h1 hf ⟨i,hi,⟨s8,r,o⟩⟩
 have s0:s 0=v:=by simpa using hf 0 (by simp)
 have s1:s 1 = .int .u64 now:=by simpa using hf 1 (by simp)
 unfold qkYZ
 simp -implicitDefEqProofs[s0,s8,lx]
 refine⟨fun hc=>?_,fun hc=>?_⟩
 rotate_left
 ·have hie:i=b.length:=by omega
  subst hie
  have hxc:Sl 7 ChgR (fz T h1) (s 6) (sweepB b now).2:=by
   have r':=r
   rw[List.flatMap_def] at r'
   exact r'.sl w rfl (El.enc (enc:=chgC) (fun _=>rfl) (fun y=>chgC_one y) fun h y=>rfl)
  exact hk h1 _ _ r.ex (o.ext (@UsrR.ext) rt_fz) hxc
 ·have hlt:i<b.length:=by omega
  have bl:=g.bl
  have hw:IntKind.i64.wrap ((i:Int)+1)=(i+1:Nat):=by rw[wrap64_id (by omega) (by omega)]; omega
  have gi:=g.sweepTo now i hi
  have hst:sweepTo b now (i+1)=((settleB (sweepTo b now i).1 b[i].1 (purgeS b[i].2.ss now) now).1,(sweepTo b now i).2++(settleB (sweepTo b now i).1 b[i].1 (purgeS b[i].2.ss now) now).2):=by
   simp -implicitDefEqProofs only[sweepTo]; rw[List.getD_eq_getElem?_getD,List.getElem?_eq_getElem hlt]; rfl
  have hlen:∀ j,j≤b.length→(sweepTo b now j).2.length≤j:=by
   intro j
   induction j with
   | zero=>intro _; simp[sweepTo]
   | succ j ih =>
    intro hj
    have h1:=ih (by omega)
    simp -implicitDefEqProofs only[sweepTo,List.length_append]
    have:∀ (B:Book) u S,(settleB B u S now).2.length≤1:=fun B u S=>by unfold settleB; split<;>split<;>simp
    have h2:=this (sweepTo b now j).1 (b.getD j (⟨#[]⟩,ent0)).1 (purgeS (b.getD j (⟨#[]⟩,ent0)).2.ss now)
    omega
  have hl1:=hlen i hi
  have hl2:=hlen (i+1) (by omega)
  obtain⟨ub,up,sv,i1,i2,i3⟩:=usr_ld x hlt
  have eh1:Ext (fz T h) h1:=(fz_ext _ _).trans r.ex
  obtain⟨q0,q1,_⟩:=i2 h1 eh1
  have hbi:=g.bn _ (List.getElem_mem hlt)
  unfold qkXZ
  simp -implicitDefEqProofs[s0,s1,s8,i1,q0,q1]
  refine rpurge_ok b[i].2.ss now (i3.ext (@SessR.ext) eh1) (by omega) fun h2 sv2 r2=>?_
  have w1:Wf (rt T (s 6)) h1:=rt_wf w r
  have xs2:Sl 4 SessR (fz (rt T (s 6)) h2) sv2 (purgeS b[i].2.ss now):=rf_sessT r2 w1
  have w2:Wf (rt T (s 6)) h2:=w1.ext r2.ex
  obtain⟨p0,_,_⟩:=i2 h2 (eh1.trans r2.ex)
  have hpl:(purgeS b[i].2.ss now).length≤b[i].2.ss.length:=by unfold purgeS; exact List.length_filter_le _ _
  unfold qkWZ
  simp -implicitDefEqProofs[p0,s1]
  refine rbecome_ok (sweepTo b now i).1 (by have:=gi.bw.so; exact this) b[i].1 (purgeS b[i].2.ss now) now w2 (o.ext (@UsrR.ext) (fz_of_ext r2.ex)) xs2 (by have:=gi.bl; omega) (fun y hy=>by have:=gi.bn y hy; omega) (by omega) fun h3 v' cv e3 xv xc=>?_
  have r3:=(r.ext r2.ex).ext e3
  have hsum:(sweepTo b now i).2.length+(settleB (sweepTo b now i).1 b[i].1 (purgeS b[i].2.ss now) now).2.length≤i+1:=by rw[hst] at hl2; simpa using hl2
  simp -implicitDefEqProofs
  refine Rf.app2 unSlChg8 apChg8 (by omega) r3 (chg_els (xc.ext (@ChgR.ext) (fz_ext _ _))) (flatC_one _) (by unfold maxLen; omega) (by omega) fun a' h4 r4 kp4 ha4=>?_
  have xv4:=xv.ext (@UsrR.ext) (rt_app kp4 ha4)
  unfold qkVZ
  simp -implicitDefEqProofs[s0,s1,s8,hw,-Int.natCast_add]
  refine⟨⟨i+1,by omega,⟨by simp,?_,?_⟩⟩,by omega⟩
  ·rw[hst]; simpa using r4
  ·rw[hst]; simpa using xv4
end Go.Proofs.YtmbningljbcpkaaGreat
namespace Go.Proofs.YtmbningljbcpkaaGreat
open Go Go.Den Go.MapKept
set_option linter.unusedSimpArgs false
set_option linter.unusedVariables false
set_option maxRecDepth 20000
def rfdC (room:Int)(pv:Value)(qv:Nat→Value)(lost:Nat→Bool):List Value :=
 [.int .i64 room,pv,qv 0,qv 1,qv 2,qv 3,qv 4,qv 5,qv 6,qv 7,.bool (lost 0),.bool (lost 1),.bool (lost 2),.bool (lost 3),.bool (lost 4),.bool (lost 5),.bool (lost 6),.bool (lost 7)]
def PairR (_:Heap)(c:List Value)(p:PairD):Prop:=c=[.int .i64 p.who,.string p.user]
theorem PairR.ext {h h':Heap}{c:List Value}{x:PairD}(_:Ext h h')(r:PairR h c x):PairR h' c x:=r
theorem pair_ld {F:Heap}{v:Value}{l:List PairD}(x:Sl 2 PairR F v l){i:Nat}(hi:i<l.length):∃ b p,iaV (some (none,2)) v (.int .i64 i)=some (.pointer (some ⟨b,p,none⟩))∧∀ h',Ext F h'→cels h' b p 2=some [.int .i64 l[i].who,.string l[i].user]:=by
 obtain⟨b,p,c,h1,h2,h3⟩:=x.at (k:=.i64) (i:=i) (by omega) (by omega)
 refine⟨b,p,h1,fun h' e=>?_⟩
 have hc:c=[.int .i64 l[i].who,.string l[i].user]:=h3
 subst hc
 exact cels_ext e h2
section
variable {h:Heap}{q:Nat}{room:Int}{pv:Value}{qv:Nat→Value}{lost:Nat→Bool}{ps:List PairD}{K:KTy}
theorem rfwatching_ok (cp:h q=some (.cells (rfdC room pv qv lost).toArray qwZ (0,0)))(x:Sl 2 PairR h pv ps)(hl:ps.length<1000000)(who:Int)(u:ByteArray)(hk:K (.bool (ps.any (pairIs who u))) h):callM P qcdZ #[ptr q,.int .i64 who,.string u] h K:=by
 apply qoHZ
 unfold qcwZ
 have lx:=x.len
 simp -implicitDefEqProofs only[rfdC] at cp
 have c1:cel h q 1=some pv:=by simp[cel_of cp]
 rw[seqM_eq]
 unfold qeXZ
 refine loop_on [0,1,2,6] (fun s h'=>h'=h∧∃ i:Nat,i≤ps.length∧s 7 = .int .i64 i∧∀ j (hj:j<ps.length),j<i→pairIs who u ps[j]=false) (fun s _=>(ps.length-num (s 7)).toNat) ⟨rfl,0,by omega,by simp,fun j _ hj=>by omega⟩ ?_
 rintro s h1 hf ⟨rfl,i,hi,s7,hn⟩
 have s0:s 0=ptr q:=by simpa using hf 0 (by simp)
 have s1:s 1 = .int .i64 who:=by simpa using hf 1 (by simp)
 have s2:s 2 = .string u:=by simpa using hf 2 (by simp)
 have s6:s 6 = .bool false:=by simpa using hf 6 (by simp)
 unfold qeWZ
 simp -implicitDefEqProofs[s0,s7,c1,lx]
 refine⟨fun hc=>?_,fun hc=>?_⟩
 rotate_left
 ·have e:ps.any (pairIs who u)=false:=by
   rw[Bool.eq_false_iff]
   intro h
   obtain⟨y,hy,h2⟩:=List.any_eq_true.1 h
   obtain⟨j,hj,rfl⟩:=List.getElem_of_mem hy
   rw[hn j hj (by omega)] at h2; cases h2
  rw[e] at hk
  exact hk
 ·have hlt:i<ps.length:=by omega
  have hw:IntKind.i64.wrap ((i:Int)+1)=(i+1:Nat):=by rw[wrap64_id (by omega) (by omega)]; omega
  obtain⟨b,p,i1,i2⟩:=pair_ld x hlt
  have q0:cel h1 b p=some (.int .i64 ps[i].who):=(cels_get (i2 _ (Ext.refl _))).2 0 (by simp)
  have q1:cel h1 b (p+1)=some (.string ps[i].user):=(cels_get (i2 _ (Ext.refl _))).2 1 (by simp)
  have go:pairIs who u ps[i]=false→∀ j (hj:j<ps.length),j<i+1→pairIs who u ps[j]=false:=fun hp j hj hji=>by
   by_cases hjj:j<i
   ·exact hn j hj hjj
   ·have:j=i:=by omega
    subst this; exact hp
  unfold qeVZ
  by_cases w1:ps[i].who=who
  ·have be:=bin_eqlS 3 false ps[i].user u
   by_cases w2:ps[i].user=u
   ·have e:ps.any (pairIs who u)=true:=List.any_eq_true.2 ⟨ps[i],List.getElem_mem hlt,by simp[pairIs,w1,w2]⟩
    rw[e] at hk
    rw[decide_eq_true w2] at be
    simp -implicitDefEqProofs[s0,s1,s2,s7,c1,i1,q0,q1,w1,be]
    unfold qeUZ
    simp -implicitDefEqProofs
    exact hk
   ·rw[decide_eq_false w2] at be
    simp -implicitDefEqProofs[s0,s1,s2,s7,c1,i1,q0,q1,w1,be]
    unfold qbLZ
    simp -implicitDefEqProofs[s0,s1,s2,s6,s7,hw,-Int.natCast_add]
    exact⟨⟨i+1,by omega,rfl,go (by simp[pairIs,w1,w2])⟩,by omega⟩
  ·simp -implicitDefEqProofs[s0,s1,s2,s7,c1,i1,q0,q1,w1]
   unfold qbLZ
   simp -implicitDefEqProofs[s0,s1,s2,s6,s7,hw,-Int.natCast_add]
   exact⟨⟨i+1,by omega,rfl,go (by simp[pairIs,w1])⟩,by omega⟩
end
end Go.Proofs.YtmbningljbcpkaaGreat
namespace Go.Proofs.YtmbningljbcpkaaGreat
open Go Go.Den Go.MapKept
set_option linter.unusedSimpArgs false
set_option linter.unusedVariables false
set_option maxRecDepth 20000
structure RfB (T:Tags)(h:Heap)(g:Tag)(q:Nat)(room:Int)(pv:Value)(qv:Nat→Value)(ps:List PairD)(f:Feed):Prop where
 hp:h q=some (.cells (rfdC room pv qv fun j=>(f.qs j).lost).toArray qwZ (0,0))
 tq:T q=g
 pr:Sl 2 PairR (fz T h) pv ps
 qs:∀ j,j<8→Sl 8 EvR (fz T h) (qv j) (f.qs j).l
theorem RfB.kp {U:Tag→Prop}{T T':Tags}{h h':Heap}{g:Tag}{q:Nat}{room:Int}{pv:Value}{qv:Nat→Value}{ps:List PairD}{f:Feed}(x:RfB T h g q room pv qv ps f)(k:Kp U T h T' h')(n:¬ U g)(n0:¬ U []):RfB T' h' g q room pv qv ps f :=
 ⟨(k.at x.hp x.tq n).1,(k.at x.hp x.tq n).2,x.pr.ext (@PairR.ext) (k.ext n0),fun j hj=>(x.qs j hj).ext (@EvR.ext) (k.ext n0)⟩
end Go.Proofs.YtmbningljbcpkaaGreat
namespace Go.Proofs.YtmbningljbcpkaaGreat
open Go Go.Den Go.MapKept
set_option linter.unusedSimpArgs false
set_option linter.unusedVariables false
set_option maxRecDepth 20000
variable {K:KTy}
theorem rtake13_ok (o who:Int){h:Heap}(hk:K (.tuple #[.int .i64 (if o<0∧0≤who then who else o),.int .i64 (if o<0∧0≤who then 1 else 0)]) h):callM P qheZ #[.int .i64 o,.int .i64 who] h K:=by
 apply qswZ
 unfold qizZ
 by_cases h1:o<0
 ·by_cases h2:0≤who
  ·rw[if_pos ⟨h1,h2⟩,if_pos ⟨h1,h2⟩] at hk
   simp -implicitDefEqProofs[h1,h2]; exact hk
  ·rw[if_neg (fun h=>h2 h.2),if_neg (fun h=>h2 h.2)] at hk
   simp -implicitDefEqProofs[h1,h2]; exact hk
 ·rw[if_neg (fun h=>h1 h.1),if_neg (fun h=>h1 h.1)] at hk
  simp -implicitDefEqProofs[h1]; exact hk
theorem rgive13_ok (o who:Int){h:Heap}(hk:K (.tuple #[.int .i64 (if 0≤o∧o=who then -1 else o),.int .i64 (if 0≤o∧o=who then 1 else 0)]) h):callM P qhfZ #[.int .i64 o,.int .i64 who] h K:=by
 apply qsxZ
 unfold qiAZ
 by_cases h1:0≤o
 ·by_cases h2:o=who
  ·rw[if_pos ⟨h1,h2⟩,if_pos ⟨h1,h2⟩] at hk
   subst h2
   simp -implicitDefEqProofs[h1]; exact hk
  ·rw[if_neg (fun h=>h2 h.2),if_neg (fun h=>h2 h.2)] at hk
   simp -implicitDefEqProofs[h1,h2]; exact hk
 ·rw[if_neg (fun h=>h1 h.1),if_neg (fun h=>h1 h.1)] at hk
  simp -implicitDefEqProofs[h1]; exact hk
theorem rend05_ok (v:Int)(hv:0≤v∧v<18446744073709551615){h:Heap}(hk:K (.int .u64 (endV v)) h):callM P qioZ #[.int .u64 v] h K:=by
 apply qtcZ
 unfold qjrZ
 have ht:v.tmod 2=v % 2:=Int.tmod_eq_emod_of_nonneg hv.1
 unfold endV wrt at hk
 by_cases h1:v % 2=1
 ·have hw:IntKind.u64.wrap (v+1)=v+1:=by rw[wrapU_id (by omega) (by omega)]
  simp -implicitDefEqProofs[h1] at hk
  simp -implicitDefEqProofs[ht,h1,hw]; exact hk
 ·simp -implicitDefEqProofs[h1] at hk
  simp -implicitDefEqProofs[ht,h1]; exact hk
theorem rbegin05_ok (v b:Int)(hv:U64 v)(hb:U64 b){h:Heap}(hk:K (.int .u64 (bgn v (evn b))) h):callM P qfoZ #[.int .u64 v,.int .u64 b] h K:=by
 apply qrNZ
 unfold qhrZ
 unfold U64 at hv hb
 have ht:v.tmod 2=v % 2:=Int.tmod_eq_emod_of_nonneg hv.1
 have hbt:b.tmod 2=b % 2:=Int.tmod_eq_emod_of_nonneg hb.1
 have hwb:IntKind.u64.wrap (b-b % 2)=b-b % 2:=by rw[wrapU_id (by omega) (by omega)]
 unfold bgn wrt evn at hk
 by_cases h1:v % 2=0
 ·by_cases h2:v<b-b % 2
  ·have hw:IntKind.u64.wrap (v+1)=v+1:=by rw[wrapU_id (by omega) (by omega)]
   simp -implicitDefEqProofs[h1,h2] at hk
   simp -implicitDefEqProofs[ht,h1]
   apply qmWZ
   unfold qebZ
   simp -implicitDefEqProofs[hbt,hwb,h2,hw]; exact hk
  ·simp -implicitDefEqProofs[h1,h2] at hk
   simp -implicitDefEqProofs[ht,h1]
   apply qmWZ
   unfold qebZ
   simp -implicitDefEqProofs[hbt,hwb,h2]; exact hk
 ·have h1':v % 2=1:=by omega
  simp -implicitDefEqProofs[h1'] at hk
  simp -implicitDefEqProofs[ht,h1']; exact hk
end Go.Proofs.YtmbningljbcpkaaGreat
namespace Go.Den
open Go
set_option linter.unusedVariables false
set_option linter.unusedSimpArgs false
theorem psOf_cons (p:PairD)(ps:List PairD)(j:Nat):(psOf (p::ps) j).length=(psOf ps j).length+if p.who=(j:Int) then 1 else 0:=by
 unfold psOf
 rw[List.filter_cons]
 by_cases h:p.who=(j:Int)
 ·simp[h]
 ·simp[h]
theorem ps_sum:∀ (ps:List PairD),(∀ p∈ps,0≤p.who∧p.who<8)→ps.length≤(psOf ps 0).length+(psOf ps 1).length+(psOf ps 2).length+(psOf ps 3).length+(psOf ps 4).length+(psOf ps 5).length+(psOf ps 6).length+(psOf ps 7).length
 | [],_=>by simp
 | p::ps,h=>by
  have ih:=ps_sum ps fun q hq=>h q (by simp[hq])
  have h0:=h p (by simp)
  simp only[psOf_cons,List.length_cons]
  rcases (by omega:p.who=0∨p.who=1∨p.who=2∨p.who=3∨p.who=4∨p.who=5∨p.who=6∨p.who=7) with e | e | e | e | e | e | e | e
  all_goals simp[e]
  all_goals omega
theorem wsOf_le (ws:List (ByteArray × Int))(j:Nat):(wsOf ws j).length≤ws.length:=by
 unfold wsOf
 rw[List.length_map]
 exact List.length_filter_le _ _
theorem FdP.len {f:Feed}{ps:List PairD}(x:FdP f ps):ps.length≤8*f.ws.length:=by
 have h:=ps_sum ps x.rg
 have hj:∀ j,j<8→(psOf ps j).length≤f.ws.length:=fun j hj=>by
  rw[(x.pm j hj).length_eq]; exact wsOf_le _ _
 have:=hj 0 (by omega); have:=hj 1 (by omega); have:=hj 2 (by omega); have:=hj 3 (by omega)
 have:=hj 4 (by omega); have:=hj 5 (by omega); have:=hj 6 (by omega); have:=hj 7 (by omega)
 omega
theorem tell_wsF (f:Feed)(seq:Int):∀ l:List Chg,(f.tell l seq).ws=f.ws:=fun l=>by
 unfold Feed.tell
 induction l generalizing f with
 | nil=>rfl
 | cons c l ih=>rw[List.foldl_cons,ih,tell1_ws]
theorem FdP.tell {f:Feed}{ps:List PairD}(x:FdP f ps)(l:List Chg)(seq:Int):FdP (f.tell l seq) ps:=x.of_ws (tell_wsF f seq l)
theorem FdP.tell1 {f:Feed}{ps:List PairD}(x:FdP f ps)(c:Chg)(seq:Int)(n:Nat):FdP (f.tell1 c seq n) ps:=x.of_ws (tell1_ws f c seq n)
def RmE (f:Feed)(room:Int):Prop:=∀ j,j<8→(f.qs j).room=room
theorem put_room (r:Ring)(x:Evt):(r.put x).room=r.room:=by unfold Ring.put; split<;>rfl
theorem RmE.tell1 {f:Feed}{room:Int}(x:RmE f room)(c:Chg)(seq:Int):∀ n,RmE (f.tell1 c seq n) room
 | 0=>x
 | n+1=>by
  have ih:=RmE.tell1 x c seq n
  simp only[Feed.tell1]
  split
  ·intro j hj
   simp only[qset]
   split
   ·rename_i h; subst h; rw[put_room]; exact ih j hj
   ·exact ih j hj
  ·exact ih
theorem RmE.tell {f:Feed}{room:Int}(x:RmE f room)(seq:Int):∀ l:List Chg,RmE (f.tell l seq) room:=fun l=>by
 unfold Feed.tell
 induction l generalizing f with
 | nil=>exact x
 | cons c l ih=>exact ih (x.tell1 c seq 8)
end Go.Den
namespace Go.Proofs.YtmbningljbcpkaaGreat
open Go Go.Den Go.MapKept
set_option linter.unusedSimpArgs false
set_option linter.unusedVariables false
set_option maxRecDepth 20000
structure RSx where
 bp:Nat
 sn:Value
 bk:Value
 fp:Nat
 pv:Value
 qv:Nat→Value
 ps:List PairD
def rstC (x:Strp)(y:RSx):List Value:=[.int .i64 (x.who-1),.int .u64 x.v,y.sn,y.bk,ptr y.fp]
structure RstR (T:Tags)(h:Heap)(g:Tag)(s:Nat)(c:Cfg)(x:Strp)(y:RSx):Prop where
 hp:h y.bp=some (.cells (rstC x y).toArray qAZ (0,0))
 tp:T y.bp=g++[1,s]
 sn:Sl 5 UsrR (fz T h) y.sn x.snap
 bk:Sl 5 UsrR (fz T h) y.bk x.book
 fd:RfB T h (g++[2,s]) y.fp c.queue y.pv y.qv y.ps x.feed
 pp:FdP x.feed y.ps
 rm:∀ j,j<8→(x.feed.qs j).room=c.queue
 bd:x.bound=evn c.epochs
def rhC (H:Hall)(sv av:Value):List Value:=[.int .i64 H.c.stripes,.int .i64 H.c.sessions,.int .i64 H.c.queue,.int .i64 H.c.watches,.int .i64 H.c.retries,.int .u64 H.c.epochs,.int .u64 H.c.start,.int .u64 H.t.now,.int .u64 H.t.seq,.bool H.t.closed,sv,av]
structure RhX (T:Tags)(h:Heap)(g:Tag)(p:Nat)(H:Hall)(sv av:Value)(Y:Nat→RSx):Prop where
 hp:h p=some (.cells (rhC H sv av).toArray qrZ (0,0))
 tp:T p=g++[0]
 st:Rw T h (g++[4]) 1 qbqZ sv H.n (seqF H.n fun i=>[ptr (Y i).bp])
 ac:Rw T h (g++[3]) 3 qbpZ av H.acts.length (H.acts.flatMap actC)
 sr:∀ s,s<H.n→RstR T h g s H.c (H.ss s) (Y s)
def RhR (T:Tags)(h:Heap)(g:Tag)(p:Nat)(H:Hall):Prop:=∃ sv av Y,RhX T h g p H sv av Y
theorem RstR.kp {U:Tag→Prop}{T T':Tags}{h h':Heap}{g:Tag}{s:Nat}{c:Cfg}{x:Strp}{y:RSx}(r:RstR T h g s c x y)(k:Kp U T h T' h')(o1:¬ U (g++[1,s]))(o2:¬ U (g++[2,s]))(n:¬ U []):RstR T' h' g s c x y :=
 ⟨(k.at r.hp r.tp o1).1,(k.at r.hp r.tp o1).2,r.sn.ext (@UsrR.ext) (k.ext n),r.bk.ext (@UsrR.ext) (k.ext n),r.fd.kp k o2 n,r.pp,r.rm,r.bd⟩
theorem RhX.kp {U:Tag→Prop}{T T':Tags}{h h':Heap}{g:Tag}{p:Nat}{H:Hall}{sv av:Value}{Y:Nat→RSx}(x:RhX T h g p H sv av Y)(k:Kp U T h T' h')(o:Off U g)(n:¬ U []):RhX T' h' g p H sv av Y :=
 ⟨(k.at x.hp x.tp (o.at _)).1,(k.at x.hp x.tp (o.at _)).2,x.st.kp k (o.at _),x.ac.kp k (o.at _),fun s hs=>(x.sr s hs).kp k (o.at _) (o.at _) n⟩
theorem RhR.kp {U:Tag→Prop}{T T':Tags}{h h':Heap}{g:Tag}{p:Nat}{H:Hall}(x:RhR T h g p H)(k:Kp U T h T' h')(o:Off U g)(n:¬ U []):RhR T' h' g p H :=
 let ⟨sv,av,Y,x⟩:=x; ⟨sv,av,Y,x.kp k o n⟩
theorem RhX.own {T T':Tags}{h h':Heap}{g:Tag}{p:Nat}{H:Hall}{sv av:Value}{Y:Nat→RSx}(x:RhX T h g p H sv av Y)(k:Kp non T h T' h'):RhX T' h' g p H sv av Y:=x.kp k (Off.non _) (not_non _)
def V03 (g t:Tag):Prop:=t=g++[0]∨t=g++[3]
def V12 (g:Tag)(s:Nat)(t:Tag):Prop:=t=g++[1,s]∨t=g++[2,s]
theorem V03.pre {g t:Tag}(h:V03 g t):Den.pre g t:=by rcases h with rfl | rfl<;>exact pre_app _ _
theorem V12.pre {g t:Tag}{s:Nat}(h:V12 g s t):Den.pre g t:=by rcases h with rfl | rfl<;>exact pre_app _ _
theorem V03.nil (g:Tag):¬ V03 g []:=by rintro (h | h)<;>simp at h
theorem V12.nil (g:Tag)(s:Nat):¬ V12 g s []:=by rintro (h | h)<;>simp at h
theorem V03.n {g x:Tag}(h0:x≠[0])(h3:x≠[3]):¬ V03 g (g++x):=by exact fun h=>h.elim (ne_tag h0) (ne_tag h3)
theorem V12.n {g x:Tag}{s:Nat}(h1:x≠[1,s])(h2:x≠[2,s]):¬ V12 g s (g++x):=by exact fun h=>h.elim (ne_tag h1) (ne_tag h2)
variable {K:KTy}
theorem rz_did (who kind place:Int){T:Tags}{h:Heap}{g:Tag}{p:Nat}{H:Hall}(w:Wf T h){sv av:Value}{Y:Nat→RSx}(x:RhX T h g p H sv av Y)(hl:H.acts.length<1000000)
  (hk:∀ T' h' av',Only (V03 g) T h T' h'→RhX T' h' g p (H.did who kind place) sv av' Y→K (.tuple #[]) h'):callM P qpZ #[ptr p,.int .i64 who,.int .i64 kind,.int .i64 place] h K:=by
 apply qqjZ
 unfold qeKZ
 have hp:=x.hp
 simp -implicitDefEqProofs only[rhC] at hp
 simp -implicitDefEqProofs[cel_of hp,bdAct]
 refine Rw.app bsAct unSlAct apAct (by omega) (by simp) (by simp) w x.ac (by unfold maxLen; omega) (by omega) (by omega) (app_ne _ _) fun a av' T1 h1 o1 r1=>?_
 have hp1:=o1.k.at x.hp x.tp (ne_tag (by simp))
 have ho:=r1.one
 rw[stm_at hp1.1 (by simp[ho.2]) (by simp[rhC]) (by simp[ho.1,ho.2])]
 have o2:Only (V03 g) T h T1 (upd h1 p (.cells (over (rhC H sv av).toArray 11 av'.cells.toList) qrZ (0,0))) :=
  (o1.mono fun t e=>.inr e).trans (Only.upd o1.wf hp1.1 (.inl hp1.2))
 refine hk T1 _ av' o2 ⟨?_,hp1.2,x.st.kp o2.k (V03.n (by simp) (by simp)),?_,fun i hi=>(x.sr i hi).kp o2.k (V03.n (by simp) (by simp)) (V03.n (by simp) (by simp)) (V03.nil g)⟩
 ·rw[upd_same']; simp[ho.2,rhC,over,Hall.did]
 ·have o3:Only (fun t=>t=g++[0]) T1 h1 T1 (upd h1 p (.cells (over (rhC H sv av).toArray 11 av'.cells.toList) qrZ (0,0))):=Only.upd o1.wf hp1.1 hp1.2
  have:=r1.kp o3.k (ne_tag (by simp))
  simpa [Hall.did,actC] using this
theorem RhX.at_ {T:Tags}{h:Heap}{g:Tag}{p:Nat}{H:Hall}{sv av:Value}{Y:Nat→RSx}(x:RhX T h g p H sv av Y){s:Nat}(hs:s<H.n){k:IntKind}:∃ b,iaV (some (none,1)) sv (.int k s)=some (.pointer (some ⟨b,s,none⟩))∧cel h b s=some (ptr (Y s).bp):=by
 obtain⟨b,h1,h2⟩:=x.st.1.ia (k:=k) hs
 rw[Nat.mul_one] at h2
 refine⟨b,h2,?_⟩
 have:=x.st.1.cels h1 (o:=s*1) (m:=1) (by omega)
 rw[Nat.mul_one] at this
 have e:=seqF_at (F:=fun i=>[ptr (Y i).bp]) (sz:=1) (fun i _=>rfl) hs
 rw[Nat.mul_one] at e
 rw[e] at this
 simpa using (cels_get this).2 0 (by simp)
theorem RhX.sett {T T':Tags}{h h':Heap}{g:Tag}{p:Nat}{H:Hall}{sv av:Value}{Y:Nat→RSx}(x:RhX T h g p H sv av Y){s:Nat}(o:Only (V12 g s) T h T' h'){X':Strp}{y':RSx}(r:RstR T' h' g s H.c X' y')(hb:y'.bp=(Y s).bp) :
  RhX T' h' g p (H.put s X') sv av (fun k=>if k=s then y' else Y k):=by
 have b:=o.k.at x.hp x.tp (V12.n (by simp) (by simp))
 refine⟨b.1,b.2,?_,x.ac.kp o.k (V12.n (by simp) (by simp)),fun i hi=>?_⟩
 ·have e:(seqF (H.put s X').n fun i=>[ptr (if i=s then y' else Y i).bp])=seqF H.n fun i=>[ptr (Y i).bp]:=seqF_congr fun i hi=>by
   by_cases his:i=s
   ·subst his; simp[hb]
   ·simp -implicitDefEqProofs[his]
  rw[e]
  exact x.st.kp o.k (V12.n (by simp) (by simp))
 ·simp -implicitDefEqProofs only[Hall.put,sput]
  by_cases his:i=s
  ·subst his; simp only[if_true]; exact r
  ·simp -implicitDefEqProofs only[if_neg his]; exact (x.sr i hi).kp o.k (V12.n (by simp[his]) (by simp[his])) (V12.n (by simp[his]) (by simp[his])) (V12.nil _ _)
theorem RhX.cnt {T:Tags}{h:Heap}{g:Tag}{p:Nat}{H:Hall}{sv av:Value}{Y:Nat→RSx}(x:RhX T h g p H sv av Y){m:Nat}(hs:HS m H){s:Nat}(hlt:s<H.n):(Y s).ps.length≤8*m:=by
 have h1:=(hs.st s hlt).fd.len
 have h2:=(x.sr s hlt).pp.len
 omega
end Go.Proofs.YtmbningljbcpkaaGreat
namespace Go.Proofs.YtmbningljbcpkaaGreat
open Go Go.Den Go.MapKept
set_option linter.unusedSimpArgs false
set_option linter.unusedVariables false
set_option maxRecDepth 20000
theorem fnv_two (x:Int):IntKind.u64.wrap (IntKind.u64.wrap (x*1099511627776)+IntKind.u64.wrap (x*435))=IntKind.u64.wrap (x*1099511628211):=by
 simp -implicitDefEqProofs only[IntKind.wrap,IntKind.bits,IntKind.signed]
 simp -implicitDefEqProofs
 omega
theorem shl40 (t:Nat)(c:Bool)(x:Int):binV .shl t c (.int .u64 x) (.int .u64 40)=some (.int .u64 (IntKind.u64.wrap (x*1099511627776))):=rfl
variable {K:KTy}
theorem rhash_ok (s : ByteArray) (hs : s.size ≤ maxLen) {h : Heap} (hk : K (.int .u64 (fnv s)) h) : callM P qiXZ #[.string s] h K := by
  apply qtDZ
  unfold qknZ
  rw [seqM_eq]
  unfold qokZ
  refine loop_on [0] (fun t h' => h' = h ∧ ∃ i : Nat, i ≤ s.size ∧ t 4 = .int .i64 i ∧ t 3 = .int .u64 (fnvTo s i)) (fun t _ => (s.size - num (t 4)).toNat) ⟨rfl, 0, by omega, rfl, rfl⟩ ?_
  rintro t h1 hf ⟨rfl, i, hi, t4, t3⟩
  have t0 : t 0 = .string s := by simpa using hf 0 (by simp)
  unfold maxLen at hs
  unfold qojZ
  simp -implicitDefEqProofs only [t0, t4, lnV_t, bin_lss, ov_s, cd_b]
  refine ⟨fun hc => ?_, fun hc => ?_⟩
  · have hlt : i < s.size := by have : ((i : Int) < s.size) := by simpa using hc
                                omega
    have hb := byte_rng s i
    unfold qoiZ
    have hw : IntKind.i64.wrap ((i : Int) + 1) = i + 1 := wrap64_id (by omega) (by omega)
    simp -implicitDefEqProofs [t0, t4, t3, st_byte hlt, wrapU_id (n := byteAt s i) (by omega) (by omega), bin_fnvX, hw, shl40, fnv_two]
    exact ⟨⟨i + 1, by omega, by simp, by simp [fnvTo, fnvStep]⟩, by omega⟩
  · have : i = s.size := by have : ¬ ((i : Int) < s.size) := by simpa using hc
                            omega
    subst this
    simp -implicitDefEqProofs [t3]
    exact hk
theorem rstripe_ok (s:ByteArray)(n:Int)(hn:n≤1000)(hs:s.size≤maxLen){h:Heap}(hk:K (.int .i64 (stripeOf s n)) h):callM P qfaZ #[.string s,.int .i64 n] h K:=by
 apply qqSZ
 unfold qfDZ
 simp -implicitDefEqProofs only[bin_lss,ov_s,cd_b]
 refine⟨fun hc=>?_,fun hc=>?_⟩
 ·have:n<1:=by simpa using hc
  simpa [stripeOf,this] using hk
 ·have hn1:¬ n<1:=by simpa using hc
  unfold qjIZ
  refine rhash_ok s hs ?_
  have hf:=fnv_rng s
  have hm:(fnv s).tmod n=fnv s % n:=Int.tmod_eq_emod_of_nonneg hf.1
  have hl:=Int.emod_nonneg (fnv s) (show n≠0 by omega)
  have hu:=Int.emod_lt_of_pos (fnv s) (show 0<n by omega)
  simp -implicitDefEqProofs[wrapU_id (n:=n) (by omega) (by omega),show n≠0 by omega,hm,wrap64_id (n:=fnv s % n) (by omega) (by omega)]
  simpa [stripeOf,hn1] using hk
theorem rfd_q {room:Int}{pv:Value}{qv:Nat→Value}{lost:Nat→Bool}{n:Nat}(hn:n<8):(rfdC room pv qv lost).toArray[2+n]?=some (qv n):=by
 rcases (by omega:n=0∨n=1∨n=2∨n=3∨n=4∨n=5∨n=6∨n=7) with rfl | rfl | rfl | rfl | rfl | rfl | rfl | rfl<;>rfl
theorem rfd_over {room:Int}{pv x:Value}{qv:Nat→Value}{lost:Nat→Bool}{n:Nat}(hn:n<8):over (rfdC room pv qv lost).toArray (2+n) [x]=(rfdC room pv (fun j=>if j=n then x else qv j) lost).toArray:=by
 rcases (by omega:n=0∨n=1∨n=2∨n=3∨n=4∨n=5∨n=6∨n=7) with rfl | rfl | rfl | rfl | rfl | rfl | rfl | rfl<;>rfl
theorem rfd_lost {room:Int}{pv:Value}{b:Bool}{qv:Nat→Value}{lost:Nat→Bool}{n:Nat}(hn:n<8):over (rfdC room pv qv lost).toArray (10+n) [.bool b]=(rfdC room pv qv (fun j=>if j=n then b else lost j)).toArray:=by
 rcases (by omega:n=0∨n=1∨n=2∨n=3∨n=4∨n=5∨n=6∨n=7) with rfl | rfl | rfl | rfl | rfl | rfl | rfl | rfl<;>rfl
theorem rfd_size (room:Int)(pv:Value)(qv:Nat→Value)(lost:Nat→Bool):(rfdC room pv qv lost).toArray.size=18:=rfl
theorem rf_evT {T:Tags}{h0 h:Heap}{v:Value}{l:List Evt}(r:Rf 8 qyZ h0 h v l.length (l.flatMap evC))(w:Wf T h0):Sl 8 EvR (fz T h) v l:=by
 rw[List.flatMap_def] at r
 exact r.sl w rfl (El.enc (enc:=evC) (fun _=>rfl) (fun y=>by simp[evC,presC]) fun h y=>rfl)
theorem ev_els {h:Heap}{v:Value}{l:List Evt}(x:Sl 8 EvR h v l):SlC 8 h v l.length (l.flatMap evC):=by
 obtain⟨L,h1,h2⟩:=x.els fun c y r=>by
  have:c=evC y:=r
  rw[this]; exact evC_one y
 have:L=l.map evC:=by
  apply List.ext_getElem (by simp[h2.len])
  intro i a b
  have:=h2.el i a (by simpa using b)
  simp -implicitDefEqProofs only[List.getElem_map]
  exact this
 rw[this,← List.flatMap_def] at h1
 exact h1
def RtO (T:Tags)(h:Heap)(g:Tag)(q:Nat)(room:Int)(pv:Value)(ps:List PairD)(f:Feed)(l:List Chg)(seq:Int)(v:Value)(h':Heap):Prop :=
 ∃ (qv:Nat→Value) (i:Nat),Only (fun t=>t=g) T h T h'∧RfB T h' g q room pv qv ps (f.tell (l.take i) seq)∧i≤l.length∧v = .int .i64 i
def RtIn (T:Tags)(h:Heap)(g:Tag)(q:Nat)(room:Int)(pv:Value)(ps:List PairD)(f:Feed)(c:Chg)(seq:Int)(v:Value)(h':Heap):Prop :=
 ∃ (qv:Nat→Value) (n:Nat),Only (fun t=>t=g) T h T h'∧RfB T h' g q room pv qv ps (f.tell1 c seq n)∧n≤8∧v = .int .i64 n
theorem RfB.qput {T:Tags}{h h':Heap}{g:Tag}{q:Nat}{room:Int}{pv v:Value}{qv:Nat→Value}{ps:List PairD}{f f':Feed}(x:RfB T h g q room pv qv ps f)(w:Wf T h)(gn:g≠[]){n:Nat}(hn:n<8){e:Evt}
  (hf:f'={ f with qs:=qset f.qs n { f.qs n with l:=(f.qs n).l++[e] } }) (r:Rf 8 qyZ h h' v ((f.qs n).l++[e]).length (((f.qs n).l++[e]).flatMap evC)) :
  ∃ o',h' q=some (.cells (rfdC room pv qv fun j=>(f.qs j).lost).toArray qwZ (0,0))∧o'=over (rfdC room pv qv fun j=>(f.qs j).lost).toArray (2+n) [v]∧Only (fun t=>t=g) T h T (upd h' q (.cells o' qwZ (0,0)))∧RfB T (upd h' q (.cells o' qwZ (0,0))) g q room pv (fun j=>if j=n then v else qv j) ps f':=by
 have cq:=r.ex _ _ x.hp
 have o1:Only (fun t=>t=g) T h T h':=Only.of_ext w r.ex
 have u:=fun o'=>Only.upd (U:=fun t=>t=g) (o':=o') o1.wf cq x.tq
 refine⟨_,cq,rfl,o1.trans (u _),?_⟩
 rw[rfd_over hn]
 have e2:=(u (.cells (rfdC room pv (fun j=>if j=n then v else qv j) fun j=>(f.qs j).lost).toArray qwZ (0,0))).ext (fun hh=>gn hh.symm)
 have e1:=fz_of_ext (T:=T) r.ex
 subst hf
 refine⟨?_,x.tq,x.pr.ext (@PairR.ext) (e1.trans e2),fun j hj=>?_⟩
 ·rw[upd_same']
  congr 3
  congr 1
  funext j
  by_cases hj:j=n
  ·subst hj; simp[qset]
  ·simp -implicitDefEqProofs[qset,hj]
 ·show Sl 8 EvR _ (if j=n then v else qv j) (qset f.qs n _ j).l
  by_cases hj':j=n
  ·subst hj'
   simp -implicitDefEqProofs only[if_true,qset]
   exact (rf_evT r w).ext (@EvR.ext) e2
  ·simp -implicitDefEqProofs only[if_neg hj',qset]
   exact (x.qs j hj).ext (@EvR.ext) (e1.trans e2)
theorem RfB.qlost {T:Tags}{h:Heap}{g:Tag}{q:Nat}{room:Int}{pv:Value}{qv:Nat→Value}{ps:List PairD}{f f':Feed}(x:RfB T h g q room pv qv ps f)(w:Wf T h)(gn:g≠[]){n:Nat}(hn:n<8)
  (hf:f'={ f with qs:=qset f.qs n { f.qs n with lost:=true } }) :
  ∃ o',o'=over (rfdC room pv qv fun j=>(f.qs j).lost).toArray (10+n) [.bool true]∧Only (fun t=>t=g) T h T (upd h q (.cells o' qwZ (0,0)))∧RfB T (upd h q (.cells o' qwZ (0,0))) g q room pv qv ps f':=by
 have u:=fun o'=>Only.upd (U:=fun t=>t=g) (o':=o') w x.hp x.tq
 refine⟨_,rfl,u _,?_⟩
 rw[rfd_lost hn]
 have e2:=(u (.cells (rfdC room pv qv fun j=>if j=n then true else (f.qs j).lost).toArray qwZ (0,0))).ext (fun hh=>gn hh.symm)
 subst hf
 refine⟨?_,x.tq,x.pr.ext (@PairR.ext) e2,fun j hj=>?_⟩
 ·rw[upd_same']
  congr 3
  congr 1
  funext j
  by_cases hj:j=n
  ·subst hj; simp[qset]
  ·simp -implicitDefEqProofs[qset,hj]
 ·show Sl 8 EvR _ (qv j) (qset f.qs n _ j).l
  by_cases hj':j=n
  ·subst hj'
   simp -implicitDefEqProofs only[if_true,qset]
   exact (x.qs j hj).ext (@EvR.ext) e2
  ·simp -implicitDefEqProofs only[if_neg hj',qset]
   exact (x.qs j hj).ext (@EvR.ext) e2
set_option maxHeartbeats 8000000 in
theorem rftell_ok (l : List Chg) (seq : Int) {T : Tags} {h : Heap} {g : Tag} {q : Nat} {room : Int} {pv : Value} {qv : Nat → Value} {ps : List PairD} {f : Feed} (w : Wf T h) (gn : g ≠ []) (x : RfB T h g q room pv qv ps f) (pp : FdP f ps) (fg : FdG f) (rm : RmE f room) (hp : ps.length < 1000000) {cv : Value}
    (cx : Sl 7 ChgR (fz T h) cv l) (hl : l.length < 1000000) {K : KTy} (hk : ∀ h' qv', Only (fun t => t = g) T h T h' → RfB T h' g q room pv qv' ps (f.tell l seq) → K (.tuple #[]) h') : callM P qauZ #[ptr q, cv, .int .u64 seq] h K := by
  apply qpWZ
  unfold qepZ
  have hlen := cx.len
  have gn' : ¬ (fun t : Tag => t = g) [] := fun h => gn h.symm
  refine loop_on [0, 1, 2] (fun s h' => RtO T h g q room pv ps f l seq (s 6) h') (fun s _ => (l.length - num (s 6)).toNat) ⟨qv, 0, Only.refl w, by simpa [Feed.tell] using x, by omega, rfl⟩ ?_
  rintro s h1 hf ⟨qv1, i, o1, x1, hi, s6⟩
  have s0 : s 0 = ptr q := by simpa using hf 0 (by simp)
  have s1 : s 1 = cv := by simpa using hf 1 (by simp)
  have s2 : s 2 = .int .u64 seq := by simpa using hf 2 (by simp)
  unfold qiaZ
  simp -implicitDefEqProofs only [s6, s1, hlen, bin_lss, ov_s, cd_b]
  refine ⟨fun hc => ?_, fun hc => ?_⟩
  rotate_left
  · have : i = l.length := by have : ¬ ((i : Int) < l.length) := by simpa using hc
                              omega
    subst this
    rw [List.take_length] at x1
    simp -implicitDefEqProofs
    exact hk h1 _ o1 x1
  have hlt : i < l.length := by have : ((i : Int) < l.length) := by simpa using hc
                                omega
  have hw : IntKind.i64.wrap ((i : Int) + 1) = (i + 1 : Nat) := by rw [wrap64_id (by omega) (by omega)]; omega
  unfold qhZZ
  rw [seqM_eq]
  unfold qhYZ
  obtain ⟨b, p, i1, i2⟩ := chg_ld cx (k := .i64) hlt
  obtain ⟨c, hcc⟩ : ∃ c, l[i] = c := ⟨_, rfl⟩
  have hs1 := tell_succ f l seq hlt
  obtain ⟨f1, hf1⟩ : ∃ f1, f.tell (l.take i) seq = f1 := ⟨_, rfl⟩
  have fg1 : FdG f1 := hf1 ▸ fg.tell seq _
  have pp1 : FdP f1 ps := hf1 ▸ pp.tell _ seq
  have rm1 : RmE f1 room := hf1 ▸ rm.tell seq _
  rw [hf1] at x1 hs1
  rw [hcc] at hs1 i2
  refine loop_on [0, 1, 2, 6] (fun s' h' => RtIn T h g q room pv ps f1 c seq (s' 7) h') (fun s' _ => (8 - num (s' 7)).toNat) ⟨qv1, 0, o1, x1, by omega, rfl⟩ ?_
  rintro s' h3 hf' ⟨qv3, n, o3, X3, hn, s7⟩
  have t0 : s' 0 = ptr q := by simpa [s0] using hf' 0 (by simp)
  have t1 : s' 1 = cv := by simpa [s1] using hf' 1 (by simp)
  have t2 : s' 2 = .int .u64 seq := by simpa [s2] using hf' 2 (by simp)
  have t6 : s' 6 = .int .i64 i := by simpa [s6] using hf' 6 (by simp)
  unfold qhXZ
  simp -implicitDefEqProofs only [s7, bin_lss, ov_s, cd_b]
  refine ⟨fun hc8 => ?_, fun hc8 => ?_⟩
  rotate_left
  · have : n = 8 := by have : ¬ ((n : Int) < 8) := by simpa using hc8
                       omega
    subst this
    simp -implicitDefEqProofs [t6, hw, t0, t1, t2, s0, s1, s2, s6, -Int.natCast_add]
    exact ⟨⟨qv3, i + 1, o3, by rw [hs1]; exact X3, by omega, rfl⟩, by omega⟩
  have hn8 : n < 8 := by have : ((n : Int) < 8) := by simpa using hc8
                         omega
  have hw8 : IntKind.i64.wrap ((n : Int) + 1) = (n + 1 : Nat) := by rw [wrap64_id (by omega) (by omega)]; omega
  have fg3 : FdG (f1.tell1 c seq n) := fg1.tell1 c seq n
  have pp3 : FdP (f1.tell1 c seq n) ps := pp1.tell1 c seq n
  have rm3 : RmE (f1.tell1 c seq n) room := rm1.tell1 c seq n
  obtain ⟨f3, hf3⟩ : ∃ f3, f1.tell1 c seq n = f3 := ⟨_, rfl⟩
  have hsucc : f1.tell1 c seq (n + 1) = if f1.watching n c.user then { f3 with qs := qset f3.qs n ((f3.qs n).put ⟨c.user, c.old, c.new, seq⟩) } else f3 := by rw [← hf3]; rfl
  have hwt : f3.watching n c.user = f1.watching n c.user := by rw [← hf3]; unfold Feed.watching; rw [tell1_ws]
  rw [hf3] at X3 fg3 pp3 rm3
  have e3 : Ext (fz T h) h3 := (o3.ext gn').trans (fz_ext _ _)
  have ic := i2 _ e3
  have q0 : cel h3 b p = some (.string c.user) := (cels_get ic).2 0 (by simp [chgC])
  have ld1 : ldV (some (some 3)) (.pointer (some ⟨b, p + 1, none⟩)) h3 = some (.agg (presC c.old).toArray) := by
    have := cels_sub ic (j := 1) (m := 3) (by omega)
    simpa [chgC, presC] using ldV_n this
  have ld4 : ldV (some (some 3)) (.pointer (some ⟨b, p + 4, none⟩)) h3 = some (.agg (presC c.new).toArray) := by
    have := cels_sub ic (j := 4) (m := 3) (by omega)
    simpa [chgC, presC] using ldV_n this
  have cq := X3.hp
  have cqn : cel h3 q (2 + n) = some (qv3 n) := by rw [cel_of cq]; exact rfd_q hn8
  have cq0 : cel h3 q 0 = some (.int .i64 room) := by rw [cel_of cq]; rfl
  have xqn := (X3.qs n hn8).ext (@EvR.ext) (fz_ext T h3)
  have lqn := xqn.len
  have gqn := fg3.qs n hn8
  unfold qhWZ
  rw [seqM_eq]
  unfold qhVZ
  simp -implicitDefEqProofs [t0, t1, t6, s7, i1, q0]
  refine rfwatching_ok cq (X3.pr.ext (@PairR.ext) (fz_ext T h3)) hp n c.user ?_
  rw [pp3.watching fg3, hwt]
  unfold qhUZ
  cases hwa : f1.watching n c.user with
  | false =>
    rw [hwa] at hsucc
    simp -implicitDefEqProofs
    unfold qhSZ
    simp -implicitDefEqProofs [hw8, t0, t1, t2, t6, s7, s0, s1, s2, s6, -Int.natCast_add]
    exact ⟨⟨qv3, n + 1, o3, by rw [hsucc]; exact X3, by omega, rfl⟩, by omega⟩
  | true =>
    rw [hwa, if_pos rfl] at hsucc
    simp -implicitDefEqProofs
    unfold qhTZ
    simp -implicitDefEqProofs [t0, s7, ia_arr hn8, cqn, lqn, cq0]
    refine ⟨fun hfull => ?_, fun hroom => ?_⟩
    · obtain ⟨o', ho', oo, X'⟩ := X3.qlost (f' := f1.tell1 c seq (n + 1)) o3.wf gn hn8 (by rw [hsucc]; unfold Ring.put; rw [if_pos (by rw [rm3 n hn8]; omega)])
      unfold qgIZ
      simp -implicitDefEqProofs [t0, s7, ia_arr hn8]
      rw [stm_at cq (by simp) (by rw [rfd_size]; omega) (by simp)]
      simp -implicitDefEqProofs [hw8, t0, t1, t2, t6, s7, s0, s1, s2, s6, -Int.natCast_add]
      rw [← ho']
      exact ⟨⟨qv3, n + 1, o3.trans oo, X', by omega, rfl⟩, by omega⟩
    · obtain ⟨ev, hev⟩ : ∃ ev : Evt, ev = ⟨c.user, c.old, c.new, seq⟩ := ⟨_, rfl⟩
      have hput : f1.tell1 c seq (n + 1) = { f3 with qs := qset f3.qs n { f3.qs n with l := (f3.qs n).l ++ [ev] } } := by
        rw [hsucc]; unfold Ring.put; rw [if_neg (by rw [rm3 n hn8]; omega), hev]
      have reads : ∀ {h'}, Ext h3 h' → cel h' q (2 + n) = some (qv3 n) ∧ cel h' b p = some (.string c.user) ∧ ldV (some (some 3)) (.pointer (some ⟨b, p + 1, none⟩)) h' = some (.agg (presC c.old).toArray) ∧ ldV (some (some 3)) (.pointer (some ⟨b, p + 4, none⟩)) h' = some (.agg (presC c.new).toArray) := fun {h'} e => by
        have ic' := i2 _ (e3.trans e)
        refine ⟨by rw [cel_of (e _ _ cq)]; exact rfd_q hn8, (cels_get ic').2 0 (by simp [chgC]), ?_, ?_⟩
        · have := cels_sub ic' (j := 1) (m := 3) (by omega)
          simpa [chgC, presC] using ldV_n this
        · have := cels_sub ic' (j := 4) (m := 3) (by omega)
          simpa [chgC, presC] using ldV_n this
      have evA : Value.agg #[.string c.user, .int .i64 c.old.st, .int .i64 c.old.pr, .int .i64 c.old.lv, .int .i64 c.new.st, .int .i64 c.new.pr, .int .i64 c.new.lv, .int .u64 seq] = .agg (evC ev).toArray := by rw [hev]; rfl
      have evs : (Value.agg (evC ev).toArray).cells.size = 8 := by simp [evC, presC]
      have onel : ∀ (l : List Evt) (u : Value), u ∈ l.flatMap evC → u.oneCell' = true := fun l u hu => by
        obtain ⟨y, _, hy⟩ := List.mem_flatMap.1 hu
        exact evC_one y u hy
      have hfl : ((f3.qs n).l ++ [ev]).flatMap evC = (f3.qs n).l.flatMap evC ++ evC ev := by simp
      have g16 := gqn.2.2
      have app : ∀ {h1 : Heap} {v1 : Value} {K' : KTy}, Rf 8 qyZ h3 h1 v1 0 [] → (∀ v2 h2, Rf 8 qyZ h3 h2 v2 (f3.qs n).l.length ((f3.qs n).l.flatMap evC) → (∀ b o, h1 b = some o → rowOf v1 ≠ some b → h2 b = some o) → K' v2 h2) → vvM P (Builtin.append_ #[qfZ, qfZ] qfZ #[v1, qv3 n]) h1 K' := fun {h1 v1 K'} r1 hK => by
        refine Rf.app2 unSlEv apEv (by omega) r1 (ev_els (xqn.ext (@EvR.ext) r1.ex)) (onel _) (by unfold maxLen; omega) (by omega) fun v2 h2 r2 kp2 _ => ?_
        refine hK v2 h2 ?_ kp2
        simpa using r2
      have app1 : ∀ {h1 : Heap} {v1 : Value} {be : Nat} {K' : KTy}, Rf 8 qyZ h3 h1 v1 (f3.qs n).l.length ((f3.qs n).l.flatMap evC) → h1 be = some (.cells (evC ev).toArray qyZ (0, 0)) → (∀ v2 h2, Rf 8 qyZ h3 h2 v2 ((f3.qs n).l ++ [ev]).length (((f3.qs n).l ++ [ev]).flatMap evC) → K' v2 h2) →
          vvM P (Builtin.append_ #[qfZ, qfZ] qfZ #[v1, .slice (some ⟨be, 0, none⟩) 1 1]) h1 K' := fun {h1 v1 be K'} r1 cb hK => by
        refine Rf.app2 (m := 1) (news := evC ev) unSlEv apEv (by omega) r1 (.inr ⟨be, 0, 1, rfl, cels_one (x := .agg (evC ev).toArray) cb (by simp [evC, presC])⟩) (evC_one ev) (by unfold maxLen; omega) (by omega) fun v2 h2 r2 _ _ => ?_
        refine hK v2 h2 ?_
        rw [hfl]; simpa using r2
      have fin : ∀ {h' : Heap} {v' : Value}, Rf 8 qyZ h3 h' v' ((f3.qs n).l ++ [ev]).length (((f3.qs n).l ++ [ev]).flatMap evC) → ∀ {Q : Post} (ss : Env) (m : List Nat), (∀ h'', RtIn T h g q room pv ps f1 c seq (.int .i64 (n + 1 : Nat)) h'' → Q .normal m ss h'') → stM (some 1) (.pointer (some ⟨q, 2 + n, none⟩)) v' h' fun h'' => Q .normal m ss h'' := by
        intro h' v' r Q ss m hQ
        obtain ⟨o', hq', ho', oo, X'⟩ := X3.qput o3.wf gn hn8 hput r
        have ro := r.row.one
        rw [stm_at hq' (by simp [ro.2]) (by rw [rfd_size]; omega) (by simp [ro.1, ro.2])]
        simp -implicitDefEqProofs only [ro.2]
        rw [← ho']
        exact hQ _ ⟨_, n + 1, o3.trans oo, X', by omega, rfl⟩
      unfold qgPZ
      obtain ⟨z1, z2, z3, z4⟩ := reads (Ext.refl h3)
      simp -implicitDefEqProofs only [presC] at z3 z4
      simp -implicitDefEqProofs [t0, t1, t2, t6, s7, ia_arr hn8, i1, z1, z2, z3, z4, bdEv]
      rw [evA]
      refine ⟨?_, ?_⟩
      · unfold qgMZ
        refine bs_none bsEv fun v1 h4 e4 row4 hr4 new4 => ?_
        have r4 : Rf 8 qyZ h3 h4 v1 0 [] := ⟨e4, row4, new4, by simp⟩
        obtain ⟨z1, z2, z3, z4⟩ := reads e4
        refine ⟨z1, z2, z3, z4, ?_, ?_⟩
        · refine app r4 fun v5 h5 r5 _ => ?_
          obtain ⟨z1, z2, z3, z4⟩ := reads r5.ex
          unfold qgKZ
          refine ⟨z2, z3, z4, ?_⟩
          refine bs_one bsEv evs (by omega) fun be h6 n6 e6 c6 => ?_
          refine app1 (r5.ext e6) c6 fun v7 h7 r7 => ?_
          unfold qgJZ
          simp -implicitDefEqProofs only [s7, ia_arr hn8, ov_s]
          refine fin r7 _ _ fun h'' J => ?_
          simp -implicitDefEqProofs [hw8, t0, t1, t2, t6, s7, s0, s1, s2, s6, -Int.natCast_add]
          exact ⟨J, by omega⟩
        · refine bs_one bsEv evs (by omega) fun be h5 n5 e5 c5 => ?_
          obtain ⟨z1, z2, z3, z4⟩ := reads (e4.trans e5)
          refine ⟨z1, ?_⟩
          refine app (r4.ext e5) fun v6 h6 r6 kp6 => ?_
          have c6 := kp6 be _ c5 fun hh => by
            obtain ⟨o, ho⟩ := row4.lt be hh
            rw [n5] at ho; cases ho
          refine app1 r6 c6 fun v7 h7 r7 => ?_
          unfold qgLZ
          simp -implicitDefEqProofs only [s7, ia_arr hn8, ov_s]
          refine fin r7 _ _ fun h'' J => ?_
          simp -implicitDefEqProofs [hw8, t0, t1, t2, t6, s7, s0, s1, s2, s6, -Int.natCast_add]
          exact ⟨J, by omega⟩
      · unfold qgOZ
        refine bs_one bsEv evs (by omega) fun be h4 n4 e4 c4 => ?_
        obtain ⟨z1, z2, z3, z4⟩ := reads e4
        refine ⟨z1, ?_⟩
        refine bs_none bsEv fun v1 h5 e5 row5 hr5 new5 => ?_
        have r5 : Rf 8 qyZ h3 h5 v1 0 [] := ⟨e4.trans e5, row5, fun g hg => fresh_of e4 (new5 g hg), by simp⟩
        obtain ⟨z1, z2, z3, z4⟩ := reads (e4.trans e5)
        refine ⟨z1, ?_⟩
        refine app r5 fun v6 h6 r6 kp6 => ?_
        have c6 := kp6 be _ (e5 _ _ c4) fun hh => by
          have := new5 be hh
          rw [c4] at this; cases this
        refine app1 r6 c6 fun v7 h7 r7 => ?_
        unfold qgNZ
        simp -implicitDefEqProofs only [s7, ia_arr hn8, ov_s]
        refine fin r7 _ _ fun h'' J => ?_
        simp -implicitDefEqProofs [hw8, t0, t1, t2, t6, s7, s0, s1, s2, s6, -Int.natCast_add]
        exact ⟨J, by omega⟩
end Go.Proofs.YtmbningljbcpkaaGreat
namespace Go.Proofs.YtmbningljbcpkaaGreat
open Go Go.Den Go.MapKept
set_option linter.unusedSimpArgs false
set_option linter.unusedVariables false
set_option maxRecDepth 20000
variable {K:KTy}
theorem radd_ok (a b:Int)(ha:U64 a)(hb:U64 b){h:Heap}(hk:K (.int .u64 (addU a b)) h):callM P qbcZ #[.int .u64 a,.int .u64 b] h K:=by
 apply qpbZ
 unfold qeTZ
 unfold U64 at ha hb
 have w1:IntKind.u64.wrap (18446744073709551615-a)=18446744073709551615-a:=wrapU_id (by omega) (by omega)
 unfold addU at hk
 by_cases hc:18446744073709551615-a<b
 ·rw[if_pos hc] at hk
  simp -implicitDefEqProofs[w1,hc]; exact hk
 ·rw[if_neg hc] at hk
  have w2:IntKind.u64.wrap (a+b)=a+b:=wrapU_id (by omega) (by omega)
  simp -implicitDefEqProofs[w1,hc,w2]; exact hk
theorem lc_V03 {g:Tag}(gg:Gd g):¬ V03 g lc:=by rintro (h | h)<;>exact lc_ne g gg _ h
theorem RhR.lst {T:Tags}{h:Heap}{g:Tag}{p:Nat}{H:Hall}(x:RhR T h g p H)(gg:Gd g){b:Nat}{o o':Obj}(w:Wf T h)(e:h b=some o∧T b=lc):RhR T (upd h b o') g p H:=x.kp (Only.lst w e).k gg.off (by simp)
theorem RhX.tst {T:Tags}{h:Heap}{g:Tag}{p:Nat}{H:Hall}{sv av:Value}{Y:Nat→RSx}(x:RhX T h g p H sv av Y)(w:Wf T h)(t:Tm) :
  Only (fun u=>u=g++[0]) T h T (upd h p (.cells (rhC { H with t:=t } sv av).toArray qrZ (0,0)))∧RhX T (upd h p (.cells (rhC { H with t:=t } sv av).toArray qrZ (0,0))) g p { H with t:=t } sv av Y:=by
 have o:Only (fun u=>u=g++[0]) T h T (upd h p (.cells (rhC { H with t:=t } sv av).toArray qrZ (0,0))):=Only.upd w x.hp x.tp
 exact⟨o,upd_same' _ _ _,x.tp,x.st.kp o.k (ne_tag (by simp)),x.ac.kp o.k (ne_tag (by simp)),fun i hi=>(x.sr i hi).kp o.k (ne_tag (by simp)) (ne_tag (by simp)) (by simp)⟩
theorem rz_pass (who by_:Int)(hb:U64 by_){T:Tags}{h:Heap}{g:Tag}{p:Nat}{H:Hall}(w:Wf T h)(x:RhR T h g p H)(ht:U64 H.t.now)(hl:H.acts.length<1000000)
  (hk:∀ T' h',Only (pre g) T h T' h'→RhR T' h' g p (H.pass who by_)→K (.tuple #[]) h'):callM P qdQZ #[ptr p,.int .i64 who,.int .u64 by_] h K:=by
 apply qpOZ
 unfold qelZ
 obtain⟨sv,av,Y,x⟩:=x
 refine rz_did who 4 0 w x hl fun T2 h2 av2 o2 x2=>?_
 have cp:=x2.hp
 simp -implicitDefEqProofs only[rhC] at cp
 unfold qhIZ
 simp -implicitDefEqProofs[ld_at cp,cel_of cp,stm_at cp,stm_upd,ld_same,cel_same,over,Hall.did]
 refine radd_ok _ _ ht hb ?_
 obtain⟨o4,x4⟩:=x2.tst o2.wf { H.t with now:=addU H.t.now by_ }
 simp -implicitDefEqProofs[ld_at cp,cel_of cp,stm_at cp,stm_upd,ld_same,cel_same,over]
 exact hk T2 _ ((o2.mono fun _=>V03.pre).up o4 fun t=>eq_pre) ⟨sv,av2,Y,x4⟩
theorem rz_take (who:Int){T:Tags}{h:Heap}{g:Tag}{p:Nat}{H:Hall}(w:Wf T h)(gg:Gd g)(x:RhR T h g p H)(ht:U64 H.t.seq)(hl:H.acts.length<1000000)
  (hk:∀ T' h',Only (pre g) T h T' h'→RhR T' h' g p (H.take who)→K (.agg (tmC { H.t with seq:=addU H.t.seq 1 }).toArray) h'):callM P qdUZ #[ptr p,.int .i64 who] h K:=by
 apply qpRZ
 unfold qenZ
 rw[zcTime]
 refine nw_tag w lc fun v1 T1 h1 n1 o1 t1 c1=>?_
 obtain⟨sv,av,Y,x1⟩:=x.kp o1.k (Off.non _) (not_non _)
 have b1:h1 v1=_∧T1 v1=lc:=⟨c1,t1⟩
 refine rz_did who 4 0 o1.wf x1 hl fun T2 h2 av2 o2 x2=>?_
 have b1:=o2.see b1 (lc_V03 gg)
 have cp:=x2.hp
 simp -implicitDefEqProofs only[rhC] at cp
 unfold qhNZ
 simp -implicitDefEqProofs[ld_at cp,cel_of cp,stm_at cp,stm_upd,ld_same,cel_same,over,Hall.did]
 refine radd_ok _ _ ht (by simp[U64]) ?_
 obtain⟨o4,x4⟩:=x2.tst o2.wf { H.t with seq:=addU H.t.seq 1 }
 have b1:=o4.see b1 (lc_ne g gg _)
 have c1:=b1.1
 have cp4:=x4.hp
 have oo:Only (pre g) T h T2 _:=((o1.mono fun _=>non_up _).up o2 fun _=>V03.pre).up o4 fun t=>eq_pre
 unfold qhMZ
 simp -implicitDefEqProofs[ld_at cp,cel_of cp,stm_at cp,stm_upd,ld_same,cel_same,over,Hall.did]
 simp -implicitDefEqProofs only[rhC,Hall.did] at c1 cp4 x4 oo b1
 generalize upd h2 p _=h4 at *
 simp -implicitDefEqProofs[ld_at cp4,cel_of cp4,stm_at cp4,ld_at c1,cel_of c1,stm_at c1,stm_upd,ld_same,cel_same,over]
 exact hk T2 _ (oo.own n1 c1) (RhR.lst ⟨sv,av2,Y,x4⟩ gg oo.wf b1)
theorem put_self (H:Hall)(s:Nat):H.put s (H.ss s)=H:=by
 have:sput H.ss s (H.ss s)=H.ss:=by
  funext k
  simp -implicitDefEqProofs only[sput]
  split
  ·rename_i h; rw[h]
  ·rfl
 unfold Hall.put
 rw[this]
theorem pl4 {s:Nat}(hs:s<8):IntKind.i64.wrap (4*(s:Int))=4*s∧(∀ k:Int,0≤k→k≤4→IntKind.i64.wrap (4*(s:Int)+k)=4*s+k):=⟨wrap64_id (by omega) (by omega),fun k h1 h2=>wrap64_id (by omega) (by omega)⟩
section
variable {s:Nat}{T:Tags}{h:Heap}{g:Tag}{p:Nat}{H:Hall}{K:KTy}
theorem RhX.stw {sv av:Value}{Y:Nat→RSx}(x:RhX T h g p H sv av Y)(w:Wf T h)(hs:s<H.n)(X':Strp)(sn' bk':Value)(h1:Sl 5 UsrR (fz T h) sn' X'.snap)(h2:Sl 5 UsrR (fz T h) bk' X'.book)(hf:X'.feed=(H.ss s).feed)(hb:X'.bound=(H.ss s).bound) :
  Only (V12 g s) T h T (upd h (Y s).bp (.cells (rstC X' { Y s with sn:=sn',bk:=bk' }).toArray qAZ (0,0))) ∧
  RhX T (upd h (Y s).bp (.cells (rstC X' { Y s with sn:=sn',bk:=bk' }).toArray qAZ (0,0))) g p (H.put s X') sv av (fun k=>if k=s then { Y s with sn:=sn',bk:=bk' } else Y k):=by
 have r:=x.sr s hs
 have o1:Only (fun t=>t=g++[1,s]) T h T (upd h (Y s).bp (.cells (rstC X' { Y s with sn:=sn',bk:=bk' }).toArray qAZ (0,0))):=Only.upd w r.hp r.tp
 have o2:=o1.mono (V:=V12 g s) fun t e=>.inl e
 have e:=o1.ext (by simp)
 refine⟨o2,x.sett o2 ⟨upd_same' _ _ _,r.tp,h1.ext (@UsrR.ext) e,h2.ext (@UsrR.ext) e,?_,by rw[hf]; exact r.pp,by rw[hf]; exact r.rm,by rw[hb]; exact r.bd⟩ rfl⟩
 rw[hf]
 exact r.fd.kp o1.k (ne_tag (by simp)) (by simp)
theorem rz_begin (who:Int)(w:Wf T h)(x:RhR T h g p H)(hs:s<H.n)(h8:H.n≤8)(hl:H.acts.length<1000000)(hv:U64 (H.ss s).v)(he:U64 H.c.epochs)
  (hk:∀ T' h',Only (pre g) T h T' h'→RhR T' h' g p (H.begin who s)→K (.tuple #[]) h'):callM P qdEZ #[ptr p,.int .i64 who,.int .i64 s] h K:=by
 apply qpDZ
 unfold qdYZ
 obtain⟨sv,av,Y,x⟩:=x
 obtain⟨w4,w5⟩:=pl4 (show s<8 by omega)
 simp -implicitDefEqProofs[w4,w5 2 (by omega) (by omega)]
 refine rz_did who 4 _ w x hl fun T2 h2 av2 o2 x2=>?_
 have cp:=x2.hp
 simp -implicitDefEqProofs only[rhC] at cp
 obtain⟨b,ia,cb⟩:=x2.at_ (k:=.i64) (s:=s) hs
 have r:=x2.sr s hs
 have cs:=r.hp
 simp -implicitDefEqProofs only[rstC] at cs
 unfold qgCZ
 simp -implicitDefEqProofs[ld_at cp,cel_of cp,stm_at cp,ld_at cs,cel_of cs,stm_at cs,stm_upd,ld_same,cel_same,over,ia,cb]
 refine rbegin05_ok _ _ hv he ?_
 unfold qgBZ
 simp -implicitDefEqProofs[ld_at cp,cel_of cp,stm_at cp,ld_at cs,cel_of cs,stm_at cs,stm_upd,ld_same,cel_same,over,ia,cb]
 obtain⟨o4,x4⟩:=x2.stw o2.wf hs { (H.did who 4 (4*s+2)).ss s with v:=bgn (H.ss s).v (H.ss s).bound } (Y s).sn (Y s).bk r.sn r.bk rfl rfl
 have hb:=r.bd
 rw[show (H.did who 4 (4*(s:Int)+2)).ss s=H.ss s from rfl,show (H.did who 4 (4*(s:Int)+2)).c=H.c from rfl] at *
 rw[← hb]
 exact hk T2 _ ((o2.mono fun _=>V03.pre).up o4 fun t=>V12.pre) ⟨sv,av2,_,x4⟩
theorem rz_end (who:Int)(w:Wf T h)(x:RhR T h g p H)(hs:s<H.n)(h8:H.n≤8)(hl:H.acts.length<1000000)(hv:0≤(H.ss s).v∧(H.ss s).v<18446744073709551615)
  (hk:∀ T' h',Only (pre g) T h T' h'→RhR T' h' g p (H.end_ who s)→K (.tuple #[]) h'):callM P qehZ #[ptr p,.int .i64 who,.int .i64 s] h K:=by
 apply qqiZ
 unfold qeJZ
 obtain⟨sv,av,Y,x⟩:=x
 obtain⟨w4,w5⟩:=pl4 (show s<8 by omega)
 simp -implicitDefEqProofs[w4,w5 2 (by omega) (by omega)]
 refine rz_did who 4 _ w x hl fun T2 h2 av2 o2 x2=>?_
 have cp:=x2.hp
 simp -implicitDefEqProofs only[rhC] at cp
 obtain⟨b,ia,cb⟩:=x2.at_ (k:=.i64) (s:=s) hs
 have r:=x2.sr s hs
 have cs:=r.hp
 simp -implicitDefEqProofs only[rstC] at cs
 unfold qiQZ
 simp -implicitDefEqProofs[ld_at cp,cel_of cp,stm_at cp,ld_at cs,cel_of cs,stm_at cs,stm_upd,ld_same,cel_same,over,ia,cb]
 refine rend05_ok _ hv ?_
 unfold qiPZ
 simp -implicitDefEqProofs[ld_at cp,cel_of cp,stm_at cp,ld_at cs,cel_of cs,stm_at cs,stm_upd,ld_same,cel_same,over,ia,cb]
 obtain⟨o4,x4⟩:=x2.stw o2.wf hs { (H.did who 4 (4*s+2)).ss s with v:=endV (H.ss s).v } (Y s).sn (Y s).bk r.sn r.bk rfl rfl
 exact hk T2 _ ((o2.mono fun _=>V03.pre).up o4 fun t=>V12.pre) ⟨sv,av2,_,x4⟩
theorem rz_pub (who:Int)(w:Wf T h)(x:RhR T h g p H)(hs:s<H.n)(h8:H.n≤8)(hl:H.acts.length<999999)
  (hk:∀ T' h',Only (pre g) T h T' h'→RhR T' h' g p (H.pub who s)→K (.tuple #[]) h'):callM P qcsZ #[ptr p,.int .i64 who,.int .i64 s] h K:=by
 apply qpaZ
 unfold qcWZ
 obtain⟨sv,av,Y,x⟩:=x
 obtain⟨w4,w5⟩:=pl4 (show s<8 by omega)
 simp -implicitDefEqProofs[w4,w5 4 (by omega) (by omega)]
 refine rz_did who 1 _ w x (by omega) fun T1 h1 av1 o1 x1=>?_
 unfold qfgZ
 simp -implicitDefEqProofs[w4,w5 3 (by omega) (by omega)]
 refine rz_did who 4 _ o1.wf x1 (by simp[Hall.did]; omega) fun T2 h2 av2 o2 x2=>?_
 have cp:=x2.hp
 simp -implicitDefEqProofs only[rhC] at cp
 obtain⟨b,ia,cb⟩:=x2.at_ (k:=.i64) (s:=s) hs
 have r:=x2.sr s hs
 have cs:=r.hp
 simp -implicitDefEqProofs only[rstC] at cs
 have ob:=r.bk.one
 unfold qffZ
 simp -implicitDefEqProofs[ld_at cp,cel_of cp,stm_at cp,ld_at cs,cel_of cs,stm_at cs,stm_upd,ld_same,cel_same,over,ia,cb,ob.1,ob.2]
 obtain⟨o4,x4⟩:=x2.stw o2.wf hs { H.ss s with snap:=(H.ss s).book } (Y s).bk (Y s).bk r.bk r.bk rfl rfl
 exact hk T2 _ (((o1.mono fun _=>V03.pre).up o2 fun _=>V03.pre).up o4 fun t=>V12.pre) ⟨sv,av2,_,x4⟩
theorem rz_of (u:ByteArray)(hu:u.size≤maxLen)(x:RhR T h g p H)(hc:H.c.stripes≤8)(hk:K (.int .i64 (stripeOf u H.c.stripes)) h):callM P qeHZ #[ptr p,.string u] h K:=by
 apply qqHZ
 unfold qfbZ
 obtain⟨sv,av,Y,x⟩:=x
 have cp:=x.hp
 simp -implicitDefEqProofs only[rhC] at cp
 simp -implicitDefEqProofs[ld_at cp,cel_of cp,stm_at cp,stm_upd,ld_same,cel_same,over]
 exact rstripe_ok u _ (by omega) hu hk
end
end Go.Proofs.YtmbningljbcpkaaGreat
namespace Go.Proofs.YtmbningljbcpkaaGreat
open Go Go.Den Go.MapKept
set_option linter.unusedSimpArgs false
set_option linter.unusedVariables false
set_option maxRecDepth 20000
section
variable {s:Nat}{T:Tags}{h:Heap}{g:Tag}{p:Nat}{H:Hall}{K:KTy}
set_option maxHeartbeats 1000000 in
theorem rz_lock (who:Int)(w:Wf T h)(x:RhR T h g p H)(hs:s<H.n)(h8:H.n≤8)(hl:H.acts.length<1000000)(hw:0≤(H.ss s).who)
  (hk:∀ T' h',Only (pre g) T h T' h'→RhR T' h' g p (H.lock who s)→K (.bool (canTake (H.ss s).who who)) h'):callM P qdVZ #[ptr p,.int .i64 who,.int .i64 s] h K:=by
 apply qpSZ
 unfold qeoZ
 obtain⟨sv,av,Y,x⟩:=x
 obtain⟨w4,w5⟩:=pl4 (show s<8 by omega)
 have cp:=x.hp
 simp -implicitDefEqProofs only[rhC] at cp
 obtain⟨b,ia,cb⟩:=x.at_ (k:=.i64) (s:=s) hs
 have r:=x.sr s hs
 have cs:=r.hp
 simp -implicitDefEqProofs only[rstC] at cs
 simp -implicitDefEqProofs[ld_at cp,cel_of cp,stm_at cp,ld_at cs,cel_of cs,stm_at cs,stm_upd,ld_same,cel_same,over,ia,cb]
 refine rtake13_ok _ _ ?_
 unfold qhRZ
 by_cases hc:canTake (H.ss s).who who=true
 ·have hc':0≤who∧(H.ss s).who=0:=by simpa [canTake] using hc
  rw[if_pos ⟨by omega,hc'.1⟩,if_pos ⟨by omega,hc'.1⟩]
  simp -implicitDefEqProofs
  rw[seqM_eq]
  unfold qdJZ
  simp -implicitDefEqProofs
  unfold qhPZ
  simp -implicitDefEqProofs[w4,w5 1 (by omega) (by omega)]
  refine rz_did who 5 _ w x hl fun T2 h2 av2 o2 x2=>?_
  have cp:=x2.hp
  simp -implicitDefEqProofs only[rhC] at cp
  obtain⟨b,ia,cb⟩:=x2.at_ (k:=.i64) (s:=s) hs
  have r:=x2.sr s hs
  have cs:=r.hp
  simp -implicitDefEqProofs only[rstC] at cs
  obtain⟨o4,x4⟩:=x2.stw o2.wf hs { H.ss s with who:=who+1 } (Y s).sn (Y s).bk r.sn r.bk rfl rfl
  have e1:who+1-1=who:=by omega
  simp -implicitDefEqProofs only[rstC,e1] at o4 x4
  have hk:=hk T2 _ ((o2.mono fun _=>V03.pre).up o4 fun t=>V12.pre) ⟨sv,av2,_,by unfold Hall.lock; rw[if_pos hc]; exact x4⟩
  rw[hc] at hk
  unfold qhOZ
  simp -implicitDefEqProofs
  unfold qdKZ
  simp -implicitDefEqProofs[ld_at cp,cel_of cp,stm_at cp,ld_at cs,cel_of cs,stm_at cs,stm_upd,ld_same,cel_same,over,ia,cb]
  exact hk
 ·have hc':¬ (0≤who∧(H.ss s).who=0):=by simpa [canTake] using hc
  rw[if_neg (by omega),if_neg (by omega)]
  simp -implicitDefEqProofs
  rw[seqM_eq]
  unfold qdJZ
  simp -implicitDefEqProofs
  unfold qhQZ
  simp -implicitDefEqProofs
  have hcf:canTake (H.ss s).who who=false:=by simpa using hc
  obtain⟨o4,x4⟩:=x.stw w hs (H.ss s) (Y s).sn (Y s).bk r.sn r.bk rfl rfl
  rw[put_self] at x4
  simp -implicitDefEqProofs only[rstC] at o4 x4
  have hk:=hk T _ (o4.mono fun t=>V12.pre) ⟨sv,av,_,by unfold Hall.lock; rw[if_neg hc]; exact x4⟩
  rw[hcf] at hk
  unfold qdKZ
  simp -implicitDefEqProofs[ld_at cp,cel_of cp,stm_at cp,ld_at cs,cel_of cs,stm_at cs,stm_upd,ld_same,cel_same,over,ia,cb]
  exact hk
set_option maxHeartbeats 1000000 in
theorem rz_unlock (who:Int)(w:Wf T h)(x:RhR T h g p H)(hs:s<H.n)(h8:H.n≤8)(hl:H.acts.length<1000000)(hw:0≤(H.ss s).who)
  (hk:∀ T' h',Only (pre g) T h T' h'→RhR T' h' g p (H.unlock who s)→K (.bool (canGive (H.ss s).who who)) h'):callM P qcRZ #[ptr p,.int .i64 who,.int .i64 s] h K:=by
 apply qppZ
 unfold qdLZ
 obtain⟨sv,av,Y,x⟩:=x
 obtain⟨w4,w5⟩:=pl4 (show s<8 by omega)
 have cp:=x.hp
 simp -implicitDefEqProofs only[rhC] at cp
 obtain⟨b,ia,cb⟩:=x.at_ (k:=.i64) (s:=s) hs
 have r:=x.sr s hs
 have cs:=r.hp
 simp -implicitDefEqProofs only[rstC] at cs
 simp -implicitDefEqProofs[ld_at cp,cel_of cp,stm_at cp,ld_at cs,cel_of cs,stm_at cs,stm_upd,ld_same,cel_same,over,ia,cb]
 refine rgive13_ok _ _ ?_
 unfold qfCZ
 by_cases hc:canGive (H.ss s).who who=true
 ·have hc':¬ (H.ss s).who=0∧(H.ss s).who-1=who:=by simpa [canGive] using hc
  rw[if_pos ⟨by omega,hc'.2⟩,if_pos ⟨by omega,hc'.2⟩]
  simp -implicitDefEqProofs
  rw[seqM_eq]
  unfold qcuZ
  simp -implicitDefEqProofs
  unfold qfAZ
  simp -implicitDefEqProofs[w4,w5 1 (by omega) (by omega)]
  refine rz_did who 6 _ w x hl fun T2 h2 av2 o2 x2=>?_
  have cp:=x2.hp
  simp -implicitDefEqProofs only[rhC] at cp
  obtain⟨b,ia,cb⟩:=x2.at_ (k:=.i64) (s:=s) hs
  have r:=x2.sr s hs
  have cs:=r.hp
  simp -implicitDefEqProofs only[rstC] at cs
  obtain⟨o4,x4⟩:=x2.stw o2.wf hs { H.ss s with who:=0 } (Y s).sn (Y s).bk r.sn r.bk rfl rfl
  have e1:(0:Int)-1 = -1:=by omega
  simp -implicitDefEqProofs only[rstC,e1] at o4 x4
  have hk:=hk T2 _ ((o2.mono fun _=>V03.pre).up o4 fun t=>V12.pre) ⟨sv,av2,_,by unfold Hall.unlock; rw[if_pos hc]; exact x4⟩
  rw[hc] at hk
  unfold qfzZ
  simp -implicitDefEqProofs
  unfold qcvZ
  simp -implicitDefEqProofs[ld_at cp,cel_of cp,stm_at cp,ld_at cs,cel_of cs,stm_at cs,stm_upd,ld_same,cel_same,over,ia,cb]
  exact hk
 ·have hc':¬ (H.ss s).who=0→¬ (H.ss s).who-1=who:=by simpa [canGive] using hc
  rw[if_neg (by omega),if_neg (by omega)]
  simp -implicitDefEqProofs
  rw[seqM_eq]
  unfold qcuZ
  simp -implicitDefEqProofs
  unfold qfBZ
  simp -implicitDefEqProofs
  have hcf:canGive (H.ss s).who who=false:=by simpa using hc
  obtain⟨o4,x4⟩:=x.stw w hs (H.ss s) (Y s).sn (Y s).bk r.sn r.bk rfl rfl
  rw[put_self] at x4
  simp -implicitDefEqProofs only[rstC] at o4 x4
  have hk:=hk T _ (o4.mono fun t=>V12.pre) ⟨sv,av,_,by unfold Hall.unlock; rw[if_neg hc]; exact x4⟩
  rw[hcf] at hk
  unfold qcvZ
  simp -implicitDefEqProofs[ld_at cp,cel_of cp,stm_at cp,ld_at cs,cel_of cs,stm_at cs,stm_upd,ld_same,cel_same,over,ia,cb]
  exact hk
theorem RhX.stf {sv av:Value}{Y:Nat→RSx}(x:RhX T h g p H sv av Y)(hs:s<H.n){T':Tags}{h':Heap}(o:Only (fun t=>t=g++[2,s]) T h T' h'){pv':Value}{qv':Nat→Value}{ps':List PairD}{f':Feed}(r':RfB T' h' (g++[2,s]) (Y s).fp H.c.queue pv' qv' ps' f')(pp:FdP f' ps')(rm:RmE f' H.c.queue) :
  ∃ Y',RhX T' h' g p (H.put s { H.ss s with feed:=f' }) sv av Y':=by
 have r:=x.sr s hs
 have o2:=o.mono (V:=V12 g s) fun t e=>.inr e
 have e:=o.ext (by simp)
 have b:=o.k.at r.hp r.tp (ne_tag (by simp))
 exact⟨_,x.sett o2 (y':={ Y s with pv:=pv',qv:=qv',ps:=ps' }) ⟨b.1,b.2,r.sn.ext (@UsrR.ext) e,r.bk.ext (@UsrR.ext) e,r',pp,rm,r.bd⟩ rfl⟩
end
end Go.Proofs.YtmbningljbcpkaaGreat
