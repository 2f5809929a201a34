/- Words, plain data and contracts of the Go functions that this claim reaches. No condition beyond the hypotheses that each theorem states. -/
import Derived.Test.YtcnphhhcknhhaaaGreatRo4
set_option linter.unusedSimpArgs false
set_option linter.unusedVariables false
namespace Go.Den
open Go
set_option linter.unusedVariables false
set_option linter.unusedSimpArgs false
structure BkM (m:Nat)(b:Book):Prop where
 bw:BkW b
 bl:b.length≤m
 bs:∀ y∈b,y.1.size≤maxLen
 bn:∀ y∈b,y.2.ss.length≤m
structure FdM (m:Nat)(f:Feed):Prop where
 so:SrtK (keysL f.ws)
 len:f.ws.length≤m
 ms:∀ x∈f.ws,0≤x.2∧x.2<4294967296
 ks:∀ x∈f.ws,x.1.size≤maxLen
 qs:∀ j,j<8→RiG (f.qs j)
structure StM (m:Nat)(x:Strp):Prop where
 sn:BkM m x.snap
 bk:BkM m x.book
 v0:0≤x.v∧x.v≤x.bound
 vb:x.bound % 2=0∧x.bound≤18446744073709551615
 wh:0≤x.who∧x.who≤1000
 fd:FdM m x.feed
structure HS (m:Nat)(H:Hall):Prop where
 rt:rightB H.c=true
 cw:CfgW H.c
 nn:(H.n:Int)=H.c.stripes
 ac:H.acts.length≤2*m
 st:∀ s,s<H.n→StM m (H.ss s)
 tn:U64 H.t.now
 ts:U64 H.t.seq
theorem HS.n8 {m:Nat}{H:Hall}(x:HS m H):1≤H.n∧H.n≤8:=by
 have h1:=x.rt; have h2:=x.nn
 simp only[rightB,decide_eq_true_eq] at h1; omega
theorem BkM.mono {m k:Nat}{b:Book}(x:BkM m b)(h:m≤k):BkM k b:=⟨x.bw,Nat.le_trans x.bl h,x.bs,fun y hy=>Nat.le_trans (x.bn y hy) h⟩
theorem FdM.mono {m k:Nat}{f:Feed}(x:FdM m f)(h:m≤k):FdM k f:=⟨x.so,Nat.le_trans x.len h,x.ms,x.ks,x.qs⟩
theorem StM.mono {m k:Nat}{s:Strp}(x:StM m s)(h:m≤k):StM k s:=⟨x.sn.mono h,x.bk.mono h,x.v0,x.vb,x.wh,x.fd.mono h⟩
theorem HS.mono {m k:Nat}{H:Hall}(x:HS m H)(h:m≤k):HS k H:=⟨x.rt,x.cw,x.nn,Nat.le_trans x.ac (by omega),fun s hs=>(x.st s hs).mono h,x.tn,x.ts⟩
theorem FdM.g {m:Nat}{f:Feed}(x:FdM m f)(h:m<100000):FdG f:=⟨x.so,by have:=x.len; omega,x.ms,x.qs⟩
theorem BkM.g {m:Nat}{b:Book}(x:BkM m b)(h:m<100000):BkG b:=by
 refine⟨x.bw.so,by have:=x.bl; omega,fun u=>?_⟩
 rcases entOf_cases b u with e | ⟨y,h1,h2,h3⟩
 ·rw[e]; simp[ent0]
 ·rw[h3]; have:=x.bn y h1; omega
theorem BkM.ent {m:Nat}{b:Book}(x:BkM m b)(u:ByteArray):(entOf b u).ss.length≤m:=by
 rcases entOf_cases b u with e | ⟨y,h1,h2,h3⟩
 ·rw[e]; simp[ent0]
 ·rw[h3]; exact x.bn y h1
theorem StM.wr {m:Nat}{x:Strp}(s:StM m x):U64 x.v∧U64 x.bound∧(wrt x.v=true→x.v<18446744073709551615):=by
 have h1:=s.v0; have h2:=s.vb
 refine⟨by unfold U64; omega,by unfold U64; omega,fun h=>?_⟩
 simp[wrt] at h; omega
theorem HS.g {m:Nat}{H:Hall}(x:HS m H)(h:m<100000):HG H :=
 ⟨x.n8.2,by have:=x.ac; omega,fun s hs=>⟨(x.st s hs).sn.g h,(x.st s hs).bk.g h⟩,fun s hs=>⟨(x.st s hs).wr.1,(x.st s hs).wr.2.1⟩,fun s hs=>by have:=(x.st s hs).wh; omega,x.cw,by have:=x.n8; have:=x.nn; omega⟩
theorem HS.did {m:Nat}{H:Hall}(x:HS m H)(w k p:Int):HS (m+1) (H.did w k p) :=
 ⟨x.rt,x.cw,x.nn,by have:=x.ac; simp[Hall.did]; omega,fun s hs=>(x.st s hs).mono (by omega),x.tn,x.ts⟩
theorem HS.put {m:Nat}{H:Hall}(x:HS m H){s:Nat}{y:Strp}(h:StM m y):HS m (H.put s y) :=
 ⟨x.rt,x.cw,x.nn,x.ac,fun t ht=>by simp only[Hall.put,sput]; split; exact h; exact x.st t ht,x.tn,x.ts⟩
theorem HS.did2 {m:Nat}{H:Hall}(x:HS m H)(w k p w' k' p':Int):HS (m+1) ((H.did w k p).did w' k' p') :=
 ⟨x.rt,x.cw,x.nn,by have:=x.ac; simp[Hall.did]; omega,fun s hs=>(x.st s hs).mono (by omega),x.tn,x.ts⟩
variable {m:Nat}{H:Hall}
theorem HS.look (x:HS m H)(w:Int):HS (m+1) (H.look w):=x.did _ _ _
theorem HS.epoch (x:HS m H)(w:Int)(s:Nat):HS (m+1) (H.epoch w s):=x.did _ _ _
theorem HS.snap (x:HS m H)(w:Int)(s:Nat):HS (m+1) (H.snap w s):=x.did _ _ _
theorem HS.read (x:HS m H)(w:Int)(s:Nat):HS (m+1) (H.read w s):=x.did _ _ _
theorem HS.wr (x:HS m H)(w:Int)(s:Nat):HS (m+1) (H.wr w s):=x.did _ _ _
theorem HS.take (x:HS m H)(w:Int):HS (m+1) (H.take w) :=
 have y:=x.did w 4 0
 ⟨y.rt,y.cw,y.nn,y.ac,y.st,y.tn,addU_rng x.ts (by simp[U64])⟩
theorem HS.shut (x:HS m H)(w:Int):HS (m+1) (H.shut w) :=
 have y:=x.did w 4 0
 ⟨y.rt,y.cw,y.nn,y.ac,y.st,y.tn,y.ts⟩
theorem HS.lock (x:HS m H){w:Int}{s:Nat}(hs:s<H.n)(hw:w≤900):HS (m+1) (H.lock w s):=by
 unfold Hall.lock
 split
 ·rename_i hc
  have hc':0≤w∧(H.ss s).who=0:=by simpa [canTake] using hc
  have y:=(x.st s hs).mono (Nat.le_succ m)
  exact (x.did _ _ _).put ⟨y.sn,y.bk,y.v0,y.vb,by show 0≤w+1∧w+1≤1000; omega,y.fd⟩
 ·exact x.mono (by omega)
theorem HS.unlock (x:HS m H){w:Int}{s:Nat}(hs:s<H.n):HS (m+1) (H.unlock w s):=by
 unfold Hall.unlock
 split
 ·have y:=(x.st s hs).mono (Nat.le_succ m)
  exact (x.did _ _ _).put ⟨y.sn,y.bk,y.v0,y.vb,by simp,y.fd⟩
 ·exact x.mono (by omega)
theorem HS.begin (x:HS m H){w:Int}{s:Nat}(hs:s<H.n):HS (m+1) (H.begin w s):=by
 have y:=(x.st s hs).mono (Nat.le_succ m)
 refine (x.did _ _ _).put ⟨y.sn,y.bk,?_,y.vb,y.wh,y.fd⟩
 have h1:=y.v0
 show 0≤bgn _ _∧bgn _ _≤(H.ss s).bound
 unfold bgn; split<;>omega
theorem HS.end_ (x:HS m H){w:Int}{s:Nat}(hs:s<H.n):HS (m+1) (H.end_ w s):=by
 have y:=(x.st s hs).mono (Nat.le_succ m)
 refine (x.did _ _ _).put ⟨y.sn,y.bk,?_,y.vb,y.wh,y.fd⟩
 have h1:=y.v0; have h2:=y.vb
 show 0≤endV _∧endV _≤(H.ss s).bound
 unfold endV wrt; simp; split<;>omega
theorem HS.pub (x:HS m H){w:Int}{s:Nat}(hs:s<H.n):HS (m+1) (H.pub w s):=by
 have y:=(x.st s hs).mono (Nat.le_succ m)
 exact (x.did2 _ _ _ _ _ _).put ⟨y.bk,y.bk,y.v0,y.vb,y.wh,y.fd⟩
theorem FdM.tell1 {f:Feed}(g:FdM m f)(c:Chg)(seq:Int):∀ n,FdM m (f.tell1 c seq n)
 | 0=>g
 | n+1=>by
  have ih:=FdM.tell1 g c seq n
  simp only[Feed.tell1]
  split
  ·refine⟨ih.so,ih.len,ih.ms,ih.ks,fun j hj=>?_⟩
   simp only[qset]
   split
   ·rename_i h; subst h; exact (ih.qs _ hj).put _
   ·exact ih.qs j hj
  ·exact ih
theorem FdM.tell {f:Feed}(g:FdM m f)(seq:Int):∀ l:List Chg,FdM m (f.tell l seq):=by
 intro l
 unfold Feed.tell
 induction l generalizing f with
 | nil=>exact g
 | cons c l ih=>exact ih (g.tell1 c seq 8)
theorem settle_mem {b:Book}{u:ByteArray}{ss:List Sess}{now:Int}{y:ByteArray × Ent}(h:y∈(settleB b u ss now).1):y=(u,⟨ss,presOf ss now⟩)∨y∈b:=by
 unfold settleB at h
 dsimp only at h
 split at h
 ·exact .inr (List.mem_filter.1 h).1
 ·exact mem_putB' h
theorem BkM.settle {b:Book}(x:BkM m b){k:Nat}(hk:m≤k){u:ByteArray}(hu:u.size≤maxLen){ss:List Sess}(now:Int)(h1:SrtI ss)(h2:∀ s∈ss,U64 s.un)(h3:ss.length≤k)(h4:(settleB b u ss now).1.length≤k):BkM k (settleB b u ss now).1:=by
 refine⟨x.bw.settle u now h1 h2,h4,fun y hy=>?_,fun y hy=>?_⟩
 ·rcases settle_mem hy with rfl | hy
  ·exact hu
  ·exact x.bs y hy
 ·rcases settle_mem hy with rfl | hy
  ·exact h3
  ·exact Nat.le_trans (x.bn y hy) hk
theorem BkM.write {b:Book}(x:BkM m b){o:OpD}(ow:OpW o){now:Int}(hn:U64 now)(most:Int):BkM (m+1) (writeB b o now most).1:=by
 obtain⟨h1,h2⟩:=x.bw.ent o.user
 obtain⟨h3,h4⟩:=BkW.purge h1 h2 now
 have hp:(purgeS (entOf b o.user).ss now).length≤m:=Nat.le_trans (List.length_filter_le _ _) (x.ent o.user)
 have hw:=work_len (ss:=purgeS (entOf b o.user).ss now) o now most
 refine x.settle (k:=m+1) (by omega) ow.s1 now (work_srt h3 o now most) (work_un h4 o most hn ow.u1) (by omega) ?_
 have:=settle_len b o.user (workS (purgeS (entOf b o.user).ss now) o now most).1 now
 have:=x.bl; omega
theorem BkM.sweepTo {b:Book}(x:BkM m b)(now:Int):∀ n,n≤b.length→BkM m (sweepTo b now n).1
 | 0,_=>x
 | n+1,hn=>by
  have ih:=BkM.sweepTo x now n (by omega)
  have hm:b.getD n (⟨#[]⟩,ent0)∈b:=by rw[List.getD_eq_getElem?_getD,List.getElem?_eq_getElem (by omega)]; exact List.getElem_mem _
  obtain⟨h1,h2⟩:=x.bw.us _ hm
  obtain⟨h3,h4⟩:=BkW.purge h1 h2 now
  exact ih.settle (Nat.le_refl _) (x.bs _ hm) now h3 h4 (Nat.le_trans (List.length_filter_le _ _) (x.bn _ hm)) (Nat.le_trans (sweep_len x.bw (now:=now) hn) x.bl)
theorem HS.sweep (x:HS m H){w:Int}{s:Nat}(t:Tm)(hs:s<H.n):HS (m+1) (H.sweep w s t):=by
 have y:=(x.st s hs).mono (Nat.le_succ m)
 exact (x.wr w s).put ⟨y.sn,y.bk.sweepTo t.now _ (Nat.le_refl _),y.v0,y.vb,y.wh,y.fd.tell _ _⟩
theorem HS.write (x:HS m H){w:Int}{s:Nat}{o:OpD}(ow:OpW o)(t:Tm)(ht:U64 t.now)(hs:s<H.n):HS (m+1) (H.write w s o t).1:=by
 have y:=x.st s hs
 have y':=y.mono (Nat.le_succ m)
 unfold Hall.write
 split
 ·exact x.wr w s
 ·exact (x.wr w s).put ⟨y'.sn,y.bk.write ow ht _,y.v0,y.vb,y.wh,y'.fd.tell _ _⟩
theorem FdM.watch {f:Feed}(g:FdM m f)(who:Int)(u:ByteArray)(hu:u.size≤maxLen):FdM (m+1) (f.watch who u):=by
 have g':=g.mono (Nat.le_succ m)
 unfold Feed.watch
 split
 ·refine⟨putB_srt g.so,?_,fun x hx=>?_,fun x hx=>?_,g.qs⟩
  ·have:=putB_len (u:=u) (e:=mor (valL 0 f.ws u) who) (b:=f.ws); have:=g.len; show (putB _ _ _).length≤_; omega
  ·rcases mem_putB' (b:=f.ws) hx with rfl | hx
   ·exact mor_rng _ _
   ·exact g.ms x hx
  ·rcases mem_putB' (b:=f.ws) hx with rfl | hx
   ·exact hu
   ·exact g.ks x hx
 ·exact g'
theorem FdM.unwatch {f:Feed}(g:FdM m f)(who:Int)(u:ByteArray)(hu:u.size≤maxLen):FdM (m+1) (f.unwatch who u):=by
 have g':=g.mono (Nat.le_succ m)
 unfold Feed.unwatch
 split
 ·split
  ·refine⟨delB_srt g.so,?_,fun x hx=>g.ms x (List.mem_filter.1 hx).1,fun x hx=>g.ks x (List.mem_filter.1 hx).1,g.qs⟩
   have:=delB_len (u:=u) (b:=f.ws); have:=g.len; show (delB _ _).length≤_; omega
  ·refine⟨putB_srt g.so,?_,fun x hx=>?_,fun x hx=>?_,g.qs⟩
   ·have:=putB_len (u:=u) (e:=mclr (valL 0 f.ws u) who) (b:=f.ws); have:=g.len; show (putB _ _ _).length≤_; omega
   ·rcases mem_putB' (b:=f.ws) hx with rfl | hx
    ·exact mclr_rng _ _
    ·exact g.ms x hx
   ·rcases mem_putB' (b:=f.ws) hx with rfl | hx
    ·exact hu
    ·exact g.ks x hx
 ·exact g'
theorem FdM.drain {f:Feed}(g:FdM m f)(who:Int):FdM m (f.drain who):=by
 unfold Feed.drain
 split
 ·refine⟨g.so,g.len,g.ms,g.ks,fun j hj=>?_⟩
  simp only[qset]
  split
  ·rename_i h; subst h; exact⟨(g.qs _ hj).1,(g.qs _ hj).2.1,by simp⟩
  ·exact g.qs j hj
 ·exact g
def Hall.fed (H:Hall)(who:Int)(s:Nat)(f:Feed):Hall:=(H.wr who s).put s { H.ss s with feed:=f }
def Hall.watch (H:Hall)(who:Int)(s:Nat)(u:ByteArray)(on:Bool):Hall:=H.fed who s (if on then (H.ss s).feed.watch who u else (H.ss s).feed.unwatch who u)
def Hall.drain (H:Hall)(who:Int)(s:Nat):Hall:=H.fed who s ((H.ss s).feed.drain who)
theorem HS.fed (x:HS m H){w:Int}{s:Nat}{f:Feed}(hs:s<H.n)(hf:FdM (m+1) f):HS (m+1) (H.fed w s f):=by
 have y:=(x.st s hs).mono (Nat.le_succ m)
 exact (x.wr w s).put ⟨y.sn,y.bk,y.v0,y.vb,y.wh,hf⟩
theorem HS.watch (x:HS m H){w:Int}{s:Nat}(hs:s<H.n){u:ByteArray}(hu:u.size≤maxLen)(on:Bool):HS (m+1) (H.watch w s u on):=by
 refine x.fed hs ?_
 split
 ·exact (x.st s hs).fd.watch w u hu
 ·exact (x.st s hs).fd.unwatch w u hu
theorem HS.drain (x:HS m H){w:Int}{s:Nat}(hs:s<H.n):HS (m+1) (H.drain w s):=x.fed hs (((x.st s hs).fd.drain w).mono (by omega))
theorem HS.new {c:Cfg}(cw:CfgW c)(hr:rightB c=true){n:Nat}(hn:(n:Int)=c.stripes):HS 0 (hall0 c n):=by
 have hr':=hr
 simp only[rightB,decide_eq_true_eq] at hr'
 have h1:=cw.u1
 have he:0≤evn c.epochs∧evn c.epochs % 2=0∧evn c.epochs≤18446744073709551615:=by unfold evn U64 at *; omega
 have bk:BkM 0 []:=⟨⟨List.Pairwise.nil,by simp⟩,by simp,by simp,by simp⟩
 refine⟨hr,cw,hn,by simp[hall0],fun s hs=>⟨bk,bk,⟨by show (0:Int)≤0; omega,he.1⟩,he.2,by simp[hall0,strp0],⟨List.Pairwise.nil,by simp[hall0,strp0,feed0],by simp[hall0,strp0,feed0],by simp[hall0,strp0,feed0],fun j hj=>?_⟩⟩,cw.u2,by simp[hall0,U64]⟩
 simp only[hall0,strp0,feed0,ring0,RiG,List.length_nil]
 omega
end Go.Den
namespace Go.Den
open Go
set_option linter.unusedVariables false
set_option linter.unusedSimpArgs false
inductive WK where
 | bad
 | op (x:OpD)
 | sweep
structure WP where
 who:Int
 s:Nat
 k:WK
 at_:Nat
 t:Tm
 placed:Int
 err:Int
def WK.isBad:WK→Bool
 | .bad=>true
 | _=>false
def WP.done (p:WP):Bool:=decide (7≤p.at_)
def WP.waits (p:WP):Int:=if p.k.isBad=true∨0<p.at_ then -1 else p.s
def WP.enabled (p:WP)(H:Hall):Bool:=!p.done && (decide (p.waits<0) || decide ((H.ss p.s).who=0))
def WK.run (k:WK)(H:Hall)(who:Int)(s:Nat)(t:Tm):Hall × Int:=match k with
 | .bad=>(H,0)
 | .op x=>H.write who s x t
 | .sweep=>(H.sweep who s t,0)
def WP.stp (p:WP)(H:Hall)(n:Int):WP × Hall :=
 if p.at_=0 then ({ p with at_:=1 },H.lock p.who p.s)
 else if p.at_=1 then ({ p with at_:=2 },H.begin p.who p.s)
 else if p.at_=2 then ({ p with at_:=3,placed:=n,t:=(H.take p.who).t },H.take p.who)
 else if p.at_=3 then ({ p with at_:=4,err:=(p.k.run H p.who p.s p.t).2 },(p.k.run H p.who p.s p.t).1)
 else if p.at_=4 then ({ p with at_:=5 },H.pub p.who p.s)
 else if p.at_=5 then ({ p with at_:=6 },H.end_ p.who p.s)
 else ({ p with at_:=7 },H.unlock p.who p.s)
theorem stp0 {p:WP}(H:Hall)(n:Int)(h:p.at_=0):p.stp H n=({ p with at_:=1 },H.lock p.who p.s):=by simp[WP.stp,h]
theorem stp1 {p:WP}(H:Hall)(n:Int)(h:p.at_=1):p.stp H n=({ p with at_:=2 },H.begin p.who p.s):=by simp[WP.stp,h]
theorem stp2 {p:WP}(H:Hall)(n:Int)(h:p.at_=2):p.stp H n=({ p with at_:=3,placed:=n,t:=(H.take p.who).t },H.take p.who):=by simp[WP.stp,h]
theorem stp3 {p:WP}(H:Hall)(n:Int)(h:p.at_=3):p.stp H n=({ p with at_:=4,err:=(p.k.run H p.who p.s p.t).2 },(p.k.run H p.who p.s p.t).1):=by simp[WP.stp,h]
theorem stp4 {p:WP}(H:Hall)(n:Int)(h:p.at_=4):p.stp H n=({ p with at_:=5 },H.pub p.who p.s):=by simp[WP.stp,h]
theorem stp5 {p:WP}(H:Hall)(n:Int)(h:p.at_=5):p.stp H n=({ p with at_:=6 },H.end_ p.who p.s):=by simp[WP.stp,h]
theorem stp6 {p:WP}(H:Hall)(n:Int)(h:6≤p.at_):p.stp H n=({ p with at_:=7 },H.unlock p.who p.s):=by
 unfold WP.stp
 rw[if_neg (by omega),if_neg (by omega),if_neg (by omega),if_neg (by omega),if_neg (by omega),if_neg (by omega)]
def WP.step (p:WP)(H:Hall)(n:Int):WP × Hall :=
 if p.enabled H=true then (if p.k.isBad then ({ p with err:=1,placed:=n,at_:=7 },H) else p.stp H n) else (p,H)
structure WG (n:Nat)(p:WP):Prop where
 s:p.s<n
 w:-1≤p.who∧p.who≤900
 a:p.at_≤7
 t:U64 p.t.now∧U64 p.t.seq
 o:∀ x,p.k = .op x→OpW x
theorem HS.run {m:Nat}{H:Hall}(x:HS m H){k:WK}{w:Int}{s:Nat}{t:Tm}(ho:∀ o,k = .op o→OpW o)(ht:U64 t.now)(hs:s<H.n):HS (m+1) (k.run H w s t).1:=by
 cases k with
 | bad=>exact x.mono (by omega)
 | op o=>exact x.write (ho o rfl) t ht hs
 | sweep=>exact x.sweep t hs
theorem HS.stp {m:Nat}{H:Hall}(x:HS m H){p:WP}(g:WG H.n p)(n:Int):HS (m+1) (p.stp H n).2:=by
 unfold WP.stp
 split
 ·exact x.lock g.s g.w.2
 split
 ·exact x.begin g.s
 split
 ·exact x.take _
 split
 ·exact x.run g.o g.t.1 g.s
 split
 ·exact x.pub g.s
 split
 ·exact x.end_ g.s
 ·exact x.unlock g.s
theorem HS.wstep {m:Nat}{H:Hall}(x:HS m H){p:WP}(g:WG H.n p)(n:Int):HS (m+1) (p.step H n).2:=by
 unfold WP.step
 split
 ·split
  ·exact x.mono (by omega)
  ·exact x.stp g n
 ·exact x.mono (by omega)
theorem run_n (k:WK)(H:Hall)(w:Int)(s:Nat)(t:Tm):(k.run H w s t).1.n=H.n∧(k.run H w s t).1.c=H.c:=by
 cases k with
 | bad=>exact⟨rfl,rfl⟩
 | op o=>simp only[WK.run,Hall.write]; split<;>exact⟨rfl,rfl⟩
 | sweep=>exact⟨rfl,rfl⟩
theorem stp_n (p:WP)(H:Hall)(n:Int):(p.stp H n).2.n=H.n∧(p.stp H n).2.c=H.c:=by
 unfold WP.stp
 have h1:=lock_n H p.who p.s
 have h2:=unlock_n H p.who p.s
 split
 ·exact⟨h1.1,h1.2.1⟩
 split
 ·exact⟨rfl,rfl⟩
 split
 ·exact⟨rfl,rfl⟩
 split
 ·exact run_n _ _ _ _ _
 split
 ·exact⟨rfl,rfl⟩
 split
 ·exact⟨rfl,rfl⟩
 ·exact⟨h2.1,h2.2.1⟩
theorem wstep_n (p:WP)(H:Hall)(n:Int):(p.step H n).2.n=H.n∧(p.step H n).2.c=H.c:=by
 unfold WP.step
 split
 ·split
  ·exact⟨rfl,rfl⟩
  ·exact stp_n p H n
 ·exact⟨rfl,rfl⟩
theorem stp_k (p:WP)(H:Hall)(n:Int):(p.stp H n).1.k=p.k∧(p.stp H n).1.who=p.who∧(p.stp H n).1.s=p.s:=by
 unfold WP.stp
 split
 ·exact⟨rfl,rfl,rfl⟩
 split
 ·exact⟨rfl,rfl,rfl⟩
 split
 ·exact⟨rfl,rfl,rfl⟩
 split
 ·exact⟨rfl,rfl,rfl⟩
 split
 ·exact⟨rfl,rfl,rfl⟩
 split<;>exact⟨rfl,rfl,rfl⟩
theorem wstep_k (p:WP)(H:Hall)(n:Int):(p.step H n).1.k=p.k∧(p.step H n).1.who=p.who∧(p.step H n).1.s=p.s:=by
 unfold WP.step
 split
 ·split
  ·exact⟨rfl,rfl,rfl⟩
  ·exact stp_k p H n
 ·exact⟨rfl,rfl,rfl⟩
theorem stp_at (p:WP)(H:Hall)(n:Int)(h:p.at_<7):(p.stp H n).1.at_=p.at_+1:=by
 unfold WP.stp
 split
 ·simp_all
 split
 ·simp_all
 split
 ·simp_all
 split
 ·simp_all
 split
 ·simp_all
 split
 ·simp_all
 ·show 7=_; omega
theorem enabled_at {p:WP}{H:Hall}(h:p.enabled H=true):p.at_<7:=by
 simp[WP.enabled,WP.done] at h; omega
theorem WG.step {m:Nat}{H:Hall}(x:HS m H){p:WP}(g:WG H.n p)(n:Int):WG H.n (p.step H n).1:=by
 obtain⟨k1,k2,k3⟩:=wstep_k p H n
 refine⟨by rw[k3]; exact g.s,by rw[k2]; exact g.w,?_,?_,by rw[k1]; exact g.o⟩
 ·unfold WP.step
  split
  ·rename_i he
   split
   ·simp
   ·rw[stp_at p H n (enabled_at he)]; have:=enabled_at he; omega
  ·exact g.a
 ·unfold WP.step
  split
  ·split
   ·exact g.t
   ·have ht:=x.take p.who
    unfold WP.stp
    split
    ·exact g.t
    split
    ·exact g.t
    split
    ·exact⟨ht.tn,ht.ts⟩
    split
    ·exact g.t
    split
    ·exact g.t
    split<;>exact g.t
  ·exact g.t
def sect (who:Int)(s:Nat)(k:WK):WP:=⟨who,s,k,0,⟨0,0,false⟩,-1,0⟩
theorem sect_g {n s:Nat}(hs:s<n){who:Int}(hw:-1≤who∧who≤900){k:WK}(ho:∀ x,k = .op x→OpW x):WG n (sect who s k):=⟨hs,hw,by simp[sect],by simp[sect,U64],ho⟩
end Go.Den
namespace Go.Proofs.YtcnphhhcknhhaaaGreat
open Go Go.Den Go.MapKept
set_option linter.unusedSimpArgs false
set_option linter.unusedVariables false
set_option maxRecDepth 20000
structure StG (x:Strp):Prop where
 bw:BkW x.book
 bl:x.book.length<100000
 bs:∀ y∈x.book,y.1.size≤maxLen
 bn:∀ y∈x.book,y.2.ss.length<900000
 fg:FdG x.feed
theorem stG_of {m:Nat}{x:Strp}(s:StM m x)(h:m<100000):StG x:=⟨s.bk.bw,by have:=s.bk.bl; omega,s.bk.bs,fun y hy=>by have:=s.bk.bn y hy; omega,s.fd.g h⟩
theorem HallX.own {T T':Tags}{h h':Heap}{g:Tag}{p:Nat}{H:Hall}{sv av:Value}{Y:Nat→SV}(x:HallX T h g p H sv av Y)(k:Kp non T h T' h'):HallX T' h' g p H sv av Y :=
 ⟨(k.at x.hp x.tp (not_non _)).1,(k.at x.hp x.tp (not_non _)).2,x.st.kp k (not_non _),x.ac.kp k (not_non _),fun i hi=>(x.sr i hi).kp k (Off.non _) (not_non _)⟩
theorem put_put (H:Hall)(s:Nat)(y z:Strp):(H.put s y).put s z=H.put s z:=by
 unfold Hall.put
 congr 1
 funext k
 simp -implicitDefEqProofs only[sput]
 split<;>rfl
theorem put_at (H:Hall)(s:Nat)(y:Strp):(H.put s y).ss s=y:=by simp[Hall.put,sput]
theorem book_tell {T:Tags}{h:Heap}{g:Tag}{p b s:Nat}{H:Hall}{sv av k v cv:Value}{Y:Nat→SV}(w:Wf T h)(gg:Gd g)(x:HallX T h g p H sv av Y)(hs:s<H.n)(rb:rowOf sv=some b){B:Book}{l:List Chg}{seq:Int}
  (hb:BookR (fz T h) k v B) (hc:Sl 7 ChgR (fz T h) cv l) (hl:l.length<1000000) (fg:FdG (H.ss s).feed) {K:Heap→Prop}
  (hk:∀ h3,Only (fun t=>t=g++[1]) T h T h3→cel h3 b (s*8+7)=some (ptr (Y s).fp)→(∀ K':Value→Heap→Prop,(∀ T' h',Only (pre g) T h T' h'→HallR T' h' g p (H.put s { H.ss s with book:=B,feed:=(H.ss s).feed.tell l seq })→K' (.tuple #[]) h')→callM P qcSZ #[ptr (Y s).fp,cv,.int .u64 seq] h3 K')→K h3) :
  stM (some 2) (.pointer (some ⟨b,s*8+5,none⟩)) (.agg #[k,v]) h K:=by
 have hsr:=x.sr s hs
 have u1:=hb.1.one
 have u2:=hb.2.1.one
 refine x.stw w (off:=5) (X':={ H.ss s with book:=B }) (y':={ Y s with bk:=k,bv:=v }) hs rb rfl (by rfl) (by omega) (by simp[u1.1,u2.1]) (by simp[spl,strC]) ⟨hsr.1,hb,hsr.2.2⟩ fun h3 o3 x3=>?_
 obtain⟨b',ob,rb',hb1,tb,ia,l1,l2,l3,l4,l5,l6⟩:=x3.lds (s:=s) (k:=.i64) hs
 have hbb:b'=b:=by rw[rb] at rb'; cases rb'; rfl
 subst hbb
 rw[if_pos rfl] at l5
 refine hk h3 o3 l5 fun K' hk'=>?_
 have hf:=(x3.sr s hs).2.2
 rw[if_pos rfl,put_at] at hf
 refine tell_ok l seq o3.wf (gg.app [3,s]) hf fg (hc.ext (R:=ChgR) (@ChgR.ext) (o3.ext (by simp))) hl fun T4 h4 o4 r4=>?_
 have x4:=x3.fed hs o4 gg (f:=(H.ss s).feed.tell l seq) (by rw[if_pos rfl]; exact r4)
 rw[put_put,put_at] at x4
 exact hk' T4 h4 ((o3.mono fun t=>eq_pre).up o4 fun t=>pre_trans) ⟨sv,av,_,x4⟩
variable {K:KTy}
set_option maxHeartbeats 2000000 in
theorem hsweep_ok (who:Int){s:Nat}(t:Tm){T:Tags}{h:Heap}{g:Tag}{p:Nat}{H:Hall}(w:Wf T h)(gg:Gd g)(x:HallR T h g p H)(hs:s<H.n)(h8:H.n≤8)(hl:H.acts.length<1000000)(sg:StG (H.ss s))
  (hk:∀ T' h',Only (pre g) T h T' h'→HallR T' h' g p (H.sweep who s t)→K (.tuple #[]) h'):callM P qfJZ #[ptr p,.int .i64 who,.int .i64 s,.agg (tmC t).toArray] h K:=by
 apply qowZ
 unfold qgBZ
 refine nw_agg fun v1 h1 n1 e1 c1=>?_
 simp -implicitDefEqProofs only[tmC] at c1
 have o1:Only non T h T h1:=Only.of_ext w e1
 have t1:T v1=[]:=w v1 n1
 obtain⟨sv,av,Y,x1⟩:=x.up o1 (Off.non _) (not_non _)
 refine hwr_ok who o1.wf gg x1 hs h8 hl fun T2 h2 av2 b o2 x2 rb=>?_
 have b1:=o2.k.at c1 t1 (fun h=>U012.nil g h.up)
 unfold qiKZ
 rw[seqM_eq]
 unfold qiIZ
 obtain⟨b',ob,rb',hb1,tb,ia,l1,l2,l3,l4,l5,l6⟩:=x2.lds (s:=s) (k:=.i64) hs
 have hbb:b'=b:=by rw[rb] at rb'; cases rb'; rfl
 subst hbb
 have hsr:=x2.sr s hs
 have c1':=b1.1
 have hlen:(sweepB (H.ss s).book t.now).2.length<100000:=Nat.lt_of_le_of_lt (sweep_chg (H.ss s).book t.now (H.ss s).book.length) sg.bl
 have fin:∀ (h5:Heap) (s6:Env) (k v cv:Value) (vb:Nat),Ext h2 h5→BookR (fz T2 h5) k v (sweepB (H.ss s).book t.now).1→Sl 7 ChgR (fz T2 h5) cv (sweepB (H.ss s).book t.now).2→h5 vb=some (.cells #[k,v] qaZ (0,0))→s6 7=ptr v1→s6 8 = .pointer (some ⟨b',s*8,none⟩)→s6 9=ptr vb→s6 10=cv→qfqZ s6 h5 K []:=by
  intro h5 s6 k v cv vb e5 hb hc cvb s7 s8 s9 s10
  have o5:Only non T2 h2 T2 h5:=Only.of_ext o2.wf e5
  have x5:=x2.own o5.k
  have c1:=e5 _ _ c1'
  unfold qfqZ
  simp -implicitDefEqProofs[s7,s8,s9,s10,ld_at cvb,cel_of cvb,stm_at cvb,stm_upd,ld_same,cel_same,over]
  refine book_tell (seq:=t.seq) o5.wf gg x5 hs rb hb hc (by omega) sg.fg fun h6 o6 l6 hT=>?_
  have c1:=(o6.k.at c1 b1.2 (by simp)).1
  simp -implicitDefEqProofs[l6,ld_at c1,cel_of c1,stm_at c1,stm_upd,ld_same,cel_same,over]
  refine hT _ fun T7 h7 o7 x7=>?_
  unfold qiJZ
  simp -implicitDefEqProofs
  exact hk T7 h7 ((((o1.mono non_up).up o2 fun _=>U02.pre).up o5 non_up).up o7 fun t h=>h) x7
 simp -implicitDefEqProofs[ld_at c1',cel_of c1',stm_at c1',stm_upd,ld_same,cel_same,over,l4]
 refine⟨?_,?_⟩
 ·unfold qiGZ
  refine bsweep_ok _ sg.bw sg.bl sg.bs sg.bn t.now o2.wf hsr.2.1 fun h5 k v cv e5 hb hc=>?_
  unfold qiFZ
  have p1:=hb.1.one
  have p2:=hb.2.1.one
  simp -implicitDefEqProofs only[exV_0,exV_1,ov_s,zcMap]
  refine nw_st (by simp) (by simp) (by simp[p1.1,p2.1]) fun vb h6 n6 e6 c6=>?_
  simp -implicitDefEqProofs only[cells_agg] at c6
  try simp only[thenM_n]
  refine fin h6 _ k v cv vb (e5.trans e6) (hb.ext (fz_of_ext e6)) (hc.ext (R:=ChgR) (@ChgR.ext) (fz_of_ext e6)) c6 ?_ ?_ ?_ ?_<;>simp
 ·unfold qiHZ
  rw[zcMap]
  refine nw_intro fun vb h5 n5 e5 c5=>?_
  have o5:Only non T2 h2 T2 h5:=Only.of_ext o2.wf e5
  have x5:=x2.own o5.k
  obtain⟨b'',ob',rb'',hb1',tb',ia',l1',l2',l3',l4',l5',l6'⟩:=x5.lds (s:=s) (k:=.i64) hs
  have hbb:b''=b':=by rw[rb] at rb''; cases rb''; rfl
  subst hbb
  have c1:=e5 _ _ c1'
  refine⟨l4',by simp[ld_at c1,cel_of c1,stm_at c1,stm_upd,ld_same,cel_same,over],?_⟩
  have wt:Wf (tset T2 vb lc) h5:=wf_loc o5.wf c5
  refine bsweep_ok _ sg.bw sg.bl sg.bs sg.bn t.now wt (hsr.2.1.ext (fz_in n5 e5)) fun h6 k v cv e6 hb hc=>?_
  have p1:=hb.1.one
  have p2:=hb.2.1.one
  have c6:=e6 _ _ c5
  simp -implicitDefEqProofs[ld_at c6,cel_of c6,stm_at c6,stm_upd,ld_same,cel_same,over,p1.1,p2.1]
  try simp only[thenM_n]
  refine fin _ _ k v cv vb (ext_upd n5 (e5.trans e6)) (hb.ext fz_loc) (hc.ext (R:=ChgR) (@ChgR.ext) fz_loc) (upd_same' _ _ _) ?_ ?_ ?_ ?_<;>simp
theorem settle_chg (b:Book)(u:ByteArray)(ss:List Sess)(now:Int):(settleB b u ss now).2.length≤1:=by unfold settleB; dsimp only; split<;>simp
set_option maxHeartbeats 2000000 in
theorem hwrite_ok (who:Int){s:Nat}(o:OpD)(ow:OpW o){uv:Value}(ou:One uv)(t:Tm)(ht:U64 t.now){T:Tags}{h:Heap}{g:Tag}{p:Nat}{H:Hall}(w:Wf T h)(gg:Gd g)(x:HallR T h g p H)(hs:s<H.n)(h8:H.n≤8)(hl:H.acts.length<1000000)(sg:StG (H.ss s))
  (hk:∀ T' h',Only (pre g) T h T' h'→HallR T' h' g p (H.write who s o t).1→K (.int .i64 (H.write who s o t).2) h'):callM P qfKZ #[ptr p,.int .i64 who,.int .i64 s,.agg (opC o uv).toArray,.agg (tmC t).toArray] h K:=by
 apply qoxZ
 unfold qgCZ
 refine nw_agg fun v1 h0 n0 e0 c0=>?_
 refine nw_agg fun v3 h1 n1 e1 c3=>?_
 simp -implicitDefEqProofs only[tmC] at c3
 simp -implicitDefEqProofs only[opC] at c0
 have o1:Only non T h T h1:=Only.of_ext w (e0.trans e1)
 have c0:=e1 _ _ c0
 have t1:T v1=[]:=w v1 n0
 have t3:T v3=[]:=w v3 (fresh_of e0 n1)
 obtain⟨sv,av,Y,x1⟩:=x.up o1 (Off.non _) (not_non _)
 refine hwr_ok who o1.wf gg x1 hs h8 hl fun T2 h2 av2 b o2 x2 rb=>?_
 have b1:=o2.k.at c0 t1 (fun h=>U012.nil g h.up)
 have b3:=o2.k.at c3 t3 (fun h=>U012.nil g h.up)
 have c1':=b1.1
 have c3':=b3.1
 have oh:Only (pre g) T h T2 h2:=(o1.mono non_up).up o2 fun _=>U02.pre
 unfold qiRZ
 cases htc:t.closed with
 | true =>
  rw[htc] at c3'
  have e:H.write who s o t=(H.wr who s,5):=by simp[Hall.write,htc]
  rw[e] at hk
  simp -implicitDefEqProofs[ld_at c3',cel_of c3',stm_at c3',stm_upd,ld_same,cel_same,over]
  exact hk T2 h2 oh ⟨sv,av2,Y,x2⟩
 | false =>
 rw[htc] at c3'
 obtain⟨r,hr⟩:∃ r,writeB (H.ss s).book o t.now H.c.sessions=r:=⟨_,rfl⟩
 have e:H.write who s o t=((H.wr who s).put s { H.ss s with book:=r.1,feed:=(H.ss s).feed.tell r.2.1 t.seq },r.2.2):=by simp[Hall.write,htc,hr]
 rw[e] at hk
 simp -implicitDefEqProofs[ld_at c3',cel_of c3',stm_at c3',stm_upd,ld_same,cel_same,over]
 unfold qiQZ
 rw[seqM_eq]
 unfold qiOZ
 obtain⟨b',ob,rb',hb1,tb,ia,l1,l2,l3,l4,l5,l6⟩:=x2.lds (s:=s) (k:=.i64) hs
 have hbb:b'=b:=by rw[rb] at rb'; cases rb'; rfl
 subst hbb
 have hsr:=x2.sr s hs
 have cp:=x2.hp
 simp -implicitDefEqProofs only[hallC] at cp
 have hlen:r.2.1.length≤1:=by rw[← hr]; exact settle_chg _ _ _ _
 have fin:∀ (h5:Heap) (s6:Env) (k v cv:Value) (vb:Nat),Ext h2 h5→BookR (fz T2 h5) k v r.1→Sl 7 ChgR (fz T2 h5) cv r.2.1→h5 vb=some (.cells #[k,v] qaZ (0,0))→s6 9=ptr v3→s6 11 = .pointer (some ⟨b',s*8,none⟩)→s6 12=ptr vb→s6 13=cv→s6 14 = .int .i64 r.2.2→qfsZ s6 h5 K []:=by
  intro h5 s6 k v cv vb e5 hb hc cvb s9 s11 s12 s13 s14
  have o5:Only non T2 h2 T2 h5:=Only.of_ext o2.wf e5
  have x5:=x2.own o5.k
  have c3:=e5 _ _ c3'
  unfold qfsZ
  simp -implicitDefEqProofs[s9,s11,s12,s13,ld_at cvb,cel_of cvb,stm_at cvb,stm_upd,ld_same,cel_same,over]
  refine book_tell (seq:=t.seq) o5.wf gg x5 hs rb hb hc (by omega) sg.fg fun h6 o6 l6 hT=>?_
  have c3:=(o6.k.at c3 b3.2 (by simp)).1
  simp -implicitDefEqProofs[l6,ld_at c3,cel_of c3,stm_at c3,stm_upd,ld_same,cel_same,over]
  refine hT _ fun T7 h7 o7 x7=>?_
  unfold qiPZ
  simp -implicitDefEqProofs[s14]
  exact hk T7 h7 ((oh.up o5 non_up).up o7 fun t h=>h) x7
 have oa:ldV (some (some 7)) (ptr v1) h2=some (.agg (opC o uv).toArray):=by simp[ld_at c1',opC]
 have hse:(Hall.wr H who s).c.sessions=H.c.sessions:=rfl
 simp -implicitDefEqProofs[ld_at c3',cel_of c3',stm_at c3',ld_at cp,cel_of cp,stm_at cp,stm_upd,ld_same,cel_same,over,l4,oa,hse]
 refine⟨?_,?_⟩
 ·unfold qiMZ
  refine bwrite_ok _ sg.bw o ow ou ht H.c.sessions o2.wf hsr.2.1 (by have:=sg.bl; omega) ?_ fun h5 k v cv e5 hb hc=>?_
  ·rcases entOf_cases (H.ss s).book o.user with h | ⟨y,h1,h2,h3⟩
   ·show (entOf (H.ss s).book o.user).ss.length<_
    rw[h]; simp[ent0]
   ·show (entOf (H.ss s).book o.user).ss.length<_
    rw[h3]; exact sg.bn y h1
  have hb:BookR (fz T2 h5) k v r.1:=by rw[← hr]; exact hb
  have hc:Sl 7 ChgR (fz T2 h5) cv r.2.1:=by rw[← hr]; exact hc
  have hrr:(writeB ((H.wr who s).ss s).book o t.now H.c.sessions).2.2=r.2.2:=by rw[← hr]; rfl
  unfold qiLZ
  have p1:=hb.1.one
  have p2:=hb.2.1.one
  simp -implicitDefEqProofs only[exV_0,exV_1,exV_2,ov_s,zcMap,hrr]
  refine nw_st (by simp) (by simp) (by simp[p1.1,p2.1]) fun vb h6 n6 e6 c6=>?_
  simp -implicitDefEqProofs only[cells_agg] at c6
  try simp only[thenM_n]
  refine fin h6 _ k v cv vb (e5.trans e6) (hb.ext (fz_of_ext e6)) (hc.ext (R:=ChgR) (@ChgR.ext) (fz_of_ext e6)) c6 ?_ ?_ ?_ ?_ ?_<;>simp[hr]
 ·unfold qiNZ
  rw[zcMap]
  refine nw_intro fun vb h5 n5 e5 c5=>?_
  have o5:Only non T2 h2 T2 h5:=Only.of_ext o2.wf e5
  have x5:=x2.own o5.k
  obtain⟨b'',ob',rb'',hb1',tb',ia',l1',l2',l3',l4',l5',l6'⟩:=x5.lds (s:=s) (k:=.i64) hs
  have hbb:b''=b':=by rw[rb] at rb''; cases rb''; rfl
  subst hbb
  have c3:=e5 _ _ c3'
  have c1:=e5 _ _ c1'
  have cp:=x5.hp
  simp -implicitDefEqProofs only[hallC] at cp
  have oa:ldV (some (some 7)) (ptr v1) h5=some (.agg (opC o uv).toArray):=by simp[ld_at c1,opC]
  refine⟨l4',oa,by simp[ld_at c3,cel_of c3,stm_at c3,stm_upd,ld_same,cel_same,over],by simp[ld_at cp,cel_of cp,stm_at cp,stm_upd,ld_same,cel_same,over,hse],?_⟩
  have wt:Wf (tset T2 vb lc) h5:=wf_loc o5.wf c5
  refine bwrite_ok _ sg.bw o ow ou ht H.c.sessions wt (hsr.2.1.ext (fz_in n5 e5)) (by have:=sg.bl; omega) ?_ fun h6 k v cv e6 hb hc=>?_
  ·rcases entOf_cases (H.ss s).book o.user with h | ⟨y,h1,h2,h3⟩
   ·show (entOf (H.ss s).book o.user).ss.length<_
    rw[h]; simp[ent0]
   ·show (entOf (H.ss s).book o.user).ss.length<_
    rw[h3]; exact sg.bn y h1
  have hb:BookR (fz (tset T2 vb lc) h6) k v r.1:=by rw[← hr]; exact hb
  have hc:Sl 7 ChgR (fz (tset T2 vb lc) h6) cv r.2.1:=by rw[← hr]; exact hc
  have hrr:(writeB ((H.wr who s).ss s).book o t.now H.c.sessions).2.2=r.2.2:=by rw[← hr]; rfl
  have p1:=hb.1.one
  have p2:=hb.2.1.one
  have c6:=e6 _ _ c5
  try simp only[hrr]
  simp -implicitDefEqProofs[ld_at c6,cel_of c6,stm_at c6,stm_upd,ld_same,cel_same,over,p1.1,p2.1]
  try simp only[thenM_n]
  refine fin _ _ k v cv vb (ext_upd n5 (e5.trans e6)) (hb.ext fz_loc) (hc.ext (R:=ChgR) (@ChgR.ext) fz_loc) (upd_same' _ _ _) ?_ ?_ ?_ ?_ ?_<;>simp[hr]
end Go.Proofs.YtcnphhhcknhhaaaGreat
namespace Go.Proofs.YtcnphhhcknhhaaaGreat
open Go Go.Den Go.MapKept
set_option linter.unusedSimpArgs false
set_option linter.unusedVariables false
set_option maxRecDepth 20000
theorem fz_get {T:Tags}{h:Heap}{b:Nat}{o:Obj}(e:fz T h b=some o):h b=some o∧T b=[]:=by
 unfold fz at e
 split at e
 ·rename_i ht; exact⟨e,ht⟩
 ·cases e
def ApR (F:Heap)(ap:Value)(k:WK)(who:Int)(s:Nat):Prop:=match k with
 | .bad=>ap = .nilFunc
 | .op x=>∃ b1 b2 b3 uv,ap = .func (.func qdxZ) #[] #[ptr b1,ptr b2,ptr b3]∧F b1=some (.cells #[.int .i64 who] qoZ (0,0))∧F b2=some (.cells #[.int .i64 s] qoZ (0,0))∧F b3=some (.cells (opC x uv).toArray qeZ (0,0))∧One uv
 | .sweep=>∃ b,ap = .func (.func qdGZ) #[] #[ptr b]∧F b=some (.cells #[.int .i64 s] qoZ (0,0))∧who=8
theorem ApR.ext {F F':Heap}{ap:Value}{k:WK}{who:Int}{s:Nat}(e:Ext F F')(x:ApR F ap k who s):ApR F' ap k who s:=by
 cases k with
 | bad=>exact x
 | op o=>obtain⟨b1,b2,b3,uv,h1,h2,h3,h4,h5⟩:=x; exact⟨b1,b2,b3,uv,h1,e _ _ h2,e _ _ h3,e _ _ h4,h5⟩
 | sweep=>obtain⟨b,h1,h2,h3⟩:=x; exact⟨b,h1,e _ _ h2,h3⟩
theorem ApR.nil {F:Heap}{ap:Value}{k:WK}{who:Int}{s:Nat}(x:ApR F ap k who s):binV .eql 6 true ap .nilFunc=some (.bool k.isBad):=by
 cases k with
 | bad=>have:ap = .nilFunc:=x; subst this; rfl
 | op o=>obtain⟨b1,b2,b3,uv,rfl,_⟩:=x; rfl
 | sweep=>obtain⟨b,rfl,_⟩:=x; rfl
def repC (e:Int):List Value:=[.int .i64 e,.slice none 0 0,.slice none 0 0,.bool false]
theorem zcRep:zc P quZ=some #[.int .i64 0,.slice none 0 0,.slice none 0 0,.bool false]:=by kernel_rfl
theorem bdRepE (e:Int):bdV (binf P quZ) [(0,.int .i64 e)]=some (.agg #[.int .i64 e,.slice none 0 0,.slice none 0 0,.bool false]):=by kernel_rfl
theorem bdRep0:bdV (binf P quZ) []=some (.agg #[.int .i64 0,.slice none 0 0,.slice none 0 0,.bool false]):=by kernel_rfl
theorem opap_ok (who:Int){s:Nat}(o:OpD)(ow:OpW o){uv:Value}(ou:One uv)(t:Tm)(ht:U64 t.now){T:Tags}{h:Heap}{g:Tag}{p b1 b2 b3:Nat}{H:Hall}(w:Wf T h)(gg:Gd g)(x:HallR T h g p H)(hs:s<H.n)(h8:H.n≤8)(hl:H.acts.length<1000000)(sg:StG (H.ss s))
  (f1:fz T h b1=some (.cells #[.int .i64 who] qoZ (0,0))) (f2:fz T h b2=some (.cells #[.int .i64 s] qoZ (0,0))) (f3:fz T h b3=some (.cells (opC o uv).toArray qeZ (0,0))) {K:KTy}
  (hk:∀ T' h',Only (pre g) T h T' h'→HallR T' h' g p (H.write who s o t).1→K (.agg (repC (H.write who s o t).2).toArray) h'):callM P qdxZ #[ptr p,.agg (tmC t).toArray,ptr b1,ptr b2,ptr b3] h K:=by
 apply qpmZ
 unfold qjOZ
 rw[zcRep]
 refine nw_agg fun v1 h1 n1 e1 c1=>?_
 have o1:Only non T h T h1:=Only.of_ext w e1
 refine nw_tag o1.wf lc fun v3 T2 h2 n3 o2 t3 c3=>?_
 have x2:=(x.up o1 (Off.non _) (not_non _)).up o2 (Off.non _) (not_non _)
 have k1:=(o2.k.at (e1 _ _ (fz_get f1).1) (fz_get f1).2 (not_non _)).1
 have k2:=(o2.k.at (e1 _ _ (fz_get f2).1) (fz_get f2).2 (not_non _)).1
 have k3:=(o2.k.at (e1 _ _ (fz_get f3).1) (fz_get f3).2 (not_non _)).1
 have k4:=(o2.k.at c1 (w v1 n1) (not_non _)).1
 have oa:ldV (some (some 7)) (ptr b3) h2=some (.agg (opC o uv).toArray):=by simp[ld_at k3,opC]
 have ob:ldV (some (some 3)) (ptr v1) h2=some (.agg (tmC t).toArray):=by simp[ld_at k4,tmC]
 simp -implicitDefEqProofs only[oa,ob,ov_s]
 simp -implicitDefEqProofs[ld_at k1,cel_of k1,stm_at k1,ld_at k2,cel_of k2,stm_at k2,stm_upd,ld_same,cel_same,over]
 have m0:h v3=none:=by
  cases hh:h v3 with
  | none=>rfl
  | some o=>rw[e1 _ _ hh] at n3; cases n3
 refine hwrite_ok who o ow ou t ht o2.wf gg x2 hs h8 hl sg fun T4 h4 o4 x4=>?_
 have b3':=o4.see ⟨c3,t3⟩ gg.nlc
 have c3':=b3'.1
 simp -implicitDefEqProofs[ld_at c3',cel_of c3',stm_at c3',stm_upd,ld_same,cel_same,over,bdRepE]
 have oo:Only (pre g) T h T4 h4:=((o1.mono non_up).up o2 non_up).up o4 fun t h=>h
 exact hk T4 _ (oo.own m0 c3') (x4.lst gg oo.wf b3')
theorem swap_ok {s:Nat}(t:Tm){T:Tags}{h:Heap}{g:Tag}{p b2:Nat}{H:Hall}(w:Wf T h)(gg:Gd g)(x:HallR T h g p H)(hs:s<H.n)(h8:H.n≤8)(hl:H.acts.length<1000000)(sg:StG (H.ss s))
  (f2:fz T h b2=some (.cells #[.int .i64 s] qoZ (0,0))) {K:KTy}
  (hk:∀ T' h',Only (pre g) T h T' h'→HallR T' h' g p (H.sweep 8 s t)→K (.agg (repC 0).toArray) h'):callM P qdGZ #[ptr p,.agg (tmC t).toArray,ptr b2] h K:=by
 apply qmGZ
 unfold qdVZ
 rw[zcRep]
 refine nw_agg fun v1 h1 n1 e1 c1=>?_
 have o1:Only non T h T h1:=Only.of_ext w e1
 refine nw_tag o1.wf lc fun v3 T2 h2 n3 o2 t3 c3=>?_
 have x2:=(x.up o1 (Off.non _) (not_non _)).up o2 (Off.non _) (not_non _)
 have k2:=(o2.k.at (e1 _ _ (fz_get f2).1) (fz_get f2).2 (not_non _)).1
 have k4:=(o2.k.at c1 (w v1 n1) (not_non _)).1
 have ob:ldV (some (some 3)) (ptr v1) h2=some (.agg (tmC t).toArray):=by simp[ld_at k4,tmC]
 simp -implicitDefEqProofs only[ob,ov_s]
 simp -implicitDefEqProofs[ld_at k2,cel_of k2,stm_at k2,stm_upd,ld_same,cel_same,over]
 have m0:h v3=none:=by
  cases hh:h v3 with
  | none=>rfl
  | some o=>rw[e1 _ _ hh] at n3; cases n3
 refine hsweep_ok 8 t o2.wf gg x2 hs h8 hl sg fun T4 h4 o4 x4=>?_
 have b3':=o4.see ⟨c3,t3⟩ gg.nlc
 have c3':=b3'.1
 simp -implicitDefEqProofs[ld_at c3',cel_of c3',stm_at c3',stm_upd,ld_same,cel_same,over,bdRep0]
 have oo:Only (pre g) T h T4 h4:=((o1.mono non_up).up o2 non_up).up o4 fun t h=>h
 exact hk T4 _ (oo.own m0 c3') (x4.lst gg oo.wf b3')
variable {K:KTy}
theorem ap_ok {k:WK}{who:Int}{s:Nat}{ap:Value}(hb:k.isBad=false)(ho:∀ o,k = .op o→OpW o)(t:Tm)(ht:U64 t.now){T:Tags}{h:Heap}{g:Tag}{p:Nat}{H:Hall}(w:Wf T h)(gg:Gd g)(x:HallR T h g p H)(hs:s<H.n)(h8:H.n≤8)(hl:H.acts.length<1000000)(sg:StG (H.ss s))(a:ApR (fz T h) ap k who s)
  (hk:∀ T' h',Only (pre g) T h T' h'→HallR T' h' g p (k.run H who s t).1→K (.agg (repC (k.run H who s t).2).toArray) h'):nxM P (do let d ← Deferred.ofValue ap #[ptr p,.agg (tmC t).toArray]; invoke d.target d.args) h K:=by
 cases k with
 | bad=>simp[WK.isBad] at hb
 | op o =>
  obtain⟨b1,b2,b3,uv,rfl,f1,f2,f3,ou⟩:=a
  refine nx_fn good (by kernel_rfl) ?_
  exact opap_ok who o (ho o rfl) ou t ht w gg x hs h8 hl sg f1 f2 f3 hk
 | sweep =>
  obtain⟨b,rfl,f2,rfl⟩:=a
  refine nx_fn good (by kernel_rfl) ?_
  exact swap_ok t w gg x hs h8 hl sg f2 hk
def wpC (p:WP)(ap:Value):List Value:=[.int .i64 p.who,.int .i64 p.s,ap,.int .i64 p.at_,.int .u64 p.t.now,.int .u64 p.t.seq,.bool p.t.closed,.int .i64 p.placed,.int .i64 p.err,.slice none 0 0,.slice none 0 0,.bool false]
structure WPX (T:Tags)(h:Heap)(g:Tag)(q:Nat)(p:WP)(ap:Value):Prop where
 hp:h q=some (.cells (wpC p ap).toArray qbsZ (0,0))
 tp:T q=g++[0]
 ap:ApR (fz T h) ap p.k p.who p.s
def WPR (T:Tags)(h:Heap)(g:Tag)(q:Nat)(p:WP):Prop:=∃ ap,WPX T h g q p ap
theorem WPX.kp {U:Tag→Prop}{T T':Tags}{h h':Heap}{g:Tag}{q:Nat}{p:WP}{ap:Value}(x:WPX T h g q p ap)(k:Kp U T h T' h')(o:Off U g)(n:¬ U []):WPX T' h' g q p ap :=
 ⟨(k.at x.hp x.tp (o.at _)).1,(k.at x.hp x.tp (o.at _)).2,x.ap.ext (k.ext n)⟩
theorem WPR.kp {U:Tag→Prop}{T T':Tags}{h h':Heap}{g:Tag}{q:Nat}{p:WP}(x:WPR T h g q p)(k:Kp U T h T' h')(o:Off U g)(n:¬ U []):WPR T' h' g q p:=by
 obtain⟨ap,x⟩:=x
 exact⟨ap,x.kp k o n⟩
theorem WPX.st {T:Tags}{h:Heap}{g:Tag}{q:Nat}{p p':WP}{ap:Value}(x:WPX T h g q p ap)(w:Wf T h){c:Array Value}(hc:c=(wpC p' ap).toArray)(h1:p'.k=p.k)(h2:p'.who=p.who)(h3:p'.s=p.s) :
  Only (fun t=>t=g++[0]) T h T (upd h q (.cells c qbsZ (0,0)))∧WPX T (upd h q (.cells c qbsZ (0,0))) g q p' ap:=by
 have o1:Only (fun t=>t=g++[0]) T h T (upd h q (.cells c qbsZ (0,0))):=Only.upd w x.hp x.tp
 exact⟨o1,by rw[upd_same',hc],x.tp,by rw[h1,h2,h3]; exact x.ap.ext (o1.ext (by simp))⟩
abbrev stepA:Array Value:=#[.func (.func qakZ) #[] #[],.func (.func qabZ) #[] #[],.func (.func qalZ) #[] #[],.func (.func qacZ) #[] #[],.func (.func qKZ) #[] #[],.func (.func qayZ) #[] #[],.func (.func qVZ) #[] #[]]
theorem bsSteps:Instr.fill (fun i=>some (i*1,1)) (zrow #[.nilFunc] (7*1)) [(0,(.func (.func qakZ) #[] #[])),(1,(.func (.func qabZ) #[] #[])),(2,(.func (.func qalZ) #[] #[])),(3,(.func (.func qacZ) #[] #[])),(4,(.func (.func qKZ) #[] #[])),(5,(.func (.func qayZ) #[] #[])),(6,(.func (.func qVZ) #[] #[]))]=some #[.func (.func qakZ) #[] #[],.func (.func qabZ) #[] #[],.func (.func qalZ) #[] #[],.func (.func qacZ) #[] #[],.func (.func qKZ) #[] #[],.func (.func qayZ) #[] #[],.func (.func qVZ) #[] #[]]:=by kernel_rfl
theorem bsStepsI:bsI P qbtZ=some (qchZ,1,#[.nilFunc]):=by kernel_rfl
theorem steps_ok {h:Heap}(hk:∀ b h',h b=none→Ext h h'→h' b=some (.cells #[.func (.func qakZ) #[] #[],.func (.func qabZ) #[] #[],.func (.func qalZ) #[] #[],.func (.func qacZ) #[] #[],.func (.func qKZ) #[] #[],.func (.func qayZ) #[] #[],.func (.func qVZ) #[] #[]] qchZ (0,0))→K (.slice (some ⟨b,0,none⟩) 7 7) h'):callM P qdTZ #[] h K:=by
 apply qptZ
 unfold qkJZ
 rw[bsStepsI]
 simp -implicitDefEqProofs only[bsM]
 rw[bsSteps]
 exact⟨by omega,fun b hb=>hk b _ hb (Ext.upd hb _) (upd_same _ _ _)⟩
theorem wdone_ok {T:Tags}{h:Heap}{g:Tag}{q:Nat}{p:WP}(x:WPR T h g q p)(hk:∀ h',Ext h h'→K (.bool p.done) h'):callM P qdvZ #[ptr q] h K:=by
 apply qouZ
 unfold qgzZ
 obtain⟨ap,x⟩:=x
 have cp:=x.hp
 simp -implicitDefEqProofs only[wpC] at cp
 simp -implicitDefEqProofs[ld_at cp,cel_of cp,stm_at cp,stm_upd,ld_same,cel_same,over]
 refine steps_ok fun b h1 n1 e1 c1=>?_
 have cp:=e1 _ _ cp
 simp -implicitDefEqProofs[ld_at cp,cel_of cp,stm_at cp,stm_upd,ld_same,cel_same,over]
 exact kb (hk _ e1) (by unfold WP.done; exact decide_eq_decide.2 (by omega))
theorem wwaits_ok {T:Tags}{h:Heap}{g:Tag}{q:Nat}{p:WP}(x:WPR T h g q p)(hk:K (.int .i64 p.waits) h):callM P qflZ #[ptr q] h K:=by
 apply qnJZ
 unfold qfUZ
 obtain⟨ap,x⟩:=x
 have cp:=x.hp
 simp -implicitDefEqProofs only[wpC] at cp
 have hn:=x.ap.nil
 unfold WP.waits at hk
 cases hb:p.k.isBad with
 | true =>
  rw[hb] at hn hk
  simp at hk
  simp -implicitDefEqProofs[ld_at cp,cel_of cp,stm_at cp,stm_upd,ld_same,cel_same,over,hn]
  exact hk
 | false =>
  rw[hb] at hn hk
  simp at hk
  simp -implicitDefEqProofs[ld_at cp,cel_of cp,stm_at cp,stm_upd,ld_same,cel_same,over,hn]
  refine⟨fun h=>?_,fun h=>?_⟩
  ·rw[if_pos h] at hk; exact hk
  ·rw[if_neg (by omega)] at hk; exact hk
theorem wenabled_ok {T:Tags}{h:Heap}{g gh:Tag}{q hp:Nat}{p:WP}{H:Hall}(w:Wf T h)(x:WPR T h g q p)(y:HallR T h gh hp H)(hs:p.s<H.n)(hk:∀ h',Ext h h'→K (.bool (p.enabled H)) h'):callM P qdPZ #[ptr q,ptr hp] h K:=by
 apply qmQZ
 unfold qeUZ
 refine wdone_ok x fun h1 e1=>?_
 unfold qgYZ
 have o1:Only non T h T h1:=Only.of_ext w e1
 have x1:=x.kp o1.k (Off.non _) (not_non _)
 have y1:=y.up o1 (Off.non _) (not_non _)
 cases hd:p.done with
 | true =>
  simp -implicitDefEqProofs
  exact kb (hk _ e1) (by simp[WP.enabled,hd])
 | false =>
  simp -implicitDefEqProofs
  refine wwaits_ok x1 ?_
  by_cases hw:p.waits<0
  ·simp -implicitDefEqProofs[hw]
   exact kb (hk _ e1) (by simp[WP.enabled,hd,hw])
  ·obtain⟨ap,x1'⟩:=x1
   have cp:=x1'.hp
   simp -implicitDefEqProofs only[wpC] at cp
   simp -implicitDefEqProofs[hw,ld_at cp,cel_of cp,stm_at cp,stm_upd,ld_same,cel_same,over]
   refine free_ok y1 hs fun h2 e2=>?_
   try simp
   exact kb (hk _ (e1.trans e2)) (by simp[WP.enabled,hd,hw])
end Go.Proofs.YtcnphhhcknhhaaaGreat
namespace Go.Proofs.YtcnphhhcknhhaaaGreat
open Go Go.Den Go.MapKept
set_option linter.unusedSimpArgs false
set_option linter.unusedVariables false
set_option maxRecDepth 20000
section
variable {T:Tags}{h:Heap}{g gh:Tag}{q hp:Nat}{p:WP}{H:Hall}{K:KTy}
theorem wlock_ok (w:Wf T h)(gg:Gd gh)(x:WPR T h g q p)(y:HallR T h gh hp H)(wg:WG H.n p)(h8:H.n≤8)(hl:H.acts.length<1000000)(hk:∀ T' h',Only (pre gh) T h T' h'→HallR T' h' gh hp (H.lock p.who p.s)→K (.tuple #[]) h'):callM P qakZ #[ptr q,ptr hp] h K:=by
 apply qoFZ
 unfold qgKZ
 obtain⟨ap,x⟩:=x
 have cp:=x.hp
 simp -implicitDefEqProofs only[wpC] at cp
 simp -implicitDefEqProofs[ld_at cp,cel_of cp,stm_at cp,stm_upd,ld_same,cel_same,over]
 exact lock_ok _ w gg y wg.s h8 hl (by have:=wg.w; omega) hk
theorem wbegin_ok (w:Wf T h)(gg:Gd gh)(x:WPR T h g q p)(y:HallR T h gh hp H)(wg:WG H.n p)(h8:H.n≤8)(hl:H.acts.length<1000000)(hv:U64 (H.ss p.s).v)(hb:U64 (H.ss p.s).bound)(hk:∀ T' h',Only (pre gh) T h T' h'→HallR T' h' gh hp (H.begin p.who p.s)→K (.tuple #[]) h'):callM P qabZ #[ptr q,ptr hp] h K:=by
 apply qofZ
 unfold qgjZ
 obtain⟨ap,x⟩:=x
 have cp:=x.hp
 simp -implicitDefEqProofs only[wpC] at cp
 simp -implicitDefEqProofs[ld_at cp,cel_of cp,stm_at cp,stm_upd,ld_same,cel_same,over]
 exact begin2_ok _ w gg y wg.s h8 hl hv hb hk
theorem wpub_ok (w:Wf T h)(gg:Gd gh)(x:WPR T h g q p)(y:HallR T h gh hp H)(wg:WG H.n p)(h8:H.n≤8)(hl:H.acts.length<900000)(hk:∀ T' h',Only (pre gh) T h T' h'→HallR T' h' gh hp (H.pub p.who p.s)→K (.tuple #[]) h'):callM P qKZ #[ptr q,ptr hp] h K:=by
 apply qmXZ
 unfold qeYZ
 obtain⟨ap,x⟩:=x
 have cp:=x.hp
 simp -implicitDefEqProofs only[wpC] at cp
 simp -implicitDefEqProofs[ld_at cp,cel_of cp,stm_at cp,stm_upd,ld_same,cel_same,over]
 exact hpub_ok _ w gg y wg.s h8 (by omega) hk
theorem wend_ok (w:Wf T h)(gg:Gd gh)(x:WPR T h g q p)(y:HallR T h gh hp H)(wg:WG H.n p)(h8:H.n≤8)(hl:H.acts.length<1000000)(hv:U64 (H.ss p.s).v)(hw:wrt (H.ss p.s).v=true→(H.ss p.s).v<18446744073709551615)(hk:∀ T' h',Only (pre gh) T h T' h'→HallR T' h' gh hp (H.end_ p.who p.s)→K (.tuple #[]) h'):callM P qayZ #[ptr q,ptr hp] h K:=by
 apply qpaZ
 unfold qhFZ
 obtain⟨ap,x⟩:=x
 have cp:=x.hp
 simp -implicitDefEqProofs only[wpC] at cp
 simp -implicitDefEqProofs[ld_at cp,cel_of cp,stm_at cp,stm_upd,ld_same,cel_same,over]
 exact hend_ok _ w gg y wg.s h8 hl hv hw hk
theorem wunlock_ok (w:Wf T h)(gg:Gd gh)(x:WPR T h g q p)(y:HallR T h gh hp H)(wg:WG H.n p)(h8:H.n≤8)(hl:H.acts.length<1000000)(hw:0≤(H.ss p.s).who∧(H.ss p.s).who≤1000)(hk:∀ T' h',Only (pre gh) T h T' h'→HallR T' h' gh hp (H.unlock p.who p.s)→K (.tuple #[]) h'):callM P qVZ #[ptr q,ptr hp] h K:=by
 apply qnyZ
 unfold qfBZ
 obtain⟨ap,x⟩:=x
 have cp:=x.hp
 simp -implicitDefEqProofs only[wpC] at cp
 simp -implicitDefEqProofs[ld_at cp,cel_of cp,stm_at cp,stm_upd,ld_same,cel_same,over]
 exact unlock_ok _ w gg y wg.s h8 hl (by omega) hk
theorem wtake_ok (w:Wf T h)(gg:Gd gh)(d1:Off (pre gh) g)(d2:Off (pre g) gh)(g2:Gd g)(x:WPR T h g q p)(y:HallR T h gh hp H)(ht:U64 H.t.seq)(hl:H.acts.length<1000000)(hk:∀ T' h',Only (two (pre g) (pre gh)) T h T' h'→WPR T' h' g q { p with t:=(H.take p.who).t }→HallR T' h' gh hp (H.take p.who)→K (.tuple #[]) h'):callM P qalZ #[ptr q,ptr hp] h K:=by
 apply qoGZ
 unfold qgLZ
 obtain⟨ap,x⟩:=x
 have cp:=x.hp
 simp -implicitDefEqProofs only[wpC] at cp
 simp -implicitDefEqProofs[ld_at cp,cel_of cp,stm_at cp,stm_upd,ld_same,cel_same,over]
 refine htake_ok _ w gg y ht hl fun T1 h1 o1 y1=>?_
 have x1:=x.kp o1.k d1 gg.nil
 have cp:=x1.hp
 simp -implicitDefEqProofs only[wpC] at cp
 obtain⟨o2,x2⟩:=x1.st (p':={ p with t:=(H.take p.who).t }) o1.wf (c:=_) rfl rfl rfl rfl
 simp -implicitDefEqProofs[ld_at cp,cel_of cp,stm_at cp,stm_upd,ld_same,cel_same,over,tmC]
 refine hk T1 _ ((o1.mono fun _=>.inr).up o2 fun _ hh=>.inl (eq_pre hh)) ⟨ap,?_⟩ (y1.up o2 (fun t ht hh=>d2 t ht (eq_pre hh)) (by simp))
 exact x2
theorem wwrite_ok (w:Wf T h)(gg:Gd gh)(d1:Off (pre gh) g)(d2:Off (pre g) gh)(g2:Gd g)(x:WPR T h g q p)(y:HallR T h gh hp H)(wg:WG H.n p)(hb:p.k.isBad=false)(h8:H.n≤8)(hl:H.acts.length<1000000)(sg:StG (H.ss p.s))(hk:∀ T' h',Only (two (pre g) (pre gh)) T h T' h'→WPR T' h' g q { p with err:=(p.k.run H p.who p.s p.t).2 }→HallR T' h' gh hp (p.k.run H p.who p.s p.t).1→K (.tuple #[]) h'):callM P qacZ #[ptr q,ptr hp] h K:=by
 apply qogZ
 unfold qgkZ
 obtain⟨ap,x⟩:=x
 have cp:=x.hp
 simp -implicitDefEqProofs only[wpC] at cp
 have oa:ldV (some (some 3)) (.pointer (some ⟨q,4,none⟩)) h=some (.agg (tmC p.t).toArray):=by simp[ld_at cp,tmC]
 simp -implicitDefEqProofs[ld_at cp,cel_of cp,stm_at cp,stm_upd,ld_same,cel_same,over,oa]
 refine ap_ok hb wg.o p.t wg.t.1 w gg y wg.s h8 hl sg x.ap fun T1 h1 o1 y1=>?_
 have x1:=x.kp o1.k d1 gg.nil
 have cp:=x1.hp
 simp -implicitDefEqProofs only[wpC] at cp
 obtain⟨o2,x2⟩:=x1.st (p':={ p with err:=(p.k.run H p.who p.s p.t).2 }) o1.wf (c:=_) rfl rfl rfl rfl
 simp -implicitDefEqProofs[ld_at cp,cel_of cp,stm_at cp,stm_upd,ld_same,cel_same,over,repC]
 refine hk T1 _ ((o1.mono fun _=>.inr).up o2 fun _ hh=>.inl (eq_pre hh)) ⟨ap,?_⟩ (y1.up o2 (fun t ht hh=>d2 t ht (eq_pre hh)) (by simp))
 exact x2
end
variable {K:KTy}
theorem wact_ok {T:Tags}{h:Heap}{g gh:Tag}{q hp m:Nat}{p:WP}{H:Hall}(n:Int)(w:Wf T h)(gg:Gd gh)(d1:Off (pre gh) g)(d2:Off (pre g) gh)(g2:Gd g)(x:WPR T h g q p)(y:HallR T h gh hp H)(hs:HS m H)(hm:m<100000)(wg:WG H.n p)(hb:p.k.isBad=false)(h7:p.at_<7){f:Value}
  (hf:stepA[p.at_]?=some f) (hpl:p.at_=2→p.placed=n)
  (hk:∀ T' h',Only (two (pre g) (pre gh)) T h T' h'→WPR T' h' g q { (p.stp H n).1 with at_:=p.at_ }→HallR T' h' gh hp (p.stp H n).2→K (.tuple #[]) h'):nxM P (do let d ← Deferred.ofValue f #[ptr q,ptr hp]; invoke d.target d.args) h K:=by
 have st:=hs.st p.s wg.s
 have n8:=hs.n8.2
 have ac:H.acts.length<900000:=by have:=hs.ac; omega
 have up:∀ T' h',Only (pre gh) T h T' h'→Only (two (pre g) (pre gh)) T h T' h'∧WPR T' h' g q p:=fun T' h' o=>⟨o.mono fun _=>.inr,x.kp o.k d1 gg.nil⟩
 by_cases h0:p.at_=0
 ·rw[stp0 H n h0] at hk
  simp -implicitDefEqProofs only[h0] at hf hk
  cases hf
  refine nx_fn good (by kernel_rfl) ?_
  refine wlock_ok w gg x y wg n8 (by omega) fun T1 h1 o1 y1=>hk T1 h1 (up _ _ o1).1 ?_ y1
  have:=(up _ _ o1).2
  rw[← h0]; exact this
 by_cases h1:p.at_=1
 ·rw[stp1 H n h1] at hk
  simp -implicitDefEqProofs only[h1] at hf hk
  cases hf
  refine nx_fn good (by kernel_rfl) ?_
  refine wbegin_ok w gg x y wg n8 (by omega) st.wr.1 st.wr.2.1 fun T1 h2 o1 y1=>hk T1 h2 (up _ _ o1).1 ?_ y1
  have:=(up _ _ o1).2
  rw[← h1]; exact this
 by_cases h2:p.at_=2
 ·rw[stp2 H n h2] at hk
  simp -implicitDefEqProofs only[h2] at hf hk
  cases hf
  refine nx_fn good (by kernel_rfl) ?_
  refine wtake_ok w gg d1 d2 g2 x y hs.ts (by omega) fun T1 h3 o1 x1 y1=>hk T1 h3 o1 ?_ y1
  rw[← hpl h2,← h2]; exact x1
 by_cases h3:p.at_=3
 ·rw[stp3 H n h3] at hk
  simp -implicitDefEqProofs only[h3] at hf hk
  cases hf
  refine nx_fn good (by kernel_rfl) ?_
  refine wwrite_ok w gg d1 d2 g2 x y wg hb n8 (by omega) (stG_of st hm) fun T1 h4 o1 x1 y1=>hk T1 h4 o1 ?_ y1
  rw[← h3]; exact x1
 by_cases h4:p.at_=4
 ·rw[stp4 H n h4] at hk
  simp -implicitDefEqProofs only[h4] at hf hk
  cases hf
  refine nx_fn good (by kernel_rfl) ?_
  refine wpub_ok w gg x y wg n8 ac fun T1 h5 o1 y1=>hk T1 h5 (up _ _ o1).1 ?_ y1
  have:=(up _ _ o1).2
  rw[← h4]; exact this
 by_cases h5:p.at_=5
 ·rw[stp5 H n h5] at hk
  simp -implicitDefEqProofs only[h5] at hf hk
  cases hf
  refine nx_fn good (by kernel_rfl) ?_
  refine wend_ok w gg x y wg n8 (by omega) st.wr.1 st.wr.2.2 fun T1 h6 o1 y1=>hk T1 h6 (up _ _ o1).1 ?_ y1
  have:=(up _ _ o1).2
  rw[← h5]; exact this
 ·have h6:p.at_=6:=by omega
  rw[stp6 H n (by omega)] at hk
  simp -implicitDefEqProofs only[h6] at hf hk
  cases hf
  refine nx_fn good (by kernel_rfl) ?_
  refine wunlock_ok w gg x y wg n8 (by omega) st.wh fun T1 h7 o1 y1=>hk T1 h7 (up _ _ o1).1 ?_ y1
  have:=(up _ _ o1).2
  rw[← h6]; exact this
set_option maxHeartbeats 2000000 in
theorem wstep_ok {T:Tags}{h:Heap}{g gh:Tag}{q hp m:Nat}{p:WP}{H:Hall}(n:Int)(w:Wf T h)(gg:Gd gh)(d1:Off (pre gh) g)(d2:Off (pre g) gh)(g2:Gd g)(x:WPR T h g q p)(y:HallR T h gh hp H)(hs:HS m H)(hm:m<100000)(wg:WG H.n p)
  (hk:∀ T' h',Only (two (pre g) (pre gh)) T h T' h'→WPR T' h' g q (p.step H n).1→HallR T' h' gh hp (p.step H n).2→K (.tuple #[]) h'):callM P qcfZ #[ptr q,ptr hp,.int .i64 n] h K:=by
 apply qotZ
 unfold qgyZ
 refine wenabled_ok w x y wg.s fun h1 e1=>?_
 have o1:Only non T h T h1:=Only.of_ext w e1
 obtain⟨ap,x⟩:=x.kp o1.k (Off.non _) (not_non _)
 have y:=y.up o1 (Off.non _) (not_non _)
 have cp:=x.hp
 simp -implicitDefEqProofs only[wpC] at cp
 unfold qiCZ
 cases he:p.enabled H with
 | false =>
  simp -implicitDefEqProofs
  have e:p.step H n=(p,H):=by simp[WP.step,he]
  rw[e] at hk
  exact hk T h1 (o1.mono non_up) ⟨ap,x⟩ y
 | true =>
  have h7:=enabled_at he
  simp -implicitDefEqProofs
  unfold qiBZ
  have hn:=x.ap.nil
  cases hb:p.k.isBad with
  | true =>
   rw[hb] at hn
   have e:p.step H n=({ p with err:=1,placed:=n,at_:=7 },H):=by simp[WP.step,he,hb]
   rw[e] at hk
   simp -implicitDefEqProofs[ld_at cp,cel_of cp,stm_at cp,stm_upd,ld_same,cel_same,over,hn]
   unfold qiwZ
   simp -implicitDefEqProofs[bdRepE]
   refine steps_ok fun b h2 n2 e2 c2=>?_
   unfold qivZ
   have o2:Only non T h1 T h2:=Only.of_ext o1.wf e2
   have x:=x.kp o2.k (Off.non _) (not_non _)
   have y:=y.up o2 (Off.non _) (not_non _)
   have cp:=x.hp
   simp -implicitDefEqProofs only[wpC] at cp
   obtain⟨o3,x3⟩:=x.st (p':={ p with err:=1,placed:=n,at_:=7 }) o2.wf (c:=_) rfl rfl rfl rfl
   simp -implicitDefEqProofs[ld_at cp,cel_of cp,stm_at cp,stm_upd,ld_same,cel_same,over]
   refine hk T _ (((o1.mono non_up).up o2 non_up).up o3 fun _ hh=>.inl (eq_pre hh)) ⟨ap,?_⟩ (y.up o3 (fun t ht hh=>d2 t ht (eq_pre hh)) (by simp))
   exact x3
  | false =>
   rw[hb] at hn
   have e:p.step H n=p.stp H n:=by simp[WP.step,he,hb]
   rw[e] at hk
   simp -implicitDefEqProofs[ld_at cp,cel_of cp,stm_at cp,stm_upd,ld_same,cel_same,over,hn]
   unfold qiAZ
   rw[seqM_eq]
   -- the act,and going on
   have fin:∀ (p1:WP) (h3:Heap) (s:Env),Only (two (pre g) (pre gh)) T h T h3→WPR T h3 g q p1→HallR T h3 gh hp H→WG H.n p1→p1.stp H n=p.stp H n→p1.at_=p.at_→p1.k=p.k→(p1.at_=2→p1.placed=n)→s 0=ptr q→s 1=ptr hp→qfpZ s h3 K []:=by
    intro p1 h3 s o3 x3 y3 g3 est eat ek epl s0 s1
    obtain⟨ap3,x3'⟩:=x3
    have cp:=x3'.hp
    simp -implicitDefEqProofs only[wpC] at cp
    unfold qfpZ
    simp -implicitDefEqProofs[s0,s1,ld_at cp,cel_of cp,stm_at cp,stm_upd,ld_same,cel_same,over]
    refine steps_ok fun b h4 n4 e4 c4=>?_
    have o4:Only non T h3 T h4:=Only.of_ext o3.wf e4
    have x4:=x3'.kp o4.k (Off.non _) (not_non _)
    have y4:=y3.up o4 (Off.non _) (not_non _)
    have cp:=x4.hp
    simp -implicitDefEqProofs only[wpC] at cp
    unfold qhQZ
    have h17:p1.at_<7:=by omega
    obtain⟨f,hf⟩:∃ f,stepA[p1.at_]?=some f:=⟨_,Array.getElem?_eq_getElem (xs:=stepA) (i:=p1.at_) h17⟩
    have hia:iaV (some (none,1)) (.slice (some ⟨b,0,none⟩) 7 7) (.int .i64 p1.at_)=some (.pointer (some ⟨b,p1.at_,none⟩)):=by
     have:(0:Int)≤p1.at_∧(p1.at_:Int)<7:=by omega
     simp -implicitDefEqProofs[iaV,this]
    have hcl:cel h4 b p1.at_=some f:=by rw[cel_of c4]; exact hf
    simp -implicitDefEqProofs[ld_at cp,cel_of cp,stm_at cp,stm_upd,ld_same,cel_same,over,hia,hcl,s0,s1]
    refine wact_ok n o4.wf gg d1 d2 g2 ⟨ap3,x4⟩ y4 hs hm g3 (by rw[ek]; exact hb) h17 hf epl fun T5 h5 o5 x5 y5=>?_
    obtain⟨ap5,x5⟩:=x5
    have cp:=x5.hp
    simp -implicitDefEqProofs only[wpC] at cp
    unfold qhPZ
    have hw:IntKind.i64.wrap ((p1.at_:Int)+1)=(p1.at_+1:Nat):=by rw[wrap64_id (by omega) (by omega)]; omega
    have hat:=stp_at p1 H n h17
    obtain⟨o6,x6⟩:=x5.st (p':=(p1.stp H n).1) o5.wf (c:=_) rfl rfl rfl rfl
    have x6':=x6.hp
    simp -implicitDefEqProofs only[wpC,hat] at o6 x6'
    simp -implicitDefEqProofs[ld_at cp,cel_of cp,stm_at cp,stm_upd,ld_same,cel_same,over,hw,s0,s1,-Int.natCast_add]
    refine hk T5 _ (((o3.up o4 non_up).up o5 fun _ hh=>hh).up o6 fun _ hh=>.inl (eq_pre hh)) ⟨ap5,?_⟩ (by rw[← est]; exact y5.up o6 (fun t ht hh=>d2 t ht (eq_pre hh)) (by simp))
    rw[← est]
    simp -implicitDefEqProofs only[wpC,hat] at x6
    exact x6
   unfold qizZ
   simp -implicitDefEqProofs[ld_at cp,cel_of cp,stm_at cp,stm_upd,ld_same,cel_same,over]
   refine⟨fun h2=>?_,fun h2=>?_⟩
   ·have h2:p.at_=2:=by omega
    unfold qixZ
    obtain⟨o3,x3⟩:=x.st (p':={ p with placed:=n }) o1.wf (c:=_) rfl rfl rfl rfl
    simp -implicitDefEqProofs[ld_at cp,cel_of cp,stm_at cp,stm_upd,ld_same,cel_same,over]
    refine fin { p with placed:=n } _ _ ((o1.mono non_up).up o3 fun _ hh=>.inl (eq_pre hh)) ⟨ap,?_⟩ (y.up o3 (fun t ht hh=>d2 t ht (eq_pre hh)) (by simp)) ⟨wg.s,wg.w,wg.a,wg.t,wg.o⟩ ?_ rfl rfl (fun _=>rfl) ?_ ?_
    ·exact x3
    ·rw[stp2 H n h2,stp2 H n (by exact h2)]
    ·simp -implicitDefEqProofs
    ·simp -implicitDefEqProofs
   ·have h2:p.at_≠2:=by omega
    unfold qiyZ
    simp -implicitDefEqProofs
    refine fin p h1 _ (o1.mono non_up) ⟨ap,x⟩ y wg rfl rfl rfl (fun h=>absurd h h2) ?_ ?_<;>simp
end Go.Proofs.YtcnphhhcknhhaaaGreat
namespace Go.Den
open Go
set_option linter.unusedVariables false
set_option linter.unusedSimpArgs false
deriving instance DecidableEq for Ent
deriving instance DecidableEq for Evt
end Go.Den
namespace Go.Den
open Go
set_option linter.unusedVariables false
set_option linter.unusedSimpArgs false
def evt0:Evt:=⟨⟨#[]⟩,⟨0,0,0⟩,⟨0,0,0⟩,0⟩
def hdE (l:List Evt):Evt:=l.headD evt0
def nth (r:List (List Evt))(i:Nat):List Evt:=r.getD i []
def bestE (r:List (List Evt)):Nat→Option Nat
 | 0=>none
 | k+1=>match bestE r k with
  | none=>if nth r k=[] then none else some k
  | some b=>if nth r k≠[]∧(hdE (nth r k)).seq<(hdE (nth r b)).seq then some k else some b
def mergeF:Nat→List (List Evt)→List Evt
 | 0,_=>[]
 | f+1,r=>match bestE r r.length with
  | none=>[]
  | some b=>hdE (nth r b)::mergeF f (r.set b (nth r b).tail)
def totE (r:List (List Evt)):Nat:=(r.map (·.length)).sum
def mergeE (r:List (List Evt)):List Evt:=mergeF (totE r) r
structure Tbl where
 c:Cfg
 t:Tm
 n:Nat
 bk:Nat→Book
 fd:Nat→Feed
def rep0:Reply:=⟨0,[],[],false⟩
def repE (e:Int):Reply:=⟨e,[],[],false⟩
def bset {α:Type}(f:Nat→α)(i:Nat)(x:α):Nat→α:=fun k=>if k=i then x else f k
def Tbl.stripe (M:Tbl)(u:ByteArray):Nat:=(stripeOf u M.c.stripes).toNat
def Tbl.take (M:Tbl):Tbl:={ M with t:={ M.t with seq:=addU M.t.seq 1 } }
def Tbl.sweepAt (M:Tbl)(s:Nat)(t:Tm):Tbl:={ M with bk:=bset M.bk s (sweepB (M.bk s) t.now).1,fd:=bset M.fd s ((M.fd s).tell (sweepB (M.bk s) t.now).2 t.seq) }
def Tbl.sweep (M:Tbl)(s:Int):Tbl:=if 0≤s∧s<M.n then M.take.sweepAt s.toNat M.take.t else M
def Tbl.writeAt (M:Tbl)(s:Nat)(x:OpD)(t:Tm):Tbl:={ M with bk:=bset M.bk s (writeB (M.bk s) x t.now M.c.sessions).1,fd:=bset M.fd s ((M.fd s).tell (writeB (M.bk s) x t.now M.c.sessions).2.1 t.seq) }
def Tbl.write (M:Tbl)(x:OpD):Tbl × Reply :=
 if M.t.closed then (M.take,repE 5) else (M.take.writeAt (M.stripe x.user) x M.take.t,repE (writeB (M.bk (M.stripe x.user)) x M.t.now M.c.sessions).2.2)
def Tbl.count (M:Tbl)(who:Int):Nat:=((List.range M.n).map fun s=>(M.fd s).count who).sum
def Tbl.fed (M:Tbl)(s:Nat)(f:Feed):Tbl:={ M with fd:=bset M.fd s f }
def Tbl.watch (M:Tbl)(who:Int)(u:ByteArray):Tbl × Reply :=
 if (M.fd (M.stripe u)).watching who u=false∧M.c.watches≤M.count who then (M,repE 4) else (M.fed (M.stripe u) ((M.fd (M.stripe u)).watch who u),rep0)
def Tbl.drainTo (M:Tbl)(who:Int)(k:Nat):Tbl:={ M with fd:=fun s=>if s<k then (M.fd s).drain who else M.fd s }
def Tbl.lostTo (M:Tbl)(who:Int)(k:Nat):Bool:=(List.range k).any fun s=>(M.fd s).lost who
def Tbl.toldTo (M:Tbl)(who:Int)(k:Nat):List (List Evt):=(List.range k).map fun s=>(M.fd s).told who
def Tbl.poll (M:Tbl)(who:Int):Tbl × Reply:=(M.drainTo who M.n,⟨0,[],mergeE (M.toldTo who M.n),M.lostTo who M.n⟩)
def Tbl.pres (M:Tbl)(u:ByteArray):Pres:=presB (M.bk (M.stripe u)) u M.t.now
def Tbl.do_ (M:Tbl)(who:Int)(x:OpD):Tbl × Reply :=
 if badB x=true∨clientB who=false then (M,repE 1)
 else if x.kind=1∨x.kind=2∨x.kind=3 then M.write x
 else if x.kind=8 then M.poll who
 else if M.t.closed then (M,repE 5)
 else if x.kind=6 then M.watch who x.user
 else if x.kind=7 then (M.fed (M.stripe x.user) ((M.fd (M.stripe x.user)).unwatch who x.user),rep0)
 else if x.kind=9 then ({ M with t:={ M.t with closed:=true } },rep0)
 else (M,⟨0,(usersOf x).map M.pres,[],false⟩)
def tbl0 (c:Cfg)(n:Nat):Tbl:=⟨c,⟨c.start,0,false⟩,n,fun _=>[],fun _=>feed0 c.queue⟩
def Hall.tbl (H:Hall):Tbl:=⟨H.c,H.t,H.n,fun s=>(H.ss s).book,fun s=>(H.ss s).feed⟩
structure TS (m:Nat)(M:Tbl):Prop where
 rt:rightB M.c=true
 cw:CfgW M.c
 nn:(M.n:Int)=M.c.stripes
 bk:∀ s,s<M.n→BkM m (M.bk s)
 fd:∀ s,s<M.n→FdM m (M.fd s)
 tn:U64 M.t.now
 ts:U64 M.t.seq
theorem TS.mono {m k:Nat}{M:Tbl}(x:TS m M)(h:m≤k):TS k M:=⟨x.rt,x.cw,x.nn,fun s hs=>(x.bk s hs).mono h,fun s hs=>(x.fd s hs).mono h,x.tn,x.ts⟩
theorem stripeOf_lt {u:ByteArray}{n:Int}(h:1≤n):0≤stripeOf u n∧stripeOf u n<n:=by
 have:=fnv_rng u
 unfold stripeOf
 rw[if_neg (by omega)]
 exact⟨Int.emod_nonneg _ (by omega),Int.emod_lt_of_pos _ (by omega)⟩
theorem TS.stripe {m:Nat}{M:Tbl}(x:TS m M)(u:ByteArray):M.stripe u<M.n:=by
 have h1:=x.rt; have h2:=x.nn
 simp only[rightB,decide_eq_true_eq] at h1
 have:=stripeOf_lt (u:=u) (n:=M.c.stripes) (by omega)
 unfold Tbl.stripe; omega
theorem HS.tbl {m:Nat}{H:Hall}(x:HS m H):TS m H.tbl:=⟨x.rt,x.cw,x.nn,fun s hs=>(x.st s hs).bk,fun s hs=>(x.st s hs).fd,x.tn,x.ts⟩
end Go.Den
namespace Go.Den
open Go
set_option linter.unusedVariables false
set_option linter.unusedSimpArgs false
def Lv (b:Book)(now:Int):Prop:=∀ x∈b,∀ s∈x.2.ss,now<s.un
end Go.Den
namespace Go.Den
open Go
set_option linter.unusedVariables false
set_option linter.unusedSimpArgs false
abbrev Mine:=List ByteArray
def miset (m:Mine)(u:ByteArray)(on:Bool):Mine:=(m.filter fun k=>!decide (k=u))++if on then [u] else []
def mhas (m:Mine)(u:ByteArray):Bool:=m.any fun k=>decide (k=u)
theorem mhas_iff {m:Mine}{u:ByteArray}:mhas m u=true↔u∈m:=by simp[mhas]
structure HP where
 who:Int
 x:OpD
 k:Nat
 s:Nat
 at_:Nat
 t:Tm
 placed:Int
 rep:Reply
 all:List (List Evt)
def HP.one (p:HP):Bool:=badB p.x || decide (p.x.kind=9)
def HP.steps (p:HP):Nat:=if p.one then 1 else if p.x.kind=8 then 3*p.k+1 else 4
def HP.done (p:HP):Bool:=decide (p.steps≤p.at_)
def HP.needs (p:HP):Int:=if p.one then -1 else if p.x.kind=8 then (if p.at_<p.k then p.at_ else -1) else if p.at_=0 then p.s else -1
def HP.enabled (p:HP)(H:Hall):Bool:=!p.done && (decide (p.needs<0) || decide ((H.ss p.needs.toNat).who=0))
def hp0 (H:Hall)(who:Int)(x:OpD):HP:=⟨who,x,H.n,(stripeOf x.user H.c.stripes).toNat,0,⟨0,0,false⟩,-1,rep0,[]⟩
def HP.stpP (p:HP)(H:Hall)(n:Int):HP × Hall :=
 if p.at_<p.k then ({ p with at_:=p.at_+1 },H.lock p.who p.at_)
 else if p.at_=p.k then ({ p with at_:=p.at_+1,t:=H.t,placed:=n },H.look p.who)
 else if p.at_≤2*p.k then
  ({ p with at_:=p.at_+1,all:=p.all++[(H.ss (p.at_-p.k-1)).feed.told p.who],rep:={ p.rep with lost:=p.rep.lost || (H.ss (p.at_-p.k-1)).feed.lost p.who } },H.drain p.who (p.at_-p.k-1))
 else ({ p with at_:=p.at_+1,rep:={ p.rep with evs:=mergeE p.all } },H.unlock p.who (p.at_-2*p.k-1))
def HP.stpW (p : HP) (m : Mine) (H : Hall) (n : Int) : HP × Mine × Hall :=
  if p.at_ = 0 then ({ p with at_ := 1 }, m, H.lock p.who p.s)
  else if p.at_ = 1 then ({ p with at_ := 2, t := H.t, placed := n }, m, H.look p.who)
  else if p.at_ = 2 then
    (if p.t.closed then ({ p with at_ := 3, rep := { p.rep with err := 5 } }, m, H)
     else if p.x.kind = 6 ∧ mhas m p.x.user = false ∧ H.c.watches ≤ m.length then ({ p with at_ := 3, rep := { p.rep with err := 4 } }, m, H)
     else ({ p with at_ := 3 }, miset m p.x.user (decide (p.x.kind = 6)), H.watch p.who p.s p.x.user (decide (p.x.kind = 6))))
  else ({ p with at_ := p.at_ + 1 }, m, H.unlock p.who p.s)
def HP.stp (p:HP)(m:Mine)(H:Hall)(n:Int):HP × Mine × Hall :=
 if badB p.x then ({ p with at_:=1,placed:=n,rep:={ p.rep with err:=1 } },m,H)
 else if p.x.kind=9 then ({ p with at_:=1,placed:=n,rep:=if H.t.closed then { p.rep with err:=5 } else p.rep },m,H.shut p.who)
 else if p.x.kind=8 then ((p.stpP H n).1,m,(p.stpP H n).2)
 else p.stpW m H n
def HP.step (p:HP)(m:Mine)(H:Hall)(n:Int):HP × Mine × Hall:=if p.enabled H=true then p.stp m H n else (p,m,H)
structure HPG (n:Nat)(p:HP):Prop where
 k:p.k=n
 s:p.s<n
 w:-1≤p.who∧p.who≤900
 o:OpW p.x
 a:p.at_≤p.steps
theorem HP.lt_of_en {p:HP}{H:Hall}(h:p.enabled H=true):p.at_<p.steps:=by
 simp[HP.enabled,HP.done] at h; omega
theorem HP.kind_of {p:HP}(h1:badB p.x=false)(h2:p.x.kind≠9)(h3:p.x.kind≠8):p.one=false∧p.steps=4:=by
 have:p.one=false:=by simp[HP.one,h1,h2]
 exact⟨this,by simp[HP.steps,this,h3]⟩
theorem HP.poll_of {p:HP}(h1:badB p.x=false)(h3:p.x.kind=8):p.one=false∧p.steps=3*p.k+1:=by
 have:p.one=false:=by simp[HP.one,h1,h3]
 exact⟨this,by simp[HP.steps,this,h3]⟩
theorem HS.hstep {m:Nat}{H:Hall}(x:HS m H){p:HP}(g:HPG H.n p)(M:Mine)(n:Int):HS (m+1) (p.step M H n).2.2:=by
 unfold HP.step
 split
 ·rename_i he
  have hl:=HP.lt_of_en he
  unfold HP.stp
  split
  ·exact x.mono (by omega)
  rename_i hb
  have hb:badB p.x=false:=by simpa using hb
  split
  ·exact x.shut _
  rename_i h9
  split
  ·rename_i h8
   obtain⟨_,hst⟩:=HP.poll_of hb h8
   have hk:=g.k
   unfold HP.stpP
   split
   ·exact x.lock (by omega) g.w.2
   split
   ·exact x.look _
   split
   ·exact x.drain (by omega)
   ·exact x.unlock (by omega)
  ·rename_i h8
   unfold HP.stpW
   split
   ·exact x.lock g.s g.w.2
   split
   ·exact x.look _
   split
   ·split
    ·exact x.mono (by omega)
    split
    ·exact x.mono (by omega)
    ·exact x.watch g.s g.o.s1 _
   ·exact x.unlock g.s
 ·exact x.mono (by omega)
theorem hstep_n (p:HP)(M:Mine)(H:Hall)(n:Int):(p.step M H n).2.2.n=H.n∧(p.step M H n).2.2.c=H.c:=by
 have hl:=fun w s=>lock_n H w s
 have hu:=fun w s=>unlock_n H w s
 unfold HP.step
 split
 ·unfold HP.stp
  split
  ·exact⟨rfl,rfl⟩
  split
  ·exact⟨rfl,rfl⟩
  split
  ·unfold HP.stpP
   split
   ·exact⟨(hl _ _).1,(hl _ _).2.1⟩
   split
   ·exact⟨rfl,rfl⟩
   split
   ·exact⟨rfl,rfl⟩
   ·exact⟨(hu _ _).1,(hu _ _).2.1⟩
  ·unfold HP.stpW
   split
   ·exact⟨(hl _ _).1,(hl _ _).2.1⟩
   split
   ·exact⟨rfl,rfl⟩
   split
   ·split
    ·exact⟨rfl,rfl⟩
    split<;>exact⟨rfl,rfl⟩
   ·exact⟨(hu _ _).1,(hu _ _).2.1⟩
 ·exact⟨rfl,rfl⟩
theorem hstep_k (p:HP)(M:Mine)(H:Hall)(n:Int):(p.step M H n).1.who=p.who∧(p.step M H n).1.x=p.x∧(p.step M H n).1.k=p.k∧(p.step M H n).1.s=p.s:=by
 unfold HP.step
 split
 ·unfold HP.stp
  split
  ·exact⟨rfl,rfl,rfl,rfl⟩
  split
  ·exact⟨rfl,rfl,rfl,rfl⟩
  split
  ·unfold HP.stpP
   split
   ·exact⟨rfl,rfl,rfl,rfl⟩
   split
   ·exact⟨rfl,rfl,rfl,rfl⟩
   split<;>exact⟨rfl,rfl,rfl,rfl⟩
  ·unfold HP.stpW
   split
   ·exact⟨rfl,rfl,rfl,rfl⟩
   split
   ·exact⟨rfl,rfl,rfl,rfl⟩
   split
   ·split
    ·exact⟨rfl,rfl,rfl,rfl⟩
    split<;>exact⟨rfl,rfl,rfl,rfl⟩
   ·exact⟨rfl,rfl,rfl,rfl⟩
 ·exact⟨rfl,rfl,rfl,rfl⟩
theorem hstep_at (p:HP)(M:Mine)(H:Hall)(n:Int):(p.step M H n).1.at_=if p.enabled H=true then p.at_+1 else p.at_:=by
 unfold HP.step
 split
 ·rename_i he
  have hl:=HP.lt_of_en he
  unfold HP.stp
  split
  ·rename_i hb
   have:p.steps=1:=by simp[HP.steps,HP.one,hb]
   show 1=_; omega
  rename_i hb
  split
  ·rename_i h9
   have:p.steps=1:=by simp[HP.steps,HP.one,h9]
   show 1=_; omega
  split
  ·unfold HP.stpP
   split
   ·rfl
   split
   ·rfl
   split<;>rfl
  ·unfold HP.stpW
   split
   ·rename_i h; show 1=_; omega
   split
   ·rename_i h; show 2=_; omega
   split
   ·rename_i h
    split
    ·show 3=_; omega
    split
    ·show 3=_; omega
    ·show 3=_; omega
   ·rfl
 ·rfl
theorem HPG.step {p:HP}{n0:Nat}{H:Hall}(g:HPG n0 p)(M:Mine)(n:Int):HPG n0 (p.step M H n).1:=by
 obtain⟨k1,k2,k3,k4⟩:=hstep_k p M H n
 have ha:=hstep_at p M H n
 have hs:(p.step M H n).1.steps=p.steps:=by unfold HP.steps HP.one; rw[k2,k3]
 refine⟨by rw[k3]; exact g.k,by rw[k4]; exact g.s,by rw[k1]; exact g.w,by rw[k2]; exact g.o,?_⟩
 rw[ha,hs]
 split
 ·rename_i he; have:=HP.lt_of_en he; omega
 ·exact g.a
end Go.Den
namespace Go.Den
open Go
set_option linter.unusedVariables false
set_option linter.unusedSimpArgs false
def WK.bf (k:WK)(c:Cfg)(t:Tm)(x:Book × Feed):Book × Feed:=match k with
 | .bad=>x
 | .op o=>if t.closed then x else ((writeB x.1 o t.now c.sessions).1,x.2.tell (writeB x.1 o t.now c.sessions).2.1 t.seq)
 | .sweep=>((sweepB x.1 t.now).1,x.2.tell (sweepB x.1 t.now).2 t.seq)
def bfH (H:Hall)(s:Nat):Book × Feed:=((H.ss s).book,(H.ss s).feed)
theorem run_bf (k:WK)(H:Hall)(who:Int)(s:Nat)(t:Tm)(s':Nat):bfH (k.run H who s t).1 s'=if s'=s then k.bf H.c t (bfH H s) else bfH H s':=by
 by_cases h:s'=s
 ·subst h
  cases k with
  | bad=>simp[WK.run,WK.bf]
  | op o=>simp only[WK.run,Hall.write,WK.bf,if_true]; split<;>simp[bfH,Hall.put,sput,Hall.wr,Hall.did]
  | sweep=>simp[WK.run,Hall.sweep,WK.bf,bfH,Hall.put,sput,Hall.wr,Hall.did]
 ·cases k with
  | bad=>simp[WK.run,h]
  | op o=>simp only[WK.run,Hall.write]; split<;>simp[bfH,Hall.put,sput,Hall.wr,Hall.did,h]
  | sweep=>simp[WK.run,Hall.sweep,bfH,Hall.put,sput,Hall.wr,Hall.did,h]
theorem run_ss (k:WK)(H:Hall)(who:Int)(s:Nat)(t:Tm)(s':Nat):((k.run H who s t).1.ss s').who=(H.ss s').who∧((k.run H who s t).1.ss s').v=(H.ss s').v∧((k.run H who s t).1.ss s').bound=(H.ss s').bound∧((k.run H who s t).1.ss s').snap=(H.ss s').snap∧(k.run H who s t).1.t=H.t:=by
 have key:∀ (y:Strp) (H':Hall),H'.ss=H.ss→H'.t=H.t→y.who=(H.ss s).who→y.v=(H.ss s).v→y.bound=(H.ss s).bound→y.snap=(H.ss s).snap→((H'.put s y).ss s').who=(H.ss s').who∧((H'.put s y).ss s').v=(H.ss s').v∧((H'.put s y).ss s').bound=(H.ss s').bound∧((H'.put s y).ss s').snap=(H.ss s').snap∧(H'.put s y).t=H.t:=by
  intro y H' e1 e2 h1 h2 h3 h4
  simp only[Hall.put,sput,e1,e2]
  by_cases h:s'=s
  ·subst h; simp[h1,h2,h3,h4]
  ·simp[h]
 cases k with
 | bad=>exact⟨rfl,rfl,rfl,rfl,rfl⟩
 | op o =>
  simp only[WK.run,Hall.write]
  split
  ·exact⟨rfl,rfl,rfl,rfl,rfl⟩
  ·exact key _ _ rfl rfl rfl rfl rfl rfl
 | sweep=>exact key _ _ rfl rfl rfl rfl rfl rfl
inductive PR where
 | w (p:WP)
 | r (p:RP)
 | h (p:HP)
def PR.done:PR→Bool
 | .w p=>p.done
 | .r p=>decide (p.ph=8)
 | .h p=>p.done
def PR.enabled:PR→Hall→Bool
 | .w p,H=>p.enabled H
 | .r p,H=>p.enabled H
 | .h p,H=>p.enabled H
def PR.step:PR→Mine→Hall→Int→PR × Mine × Hall
 | .w p,m,H,n=>(.w (p.step H n).1,m,(p.step H n).2)
 | .r p,m,H,n=>(.r (p.step H n).1,m,(p.step H n).2)
 | .h p,m,H,n=>(.h (p.step m H n).1,(p.step m H n).2.1,(p.step m H n).2.2)
def WP.holds (p:WP)(s:Nat):Prop:=p.k.isBad=false∧1≤p.at_∧p.at_≤6∧s=p.s
def RP.holds (p:RP)(s:Nat):Prop:=(p.ph=4∧s∈p.ss.take p.at_)∨((p.ph=5∨p.ph=6)∧s∈p.ss)∨(p.ph=7∧s∈p.ss.drop p.at_)
def HP.holds (p:HP)(s:Nat):Prop:=p.one=false∧if p.x.kind=8 then s<p.at_∧s<p.k∧p.at_≤2*p.k+1+s else 1≤p.at_∧p.at_≤3∧s=p.s
def PR.holds:PR→Nat→Prop
 | .w p=>p.holds
 | .r p=>p.holds
 | .h p=>p.holds
def WP.pend (p:WP)(c:Cfg)(s:Nat)(x:Book × Feed):Book × Feed:=if p.at_=3∧s=p.s then p.k.bf c p.t x else x
def HP.wres (p:HP)(m:Mine)(c:Cfg):Int:=if p.t.closed then 5 else if p.x.kind=6∧mhas m p.x.user=false∧c.watches≤m.length then 4 else 0
def HP.wfd (p:HP)(f:Feed):Feed:=if decide (p.x.kind=6) then f.watch p.who p.x.user else f.unwatch p.who p.x.user
def HP.pend (p:HP)(m:Mine)(c:Cfg)(s:Nat)(x:Book × Feed):Book × Feed :=
 if p.one then x else if p.x.kind=8 then (if p.k<p.at_∧p.at_≤p.k+1+s then (x.1,x.2.drain p.who) else x)
 else if p.at_=2∧s=p.s∧p.wres m c=0 then (x.1,p.wfd x.2) else x
def PR.pend:PR→Mine→Cfg→Nat→Book × Feed→Book × Feed
 | .w p,_,c,s,x=>p.pend c s x
 | .r _,_,_,_,x=>x
 | .h p,m,c,s,x=>p.pend m c s x
def HP.em (p:HP)(m:Mine)(c:Cfg):Mine:=if p.one=false∧p.x.kind≠8∧p.at_=2∧p.wres m c=0 then miset m p.x.user (decide (p.x.kind=6)) else m
def PR.em:PR→Mine→Cfg→Mine
 | .w _,m,_=>m
 | .r _,m,_=>m
 | .h p,m,c=>p.em m c
def WP.places (p:WP):Bool:=p.k.isBad || decide (p.at_=2)
def HP.places (p:HP):Bool:=p.one || if p.x.kind=8 then decide (p.at_=p.k) else decide (p.at_=1)
def PR.places:PR→Bool
 | .w p=>p.places
 | .r _=>false
 | .h p=>p.places
def WK.bef (k:WK)(s:Nat)(M:Tbl):Tbl × Reply:=match k with
 | .bad=>(M,repE 1)
 | .op x=>M.write x
 | .sweep=>(M.sweep s,rep0)
def PR.bef:PR→Tbl→Tbl × Reply
 | .w p,M=>p.k.bef p.s M
 | .r _,M=>(M,rep0)
 | .h p,M=>M.do_ p.who p.x
structure Wd where
 H:Hall
 ps:Nat→Option PR
 ms:Nat→Mine
def Wd.pend (W:Wd)(s:Nat):Book × Feed :=
 if (W.H.ss s).who=0 then bfH W.H s else match W.ps ((W.H.ss s).who-1).toNat with
  | some p=>p.pend (W.ms ((W.H.ss s).who-1).toNat) W.H.c s (bfH W.H s)
  | none=>bfH W.H s
def Wd.em (W:Wd)(i:Nat):Mine:=match W.ps i with
 | some p=>p.em (W.ms i) W.H.c
 | none=>W.ms i
def Wd.step (W:Wd)(i:Nat)(n:Int):Wd:=match W.ps i with
 | some p=>⟨(p.step (W.ms i) W.H n).2.2,bset W.ps i (some (p.step (W.ms i) W.H n).1),bset W.ms i (p.step (W.ms i) W.H n).2.1⟩
 | none=>W
end Go.Den
namespace Go.Den
open Go
set_option linter.unusedVariables false
set_option linter.unusedSimpArgs false
structure Free (x:Strp)(y:Book × Feed):Prop where
 wh:x.who=0
 e:y=(x.book,x.feed)
 v:wrt x.v=false
 q:x.snap=x.book
def PR.mid:PR→Nat→Prop
 | .w p,s=>p.k.isBad=false∧2≤p.at_∧p.at_≤5∧s=p.s
 | .r _,_=>False
 | .h _,_=>False
def PR.at5:PR→Prop
 | .w p=>p.at_=5
 | .r _=>False
 | .h _=>False
structure Held (p:PR)(m:Mine)(c:Cfg)(s:Nat)(x:Strp)(y:Book × Feed):Prop where
 e:y=p.pend m c s (x.book,x.feed)
 v:p.mid s→wrt x.v=true∨x.bound≤x.v
 q:¬ p.mid s→wrt x.v=false∧x.snap=x.book
 f:p.at5→x.snap=x.book
def Tbl.st (M:Tbl)(s:Nat):Book × Feed:=(M.bk s,M.fd s)
structure Loc (i:Nat)(p p':PR)(m m':Mine)(H H':Hall)(M M':Tbl)(s:Nat):Prop where
 a:p.holds s→(H.ss s).who=i+1→Held p m H.c s (H.ss s) (M.st s)→(p'.holds s∧(H'.ss s).who=i+1∧Held p' m' H.c s (H'.ss s) (M'.st s))∨(¬ p'.holds s∧Free (H'.ss s) (M'.st s))
 b:¬ p.holds s→(H'.ss s=H.ss s∧M'.st s=M.st s∧¬ p'.holds s) ∨
  ((H.ss s).who=0∧M'.st s=M.st s∧p'.holds s∧H'.ss s={ H.ss s with who:=i+1 }∧¬ p'.mid s∧¬ p'.at5∧∀ x,p'.pend m' H.c s x=x)
theorem Loc.same {i:Nat}{p p':PR}{m m':Mine}{H H':Hall}{M M':Tbl}{s:Nat}(h1:H'.ss s=H.ss s)(h2:M'.st s=M.st s)(h3:p'.holds s↔p.holds s)(h4:p'.mid s↔p.mid s)(h5:p'.at5→p.holds s→(H.ss s).snap=(H.ss s).book)
  (h6:p.holds s→∀ x,p'.pend m' H.c s x=p.pend m H.c s x):Loc i p p' m m' H H' M M' s:=by
 refine⟨fun a b c=>.inl ⟨h3.2 a,by rw[h1]; exact b,?_⟩,fun a=>.inl ⟨h1,h2,fun h=>a (h3.1 h)⟩⟩
 rw[h1,h2]
 exact⟨by rw[h6 a]; exact c.e,fun h=>c.v (h4.1 h),fun h=>c.q fun hh=>h (h4.2 hh),fun h=>h5 h a⟩
theorem lock_ss {H:Hall}{w:Int}{s:Nat}(hw:0≤w)(h:(H.ss s).who=0)(s':Nat):(H.lock w s).ss s'=if s'=s then { H.ss s with who:=w+1 } else H.ss s':=by
 have hc:canTake (H.ss s).who w=true:=by simp[canTake,hw,h]
 simp only[Hall.lock,hc,if_true,Hall.put,sput]; rfl
theorem unlock_ss {H:Hall}{w:Int}{s:Nat}(hw:0≤w)(h:(H.ss s).who=w+1)(s':Nat):(H.unlock w s).ss s'=if s'=s then { H.ss s with who:=0 } else H.ss s':=by
 have hc:canGive (H.ss s).who w=true:=by simp[canGive,h]; omega
 simp only[Hall.unlock,hc,if_true,Hall.put,sput]; rfl
theorem lock_t (H:Hall)(w:Int)(s:Nat):(H.lock w s).t=H.t:=by unfold Hall.lock; split<;>rfl
theorem unlock_t (H:Hall)(w:Int)(s:Nat):(H.unlock w s).t=H.t:=by unfold Hall.unlock; split<;>rfl
structure WA (i:Nat)(p:WP)(c:Cfg):Prop where
 w:p.who=i
 a:p.at_≤7
 s:∀ x,p.k = .op x→p.s=(stripeOf x.user c.stripes).toNat
theorem bef_st {k:WK}{s:Nat}{M:Tbl}(hk:k.isBad=false)(hs:∀ x,k = .op x→s=M.stripe x.user)(hn:s<M.n)(s':Nat):(k.bef s M).1.st s'=if s'=s then k.bf M.c M.take.t (M.st s) else M.st s':=by
 cases k with
 | bad=>simp[WK.isBad] at hk
 | op x =>
  have e:=hs x rfl
  have hc:M.take.t.closed=M.t.closed:=rfl
  simp only[WK.bef,Tbl.write,WK.bf,hc]
  rw[← e]
  by_cases h:s'=s
  ·subst h
   split<;>simp[Tbl.st,Tbl.take,Tbl.writeAt,bset]
  ·split<;>simp[Tbl.st,Tbl.take,Tbl.writeAt,bset,h]
 | sweep =>
  have hc:(0:Int)≤s∧(s:Int)<M.n:=by omega
  simp only[WK.bef,Tbl.sweep,hc,and_self,if_true,Int.toNat_natCast,WK.bf]
  by_cases h:s'=s
  ·subst h; simp[Tbl.st,Tbl.take,Tbl.sweepAt,bset]
  ·simp[Tbl.st,Tbl.take,Tbl.sweepAt,bset,h]
theorem bef_t {k:WK}{s:Nat}{M:Tbl}(hk:k.isBad=false)(hn:s<M.n):(k.bef s M).1.t=M.take.t∧(k.bef s M).1.c=M.c∧(k.bef s M).1.n=M.n:=by
 cases k with
 | bad=>simp[WK.isBad] at hk
 | op x=>simp only[WK.bef,Tbl.write]; split<;>exact⟨rfl,rfl,rfl⟩
 | sweep =>
  have hc:(0:Int)≤s∧(s:Int)<M.n:=by omega
  simp only[WK.bef,Tbl.sweep,hc,and_self,if_true]; exact⟨rfl,rfl,rfl⟩
def PR.tb (p:PR)(H:Hall)(M:Tbl):Tbl:=if p.enabled H=true∧p.places=true then (p.bef M).1 else M
theorem WP.not_holds {p:WP}{s:Nat}(h:s≠p.s):¬ p.holds s:=fun hh=>h hh.2.2.2
theorem wloc {i:Nat}{p:WP}{m k:Nat}{ms:Mine}{H:Hall}{M:Tbl}(hs:HS k H)(g:WG H.n p)(a:WA i p H.c)(ht:M.t=H.t)(hc:M.c=H.c)(hn:M.n=H.n)(n:Int){s:Nat}(hs8:s<H.n)(he:p.enabled H=true) :
  Loc i (.w p) ((PR.w p).step ms H n).1 ms ms H ((PR.w p).step ms H n).2.2 M ((PR.w p).tb H M) s:=by
 have hl:=enabled_at he
 have hw:=a.w
 by_cases hb:p.k.isBad=true
 ·have e1:p.step H n=({ p with err:=1,placed:=n,at_:=7 },H):=by simp[WP.step,he,hb]
  have e2:(PR.w p).tb H M=M:=by
   have:p.k = .bad:=by cases hk:p.k<;>simp[hk,WK.isBad] at hb ⊢
   simp[PR.tb,PR.bef,this,WK.bef]
  have e3:(PR.w p).step ms H n=(.w { p with err:=1,placed:=n,at_:=7 },ms,H):=by simp[PR.step,e1]
  rw[e2,e3]
  exact Loc.same rfl rfl ⟨fun h=>by have:=h.1; simp[hb] at this,fun h=>by have:=h.1; simp[hb] at this⟩ ⟨fun h=>by have:=h.1; simp[hb] at this,fun h=>by have:=h.1; simp[hb] at this⟩ (fun h=>by simp[PR.at5] at h) (fun h=>by have:=h.1; simp[hb] at this)
 have hb:p.k.isBad=false:=by simpa using hb
 have e1:p.step H n=p.stp H n:=by simp[WP.step,he,hb]
 have e3:(PR.w p).step ms H n=(.w (p.stp H n).1,ms,(p.stp H n).2):=by simp[PR.step,e1]
 have e2:p.at_≠2→(PR.w p).tb H M=M:=fun h=>by simp[PR.tb,PR.places,WP.places,hb,h]
 rw[e3]
 have st:=hs.st p.s g.s
 by_cases h0:p.at_=0
 ·rw[e2 (by omega),stp0 H n h0]
  have hwh:(H.ss p.s).who=0:=by
   simp[WP.enabled,WP.waits,hb,h0] at he
   rcases he.2 with h | h
   ·omega
   ·exact h
  have hls:=lock_ss (H:=H) (w:=p.who) (s:=p.s) (by omega) hwh s
  by_cases hss:s=p.s
  ·subst hss
   rw[if_pos rfl] at hls
   refine⟨fun h=>?_,fun h=>.inr ⟨hwh,rfl,⟨hb,by simp,by simp,rfl⟩,by rw[hls,hw],fun h=>by have:=h.2.1; simp at this,fun h=>by simp[PR.at5] at h,fun x=>by simp[PR.pend,WP.pend]⟩⟩
   have:=h.2.1; omega
  ·rw[if_neg hss] at hls
   exact Loc.same hls rfl ⟨fun h=>absurd h (WP.not_holds hss),fun h=>absurd h (WP.not_holds hss)⟩ ⟨fun h=>absurd h.2.2.2 hss,fun h=>absurd h.2.2.2 hss⟩ (fun h=>by simp[PR.at5] at h) (fun h=>absurd h (WP.not_holds hss))
 by_cases hss:s=p.s
 rotate_left
 ·-- another stripe
  have nh:¬ (PR.w p).holds s:=WP.not_holds hss
  obtain⟨k1,k2,k3⟩:=stp_k p H n
  have nh':¬ (PR.w (p.stp H n).1).holds s:=WP.not_holds (by rw[k3]; exact hss)
  refine⟨fun h=>absurd h nh,fun _=>.inl ⟨?_,?_,nh'⟩⟩
  ·by_cases h1:p.at_=1
   ·rw[stp1 H n h1]; simp[Hall.begin,Hall.put,sput,hss,Hall.did]
   by_cases h2:p.at_=2
   ·rw[stp2 H n h2]; rfl
   by_cases h3:p.at_=3
   ·rw[stp3 H n h3]
    have:∀ (k:WK),(k.run H p.who p.s p.t).1.ss s=H.ss s:=fun k=>by
     cases k with
     | bad=>rfl
     | op o=>simp only[WK.run,Hall.write]; split<;>simp[Hall.put,sput,Hall.wr,Hall.did,hss]
     | sweep=>simp[WK.run,Hall.sweep,Hall.put,sput,Hall.wr,Hall.did,hss]
    exact this p.k
   by_cases h4:p.at_=4
   ·rw[stp4 H n h4]; simp[Hall.pub,Hall.put,sput,hss,Hall.did]
   by_cases h5:p.at_=5
   ·rw[stp5 H n h5]; simp[Hall.end_,Hall.put,sput,hss,Hall.did]
   ·rw[stp6 H n (by omega)]
    simp only[Hall.unlock]
    split
    ·simp[Hall.put,sput,hss,Hall.did]
    ·rfl
  ·by_cases h2:p.at_=2
   ·have e4:(PR.w p).tb H M=(p.k.bef p.s M).1:=by simp[PR.tb,PR.places,WP.places,PR.enabled,he,h2,PR.bef]
    rw[e4,bef_st hb (fun x hx=>by rw[a.s x hx,← hc]; rfl) (by rw[hn]; exact g.s),if_neg hss]
   ·rw[e2 h2]
 subst hss
 have ho:(PR.w p).holds p.s:=⟨hb,by omega,by omega,rfl⟩
 refine⟨fun _ hwho hd=>?_,fun h=>absurd ho h⟩
 by_cases h1:p.at_=1
 ·rw[e2 (by omega),stp1 H n h1]
  have hq:=hd.q fun h=>by have:=h.2.1; omega
  have hss:(H.begin p.who p.s).ss p.s={ H.ss p.s with v:=bgn (H.ss p.s).v (H.ss p.s).bound }:=by simp[Hall.begin,Hall.put,sput,Hall.did]
  refine .inl ⟨⟨hb,by simp,by simp,rfl⟩,by rw[hss]; exact hwho,?_⟩
  rw[hss]
  refine⟨?_,fun _=>?_,fun h=>absurd ⟨hb,by simp,by simp,rfl⟩ h,fun h=>by simp[PR.at5] at h⟩
  ·have:=hd.e; simpa [PR.pend,WP.pend,h1] using this
  ·have hv:=hq.1
   dsimp only
   unfold bgn
   by_cases hlt:(H.ss p.s).v<(H.ss p.s).bound
   ·left; rw[if_pos ⟨hlt,hv⟩]; simp[wrt] at hv ⊢; omega
   ·right; rw[if_neg (fun h=>hlt h.1)]; omega
 by_cases h2:p.at_=2
 ·have e4:(PR.w p).tb H M=(p.k.bef p.s M).1:=by simp[PR.tb,PR.places,WP.places,PR.enabled,he,h2,PR.bef]
  rw[e4,stp2 H n h2,bef_st hb (fun x hx=>by rw[a.s x hx,← hc]; rfl) (by rw[hn]; exact g.s),if_pos rfl]
  refine .inl ⟨⟨hb,by simp,by simp,rfl⟩,hwho,?_,fun _=>hd.v ⟨hb,by omega,by omega,rfl⟩,fun h=>absurd ⟨hb,by simp,by simp,rfl⟩ h,fun h=>by simp[PR.at5] at h⟩
  have he':=hd.e
  simp only[PR.pend,WP.pend,h2] at he'
  have he':M.st p.s=((H.ss p.s).book,(H.ss p.s).feed):=by simpa using he'
  rw[he',hc]
  have htt:M.take.t=(H.take p.who).t:=by simp[Tbl.take,Hall.take,Hall.did,ht]
  rw[htt]
  simp[PR.pend,WP.pend]; rfl
 rw[e2 h2]
 have hmid:2≤p.at_→p.at_≤5→(PR.w p).mid p.s:=fun h h'=>⟨hb,h,h',rfl⟩
 by_cases h3:p.at_=3
 ·rw[stp3 H n h3]
  obtain⟨r1,r2,r3,r4,r5⟩:=run_ss p.k H p.who p.s p.t p.s
  have hbf:=run_bf p.k H p.who p.s p.t p.s
  rw[if_pos rfl] at hbf
  refine .inl ⟨⟨hb,by simp,by simp,rfl⟩,by rw[r1]; exact hwho,?_,fun _=>by dsimp only; rw[r2,r3]; exact hd.v (hmid (by omega) (by omega)),fun h=>absurd ⟨hb,by simp,by simp,rfl⟩ h,fun h=>by simp[PR.at5] at h⟩
  have he':=hd.e
  simp only[PR.pend,WP.pend,h3] at he'
  simp only[bfH] at hbf
  simp[PR.pend,WP.pend,he',hbf]
 by_cases h4:p.at_=4
 ·rw[stp4 H n h4]
  have hss:(H.pub p.who p.s).ss p.s={ H.ss p.s with snap:=(H.ss p.s).book }:=by simp[Hall.pub,Hall.put,sput,Hall.did]
  refine .inl ⟨⟨hb,by simp,by simp,rfl⟩,by rw[hss]; exact hwho,?_⟩
  rw[hss]
  refine⟨?_,fun _=>hd.v (hmid (by omega) (by omega)),fun h=>absurd ⟨hb,by simp,by simp,rfl⟩ h,fun _=>rfl⟩
  have:=hd.e; simpa [PR.pend,WP.pend,h4] using this
 by_cases h5:p.at_=5
 ·rw[stp5 H n h5]
  have hss:(H.end_ p.who p.s).ss p.s={ H.ss p.s with v:=endV (H.ss p.s).v }:=by simp[Hall.end_,Hall.put,sput,Hall.did]
  refine .inl ⟨⟨hb,by simp,by simp,rfl⟩,by rw[hss]; exact hwho,?_⟩
  rw[hss]
  refine⟨?_,fun h=>by have:=h.2.2.1; simp at this,fun _=>⟨?_,hd.f h5⟩,fun h=>by simp[PR.at5] at h⟩
  ·have:=hd.e; simpa [PR.pend,WP.pend,h5] using this
  ·have hv:=hd.v (hmid (by omega) (by omega))
   have h1:=st.v0; have h2:=st.vb
   simp only[endV,wrt] at hv ⊢
   simp at hv ⊢
   split<;>omega
 ·have h6:p.at_=6:=by omega
  rw[stp6 H n (by omega)]
  have hls:=unlock_ss (H:=H) (w:=p.who) (s:=p.s) (by omega) (by rw[hw]; exact hwho) p.s
  rw[if_pos rfl] at hls
  have hq:=hd.q fun h=>by have:=h.2.2.1; omega
  refine .inr ⟨fun h=>by have:=h.2.2.1; simp at this,?_⟩
  rw[hls]
  refine⟨rfl,?_,hq.1,hq.2⟩
  have:=hd.e; simpa [PR.pend,WP.pend,h6] using this
end Go.Den
namespace Go.Den
open Go
set_option linter.unusedVariables false
set_option linter.unusedSimpArgs false
structure RA (i:Nat)(p:RP):Prop where
 w:p.who=i
 nd:p.ss.Nodup
theorem RP.next_cases (p:RP)(ph:Int):(p.at_+1<p.k∧p.next ph={ p with at_:=p.at_+1 })∨(p.k≤p.at_+1∧p.next ph={ p with ph:=ph,at_:=0 }):=by
 by_cases h:p.at_+1<p.k
 ·exact .inl ⟨h,by simp[RP.next,h]⟩
 ·exact .inr ⟨by omega,by simp[RP.next,h]⟩
theorem answer_ss (r:RP):r.answer.ss=r.ss:=by unfold RP.answer; split<;>rfl
theorem RP.nh {p:RP}{s:Nat}(h:p.ph≠4)(h5:p.ph≠5)(h6:p.ph≠6)(h7:p.ph≠7):¬ p.holds s:=by
 rintro (h | h | h)
 ·exact absurd h.1 (by omega)
 ·rcases h.1 with h | h<;>omega
 ·exact absurd h.1 (by omega)
theorem take_succ_mem {l:List Nat}{i:Nat}(hi:i<l.length)(s:Nat):s∈l.take (i+1)↔s∈l.take i∨s=l[i]:=by
 rw[List.take_succ_eq_append_getElem hi,List.mem_append,List.mem_singleton]
theorem drop_mem {l:List Nat}{i:Nat}(hi:i<l.length)(s:Nat):s∈l.drop i↔s=l[i]∨s∈l.drop (i+1):=by
 rw[List.drop_eq_getElem_cons hi,List.mem_cons]
theorem nodup_drop {l:List Nat}(nd:l.Nodup){i:Nat}(hi:i<l.length):l[i] ∉ l.drop (i+1):=by
 intro h
 obtain⟨j,hj,e⟩:=List.getElem_of_mem h
 rw[List.getElem_drop] at e
 have:=(List.getElem_inj nd).1 e
 omega
theorem nodup_take {l:List Nat}(nd:l.Nodup){i:Nat}(hi:i<l.length):l[i] ∉ l.take i:=by
 intro h
 obtain⟨j,hj,e⟩:=List.getElem_of_mem h
 rw[List.getElem_take] at e
 have:=(List.getElem_inj nd).1 e
 simp at hj; omega
theorem rloc {i:Nat}{p:RP}{ms:Mine}{H:Hall}{M:Tbl}(rk:RK H.n p)(a:RA i p)(n:Int){s:Nat}(hs8:s<H.n)(he:p.enabled H=true) :
  Loc i (.r p) ((PR.r p).step ms H n).1 ms ms H ((PR.r p).step ms H n).2.2 M ((PR.r p).tb H M) s:=by
 have hw:=a.w
 have e2:(PR.r p).tb H M=M:=by simp[PR.tb,PR.places]
 have e3:(PR.r p).step ms H n=(.r (p.step H n).1,ms,(p.step H n).2):=rfl
 rw[e2,e3]
 -- nothing is changed,and the locks stay
 have triv:∀ (q:RP) (H':Hall),H'.ss s=H.ss s→(q.holds s↔p.holds s)→Loc i (.r p) (.r q) ms ms H H' M M s:=fun q H' h1 h2 =>
  Loc.same h1 rfl h2 (by rfl) (fun h=>h.elim) (fun _ _=>rfl)
 have h8:p.ph≠8:=fun h=>by simp[RP.enabled,h] at he
 by_cases hz:p.ss=[]
 ·have:p.step H n=({ p with err:=1,vals:=[],placed:=n,ph:=8 },H):=by simp[RP.step,he,hz]
  rw[this]
  refine triv _ _ rfl ⟨fun h=>absurd h (RP.nh (by simp) (by simp) (by simp) (by simp)),fun h=>?_⟩
  rcases rk.e0 hz with h0 | h0
  ·exact absurd h (RP.nh (by omega) (by omega) (by omega) (by omega))
  ·exact absurd h0 h8
 have hat:=rk.at_ h8 hz
 have hss:p.s=p.ss[p.at_]'hat:=RP.s_lt hat
 have e1:p.step H n=p.go H n:=by simp[RP.step,he,hz]
 rw[e1]
 have hph:=rk.ph
 have nhof:p.ph≠4→p.ph≠5→p.ph≠6→p.ph≠7→¬ p.holds s:=fun a b c d=>RP.nh a b c d
 -- nothing is held,nor then
 have nn:∀ (q:RP) (H':Hall),H'.ss s=H.ss s→p.ph≠4→p.ph≠5→p.ph≠6→p.ph≠7→¬ q.holds s→Loc i (.r p) (.r q) ms ms H H' M M s:=fun q H' h a b c d e =>
  triv q H' h ⟨fun hh=>absurd hh e,fun hh=>absurd hh (nhof a b c d)⟩
 unfold RP.go
 by_cases h0:p.ph=0
 ·rw[if_pos h0]
  refine nn _ _ rfl (by omega) (by omega) (by omega) (by omega) ?_
  rcases RP.next_cases { p with ep:=epset p.ep p.at_ (H.ss p.s).v,spent:=p.spent || decide (evn H.c.epochs≤(H.ss p.s).v) } 1 with ⟨_,e⟩ | ⟨_,e⟩<;>rw[e]<;>exact RP.nh (by simp; try omega) (by simp; try omega) (by simp; try omega) (by simp; try omega)
 rw[if_neg h0]
 by_cases h1:p.ph=1
 ·rw[if_pos h1]
  refine nn _ _ rfl (by omega) (by omega) (by omega) (by omega) ?_
  rcases RP.next_cases { p with seen:=seenset p.seen p.s (H.ss p.s).snap } 2 with ⟨_,e⟩ | ⟨_,e⟩<;>rw[e]<;>exact RP.nh (by simp; try omega) (by simp; try omega) (by simp; try omega) (by simp; try omega)
 rw[if_neg h1]
 by_cases h2:p.ph=2
 ·rw[if_pos h2]
  exact nn _ _ rfl (by omega) (by omega) (by omega) (by omega) (RP.nh (by simp) (by simp) (by simp) (by simp))
 rw[if_neg h2]
 by_cases h5:p.ph=5
 ·rw[if_pos h5]
  refine triv _ _ rfl ⟨fun h=>?_,fun h=>?_⟩
  ·rcases h with h | h | h
   ·have:=h.1; simp at this
   ·exact .inr (.inl ⟨.inl h5,h.2⟩)
   ·have:=h.1; simp at this
  ·rcases h with h | h | h
   ·have:=h.1; omega
   ·exact .inr (.inl ⟨.inr rfl,h.2⟩)
   ·have:=h.1; omega
 rw[if_neg h5]
 by_cases h3:p.ph=3
 ·rw[if_pos h3]
  refine nn _ _ rfl (by omega) (by omega) (by omega) (by omega) ?_
  dsimp only
  split
  ·rename_i hl
   have key:∀ q:RP,q.ss=p.ss→q.at_=0→¬ q.judge.holds s:=fun q hq hq0=>by
    unfold RP.judge
    split
    ·exact RP.nh (by simp) (by simp) (by simp) (by simp)
    split
    ·rintro (h | h | h)
     ·have h':=h.2; rw[show ({ q with ph:=4 }:RP).at_=q.at_ from rfl,hq0] at h'; simp at h'
     ·have:=h.1; simp at this
     ·have:=h.1; simp at this
    ·exact RP.nh (by simp[RP.begin]) (by simp[RP.begin]) (by simp[RP.begin]) (by simp[RP.begin])
   rcases RP.next_cases { p with valid:=p.valid && validB (p.ep p.at_) (H.ss p.s).v H.c.epochs } 8 with ⟨h,e⟩ | ⟨_,e⟩
   ·simp[RP.last] at hl; have:p.at_+1<p.k:=h; have:p.k≤p.at_+1:=hl; omega
   ·rw[e]; exact key _ rfl rfl
  ·rename_i hl
   rcases RP.next_cases { p with valid:=p.valid && validB (p.ep p.at_) (H.ss p.s).v H.c.epochs } 8 with ⟨h,e⟩ | ⟨_,e⟩<;>rw[e]<;>exact RP.nh (by simp; try omega) (by simp; try omega) (by simp; try omega) (by simp; try omega)
 rw[if_neg h3]
 by_cases h4:p.ph=4
 ·rw[if_pos h4]
  have hwh:(H.ss p.s).who=0:=by simp[RP.enabled,h4] at he; exact he
  have hls:=lock_ss (H:=H) (w:=p.who) (s:=p.s) (by omega) hwh s
  have hold:(p.next 5).holds s↔p.holds s∨s=p.s:=by
   have e0:p.holds s↔s∈p.ss.take p.at_:=by
    constructor
    ·rintro (h | h | h)
     ·exact h.2
     ·have:=h.1; omega
     ·have:=h.1; omega
    ·intro h; exact .inl ⟨h4,h⟩
   rw[e0,hss,← take_succ_mem hat]
   rcases RP.next_cases p 5 with ⟨h,e⟩ | ⟨h,e⟩
   ·rw[e]
    constructor
    ·rintro (h | h | h)
     ·exact h.2
     ·have:=h.1; simp at this; omega
     ·have:=h.1; simp at this; omega
    ·intro h; exact .inl ⟨h4,h⟩
   ·rw[e]
    have:p.ss.take (p.at_+1)=p.ss:=List.take_of_length_le (by unfold RP.k at h; omega)
    rw[this]
    constructor
    ·rintro (h | h | h)
     ·have:=h.1; simp at this
     ·exact h.2
     ·have:=h.1; simp at this
    ·intro h; exact .inr (.inl ⟨.inl rfl,h⟩)
  by_cases hsp:s=p.s
  ·subst hsp
   rw[if_pos rfl] at hls
   have nh:¬ p.holds p.s:=by
    rintro (h | h | h)
    ·have h':=h.2; rw[hss] at h'; exact nodup_take a.nd hat h'
    ·have:=h.1; omega
    ·have:=h.1; omega
   exact⟨fun h=>absurd h nh,fun _=>.inr ⟨hwh,rfl,hold.2 (.inr rfl),by rw[hls,hw],fun h=>h,fun h=>h,fun _=>rfl⟩⟩
  ·rw[if_neg hsp] at hls
   exact triv _ _ hls ⟨fun h=>(hold.1 h).resolve_right hsp,fun h=>hold.2 (.inl h)⟩
 rw[if_neg h4]
 by_cases h6:p.ph=6
 ·rw[if_pos h6]
  have e0:p.holds s↔s∈p.ss:=by
   constructor
   ·rintro (h | h | h)
    ·have:=h.1; omega
    ·exact h.2
    ·have:=h.1; omega
   ·intro h; exact .inr (.inl ⟨.inr h6,h⟩)
  refine triv _ _ rfl ?_
  rw[e0]
  rcases RP.next_cases { p with seen:=seenset p.seen p.s (H.ss p.s).book } 7 with ⟨h,e⟩ | ⟨h,e⟩
  ·rw[e]
   constructor
   ·rintro (h | h | h)
    ·have:=h.1; simp at this; omega
    ·exact h.2
    ·have:=h.1; simp at this; omega
   ·intro h; exact .inr (.inl ⟨.inr h6,h⟩)
  ·rw[e]
   constructor
   ·rintro (h | h | h)
    ·have:=h.1; simp at this
    ·have:=h.1; simp at this
    ·simpa using h.2
   ·intro h; exact .inr (.inr ⟨rfl,by simpa using h⟩)
 rw[if_neg h6]
 have h7:p.ph=7:=by omega
 have e0:p.holds s↔s∈p.ss.drop p.at_:=by
  constructor
  ·rintro (h | h | h)
   ·have:=h.1; omega
   ·have:=h.1; omega
   ·exact h.2
  ·intro h; exact .inr (.inr ⟨h7,h⟩)
 have hold:(if p.last then (p.next 8).answer else p.next 8).holds s↔s∈p.ss.drop (p.at_+1):=by
  rcases RP.next_cases p 8 with ⟨h,e⟩ | ⟨h,e⟩
  ·have hl:p.last=false:=by simp[RP.last,h]
   rw[hl,e]
   constructor
   ·rintro (h | h | h)
    ·have:=h.1; simp at this; omega
    ·have:=h.1; simp at this; omega
    ·exact h.2
   ·intro h; exact .inr (.inr ⟨h7,h⟩)
  ·have hl:p.last=true:=by simp[RP.last]; omega
   rw[hl,e]
   have:p.ss.drop (p.at_+1)=[]:=List.drop_eq_nil_iff.2 (by unfold RP.k at h; omega)
   rw[this]
   simp only[if_true,List.not_mem_nil,iff_false]
   exact RP.nh (by rw[answer_ph]; simp) (by rw[answer_ph]; simp) (by rw[answer_ph]; simp) (by rw[answer_ph]; simp)
 by_cases hsp:s=p.s
 ·subst hsp
  have hm:p.holds p.s:=e0.2 (by rw[hss]; exact (drop_mem hat _).2 (.inl rfl))
  refine⟨fun _ hwho hd=>.inr ⟨fun h=>nodup_drop a.nd hat (by rw[← hss]; exact hold.1 h),?_⟩,fun h=>absurd hm h⟩
  have hls:=unlock_ss (H:=H) (w:=p.who) (s:=p.s) (by omega) (by rw[hw]; exact hwho) p.s
  rw[if_pos rfl] at hls
  rw[hls]
  have hq:=hd.q fun h=>h
  exact⟨rfl,hd.e,hq.1,hq.2⟩
 ·have hls:(H.unlock p.who p.s).ss s=H.ss s:=by
   simp only[Hall.unlock]
   split
   ·simp[Hall.put,sput,hsp,Hall.did]
   ·rfl
  refine triv _ _ hls ?_
  rw[hold,e0,drop_mem hat,← hss]
  simp[hsp]
end Go.Den
namespace Go.Den
open Go
set_option linter.unusedVariables false
set_option linter.unusedSimpArgs false
theorem kind_rng {x:OpD}(h:badB x=false):1≤x.kind∧x.kind≤9:=by
 unfold badB at h
 split at h
 ·omega
 split at h
 ·omega
 split at h
 ·omega
 split at h
 ·omega
 ·simp at h; omega
structure HA (i:Nat)(p:HP)(c:Cfg):Prop where
 w:p.who=i
 i8:i<8
 k6:badB p.x=false→6≤p.x.kind
 s:p.s=(stripeOf p.x.user c.stripes).toNat
theorem HA.cl {i:Nat}{p:HP}{c:Cfg}(a:HA i p c):clientB p.who=true:=by
 have:=a.w; have:=a.i8
 simp[clientB]; omega
structure MA (p:HP)(m:Mine)(M:Tbl):Prop where
 wt:(M.fd (M.stripe p.x.user)).watching p.who p.x.user=mhas m p.x.user
 ct:M.count p.who=m.length
theorem fed_ss (H:Hall)(w:Int)(s:Nat)(f:Feed)(s':Nat):(H.fed w s f).ss s'=if s'=s then { H.ss s with feed:=f } else H.ss s':=by
 simp only[Hall.fed,Hall.put,sput]; rfl
theorem do_watch {i:Nat}{p:HP}{m:Mine}{M:Tbl}{c:Cfg}(a:HA i p c)(hc:M.c=c)(ma:MA p m M)(ht:p.t=M.t)(hb:badB p.x=false)(h9:p.x.kind≠9)(h8:p.x.kind≠8) :
  (M.do_ p.who p.x).1=(if p.wres m c=0 then M.fed p.s (p.wfd (M.fd p.s)) else M)∧(M.do_ p.who p.x).2=repE (p.wres m c):=by
 have hk:=kind_rng hb
 have k6:=a.k6 hb
 have hs:p.s=M.stripe p.x.user:=by rw[a.s,Tbl.stripe,hc]
 have hcl:=a.cl
 unfold Tbl.do_
 rw[if_neg (by simp[hb,hcl]),if_neg (by omega),if_neg h8]
 cases htc:M.t.closed with
 | true =>
  have e:p.wres m c=5:=by simp[HP.wres,ht,htc]
  simp[e]
 | false =>
  simp only[Bool.false_eq_true,if_false]
  by_cases h6:p.x.kind=6
  ·rw[if_pos h6]
   unfold Tbl.watch
   rw[ma.wt,ma.ct,hc]
   by_cases hcc:mhas m p.x.user=false∧c.watches≤(m.length:Int)
   ·have e:p.wres m c=4:=by simp[HP.wres,ht,htc,h6,hcc.1,hcc.2]
    rw[if_pos hcc,e]; simp
   ·have e:p.wres m c=0:=by
     have h2:¬ (p.x.kind=6∧mhas m p.x.user=false∧c.watches≤(m.length:Int)):=fun h=>hcc h.2
     unfold HP.wres; rw[ht,htc,if_neg (by simp),if_neg h2]
    rw[if_neg hcc,e,hs]
    simp[HP.wfd,h6]; rfl
  ·have h7:p.x.kind=7:=by omega
   have e:p.wres m c=0:=by
    have h2:¬ (p.x.kind=6∧mhas m p.x.user=false∧c.watches≤(m.length:Int)):=fun h=>h6 h.1
    unfold HP.wres; rw[ht,htc,if_neg (by simp),if_neg h2]
   rw[if_neg h6,if_pos h7,e,hs]
   simp[HP.wfd,h7]; rfl
theorem drainTo_st (M:Tbl)(who:Int)(s:Nat)(hs:s<M.n):(M.drainTo who M.n).st s=(M.bk s,(M.fd s).drain who):=by simp[Tbl.st,Tbl.drainTo,hs]
theorem hloc {i:Nat}{p:HP}{ms:Mine}{H:Hall}{M:Tbl}(g:HPG H.n p)(a:HA i p H.c)(ht:M.t=H.t)(hc:M.c=H.c)(hn:M.n=H.n)
  (ma:p.one=false→p.x.kind≠8→p.at_=1→MA p ms M) (n:Int) {s:Nat} (hs8:s<H.n) (he:p.enabled H=true) :
  Loc i (.h p) ((PR.h p).step ms H n).1 ms ((PR.h p).step ms H n).2.1 H ((PR.h p).step ms H n).2.2 M ((PR.h p).tb H M) s:=by
 have hl:=HP.lt_of_en he
 have hw:=a.w
 have hcl:=a.cl
 have e3:(PR.h p).step ms H n=(.h (p.stp ms H n).1,(p.stp ms H n).2.1,(p.stp ms H n).2.2):=by simp[PR.step,HP.step,he]
 have etb:p.places=true→(PR.h p).tb H M=(M.do_ p.who p.x).1:=fun h=>by simp[PR.tb,PR.enabled,PR.places,he,h,PR.bef]
 have etn:p.places=false→(PR.h p).tb H M=M:=fun h=>by simp[PR.tb,PR.places,h]
 rw[e3]
 have nm:∀ (q:HP),¬ (PR.h q).mid s:=fun q h=>h
 have n5:∀ (q:HP),¬ (PR.h q).at5:=fun q h=>h
 by_cases hb:badB p.x=true
 ·have ho:p.one=true:=by simp[HP.one,hb]
  have:(M.do_ p.who p.x).1=M:=by simp[Tbl.do_,hb]
  rw[etb (by simp[HP.places,ho]),this]
  simp only[HP.stp,hb,if_true]
  exact Loc.same rfl rfl ⟨fun h=>by have h1:=h.1; simp[HP.one,hb] at h1,fun h=>by have h1:=h.1; simp[HP.one,hb] at h1⟩ ⟨fun h=>h.elim,fun h=>h.elim⟩ (fun h=>h.elim) (fun h=>by have h1:=h.1; simp[HP.one,hb] at h1)
 have hb:badB p.x=false:=by simpa using hb
 by_cases h9:p.x.kind=9
 ·have ho:p.one=true:=by simp[HP.one,h9]
  have:(M.do_ p.who p.x).1.st s=M.st s:=by
   unfold Tbl.do_
   rw[if_neg (by simp[hb,hcl]),if_neg (by omega),if_neg (by omega)]
   split
   ·rfl
   rw[if_neg (by omega),if_neg (by omega)]
   first | rfl | (rw[if_pos h9]; rfl)
  rw[etb (by simp[HP.places,ho])]
  simp only[HP.stp,hb,h9,Bool.false_eq_true,if_false,if_true]
  exact Loc.same rfl this ⟨fun h=>by have h1:=h.1; simp[HP.one,h9] at h1,fun h=>by have h1:=h.1; simp[HP.one,h9] at h1⟩ ⟨fun h=>h.elim,fun h=>h.elim⟩ (fun h=>h.elim) (fun h=>by have h1:=h.1; simp[HP.one,h9] at h1)
 have one:p.one=false:=by simp[HP.one,hb,h9]
 have onq:∀ q:HP,q.x=p.x→q.one=false:=fun q h=>by simp[HP.one,h,hb,h9]
 by_cases h8:p.x.kind=8
 ·-- a Poll
  have hk:=g.k
  have hst:p.steps=3*p.k+1:=(HP.poll_of hb h8).2
  have hh:∀ q:HP,q.x=p.x→(q.holds s↔s<q.at_∧s<q.k∧q.at_≤2*q.k+1+s):=fun q hq=>by
   unfold HP.holds; rw[hq,if_pos h8]; simp[onq q hq]
  have hp:∀ (q:HP) m x,q.x=p.x→q.pend m H.c s x=if q.k<q.at_∧q.at_≤q.k+1+s then (x.1,x.2.drain q.who) else x:=fun q m x hq=>by
   unfold HP.pend; rw[onq q hq,hq,if_neg (by simp),if_pos h8]
  have estp:p.stp ms H n=((p.stpP H n).1,ms,(p.stpP H n).2):=by simp[HP.stp,hb,h8]
  rw[estp]
  dsimp only
  unfold HP.stpP
  by_cases hlk:p.at_<p.k
  ·have hpl:p.places=false:=by simp[HP.places,one,h8]; omega
   rw[etn hpl,if_pos hlk]
   dsimp only
   have hwh:(H.ss p.at_).who=0:=by
    have hnd:p.needs=p.at_:=by simp[HP.needs,one,h8,hlk]
    simp[HP.enabled,hnd] at he
    rcases he.2 with h | h
    ·omega
    ·exact h
   have hls:=lock_ss (H:=H) (w:=p.who) (s:=p.at_) (by omega) hwh s
   by_cases hss:s=p.at_
   ·rw[if_pos hss] at hls
    refine⟨fun h=>?_,fun _=>.inr ⟨by rw[hss]; exact hwh,rfl,(hh _ (by rfl)).2 (by dsimp only; omega),by rw[hls,hw,hss],nm _,n5 _,fun x=>?_⟩⟩
    ·have:=(hh p rfl).1 h; omega
    ·show HP.pend _ _ _ _ _=_
     rw[hp _ _ _ (by rfl),if_neg (by dsimp only; omega)]
   ·rw[if_neg hss] at hls
    refine Loc.same hls rfl ?_ ⟨fun h=>h.elim,fun h=>h.elim⟩ (fun h=>h.elim) fun _ x=>?_
    ·show HP.holds _ _↔HP.holds _ _
     rw[hh _ (by rfl),hh p rfl]; dsimp only; omega
    ·show HP.pend _ _ _ _ _=HP.pend _ _ _ _ _
     rw[hp _ _ _ (by rfl),hp p _ _ rfl,if_neg (by dsimp only; omega),if_neg (by omega)]
  rw[if_neg hlk]
  by_cases hk2:p.at_=p.k
  ·have hpl:p.places=true:=by simp[HP.places,one,h8,hk2]
   have hdo:(M.do_ p.who p.x).1=M.drainTo p.who M.n:=by
    unfold Tbl.do_
    rw[if_neg (by simp[hb,hcl]),if_neg (by omega),if_pos h8]; rfl
   rw[etb hpl,if_pos hk2,hdo]
   dsimp only
   refine⟨fun _ hwho hd=>.inl ⟨(hh _ (by rfl)).2 (by dsimp only; omega),hwho,?_⟩,fun h=>absurd ((hh p rfl).2 (by omega)) h⟩
   rw[drainTo_st _ _ _ (by omega)]
   have he':=hd.e
   simp only[PR.pend] at he'
   rw[hp p _ _ rfl,if_neg (by omega)] at he'
   refine⟨?_,fun h=>h.elim,fun h=>hd.q h,fun h=>h.elim⟩
   show _=HP.pend _ _ _ _ _
   rw[hp _ _ _ (by rfl),if_pos (by dsimp only; omega)]
   simp only[Tbl.st,Prod.mk.injEq] at he'
   rw[he'.1,he'.2]; rfl
  rw[if_neg hk2]
  have hpl:p.places=false:=by simp[HP.places,one,h8]; omega
  rw[etn hpl]
  by_cases hk3:p.at_≤2*p.k
  ·rw[if_pos hk3]
   dsimp only
   have hfs:=fed_ss H p.who (p.at_-p.k-1) ((H.ss (p.at_-p.k-1)).feed.drain p.who) s
   by_cases hss:s=p.at_-p.k-1
   ·rw[if_pos hss,← hss] at hfs
    refine⟨fun _ hwho hd=>.inl ⟨(hh _ (by rfl)).2 (by dsimp only; omega),?_,?_⟩,fun h=>absurd ((hh p rfl).2 (by omega)) h⟩
    ·show ((H.drain p.who (p.at_-p.k-1)).ss s).who=_
     rw[← hss]
     show ((H.fed p.who s ((H.ss s).feed.drain p.who)).ss s).who=_
     rw[hfs]; exact hwho
    ·show Held _ _ _ _ ((H.drain p.who (p.at_-p.k-1)).ss s) _
     rw[← hss]
     show Held _ _ _ _ ((H.fed p.who s ((H.ss s).feed.drain p.who)).ss s) _
     rw[hfs]
     have he':=hd.e
     simp only[PR.pend] at he'
     rw[hp p _ _ rfl,if_pos (by omega)] at he'
     refine⟨?_,fun h=>h.elim,fun h=>hd.q h,fun h=>h.elim⟩
     show _=HP.pend _ _ _ _ _
     rw[hp _ _ _ (by rfl),if_neg (by dsimp only; omega)]
     exact he'
   ·rw[if_neg hss] at hfs
    refine Loc.same hfs rfl ?_ ⟨fun h=>h.elim,fun h=>h.elim⟩ (fun h=>h.elim) fun _ x=>?_
    ·show HP.holds _ _↔HP.holds _ _
     rw[hh _ (by rfl),hh p rfl]; dsimp only; omega
    ·show HP.pend _ _ _ _ _=HP.pend _ _ _ _ _
     rw[hp _ _ _ (by rfl),hp p _ _ rfl]
     dsimp only
     by_cases hcc:p.k<p.at_∧p.at_≤p.k+1+s
     ·rw[if_pos hcc,if_pos (by omega)]
     ·rw[if_neg hcc,if_neg (by omega)]
  ·rw[if_neg hk3]
   dsimp only
   by_cases hss:s=p.at_-2*p.k-1
   ·refine⟨fun _ hwho hd=>.inr ⟨fun h=>?_,?_⟩,fun h=>absurd ((hh p rfl).2 (by omega)) h⟩
    ·have:=(hh _ (by rfl)).1 h
     dsimp only at this; omega
    ·have hls:=unlock_ss (H:=H) (w:=p.who) (s:=p.at_-2*p.k-1) (by omega) (by rw[← hss,hw]; exact hwho) s
     rw[if_pos hss,← hss] at hls
     show Free ((H.unlock p.who (p.at_-2*p.k-1)).ss s) _
     rw[← hss,hls]
     have he':=hd.e
     simp only[PR.pend] at he'
     rw[hp p _ _ rfl,if_neg (by omega)] at he'
     have hq:=hd.q (nm _)
     exact⟨rfl,he',hq.1,hq.2⟩
   ·have hls:(H.unlock p.who (p.at_-2*p.k-1)).ss s=H.ss s:=by
     simp only[Hall.unlock]
     split
     ·simp[Hall.put,sput,hss,Hall.did]
     ·rfl
    refine Loc.same hls rfl ?_ ⟨fun h=>h.elim,fun h=>h.elim⟩ (fun h=>h.elim) fun _ x=>?_
    ·show HP.holds _ _↔HP.holds _ _
     rw[hh _ (by rfl),hh p rfl]; dsimp only; omega
    ·show HP.pend _ _ _ _ _=HP.pend _ _ _ _ _
     rw[hp _ _ _ (by rfl),hp p _ _ rfl,if_neg (by dsimp only; omega),if_neg (by omega)]
 -- a Watch or Unwatch
 have hst:p.steps=4:=(HP.kind_of hb h9 h8).2
 have hh:∀ q:HP,q.x=p.x→(q.holds s↔1≤q.at_∧q.at_≤3∧s=q.s):=fun q hq=>by
  unfold HP.holds; rw[hq,if_neg h8]; simp[onq q hq]
 have hp:∀ (q:HP) m x,q.x=p.x→q.pend m H.c s x=if q.at_=2∧s=q.s∧q.wres m H.c=0 then (x.1,q.wfd x.2) else x:=fun q m x hq=>by
  unfold HP.pend; rw[onq q hq,hq,if_neg (by simp),if_neg h8]
 have estp:p.stp ms H n=p.stpW ms H n:=by simp[HP.stp,hb,h9,h8]
 rw[estp]
 unfold HP.stpW
 by_cases h0:p.at_=0
 ·have hpl:p.places=false:=by simp[HP.places,one,h8]; omega
  rw[etn hpl,if_pos h0]
  dsimp only
  have hwh:(H.ss p.s).who=0:=by
   have hnd:p.needs=p.s:=by simp[HP.needs,one,h8,h0]
   simp[HP.enabled,hnd] at he
   rcases he.2 with h | h
   ·omega
   ·exact h
  have hls:=lock_ss (H:=H) (w:=p.who) (s:=p.s) (by omega) hwh s
  by_cases hss:s=p.s
  ·rw[if_pos hss] at hls
   refine⟨fun h=>?_,fun _=>.inr ⟨by rw[hss]; exact hwh,rfl,(hh _ (by rfl)).2 (by dsimp only; omega),by rw[hls,hw,hss],nm _,n5 _,fun x=>?_⟩⟩
   ·have:=(hh p rfl).1 h; omega
   ·show HP.pend _ _ _ _ _=_
    rw[hp _ _ _ (by rfl),if_neg (by dsimp only; omega)]
  ·rw[if_neg hss] at hls
   refine Loc.same hls rfl ?_ ⟨fun h=>h.elim,fun h=>h.elim⟩ (fun h=>h.elim) fun _ x=>?_
   ·show HP.holds _ _↔HP.holds _ _
    rw[hh _ (by rfl),hh p rfl]; dsimp only; omega
   ·show HP.pend _ _ _ _ _=HP.pend _ _ _ _ _
    rw[hp _ _ _ (by rfl),hp p _ _ rfl,if_neg (by dsimp only; omega),if_neg (by omega)]
 rw[if_neg h0]
 by_cases h1:p.at_=1
 ·have hpl:p.places=true:=by simp[HP.places,one,h8,h1]
  rw[etb hpl,if_pos h1]
  have hdo:=(do_watch (i:=i) (p:={ p with t:=H.t }) (m:=ms) (M:=M) (c:=H.c) ⟨a.w,a.i8,a.k6,a.s⟩ hc ⟨(ma one h8 h1).wt,(ma one h8 h1).ct⟩ ht.symm hb h9 h8).1
  dsimp only at hdo
  rw[hdo]
  dsimp only
  by_cases hss:s=p.s
  ·refine⟨fun _ hwho hd=>.inl ⟨(hh _ (by rfl)).2 (by dsimp only; omega),hwho,?_⟩,fun h=>absurd ((hh p rfl).2 (by omega)) h⟩
   have he':=hd.e
   simp only[PR.pend] at he'
   rw[hp p _ _ rfl,if_neg (by omega)] at he'
   refine⟨?_,fun h=>h.elim,fun h=>hd.q h,fun h=>h.elim⟩
   show _=HP.pend _ _ _ _ _
   rw[hp _ _ _ (by rfl)]
   dsimp only
   have hwr:({ p with at_:=2,t:=H.t,placed:=n }:HP).wres ms H.c=({ p with t:=H.t }:HP).wres ms H.c:=rfl
   rw[hwr]
   by_cases hr:({ p with t:=H.t }:HP).wres ms H.c=0
   ·rw[if_pos hr,if_pos ⟨rfl,hss,hr⟩]
    simp only[Tbl.st,Prod.mk.injEq] at he'
    simp only[Tbl.st,Tbl.fed,bset,hss,if_true]
    rw[← hss,he'.1,he'.2]; rfl
   ·rw[if_neg hr,if_neg (fun h=>hr h.2.2)]
    exact he'
  ·refine Loc.same rfl ?_ ?_ ⟨fun h=>h.elim,fun h=>h.elim⟩ (fun h=>h.elim) fun hh'=>?_
   ·split
    ·simp[Tbl.st,Tbl.fed,bset,hss]
    ·rfl
   ·show HP.holds _ _↔HP.holds _ _
    rw[hh _ (by rfl),hh p rfl]; dsimp only; omega
   ·have:=(hh p rfl).1 hh'; omega
 rw[if_neg h1]
 have hpl:p.places=false:=by simp[HP.places,one,h8]; omega
 rw[etn hpl]
 by_cases h2:p.at_=2
 ·rw[if_pos h2]
  have key:∀ (q:HP) (m':Mine) (H':Hall),q.x=p.x→q.s=p.s→q.at_=3→(∀ s',H'.ss s'=if s'=p.s∧p.wres ms H.c=0 then { H.ss p.s with feed:=p.wfd (H.ss p.s).feed } else H.ss s')→Loc i (.h p) (.h q) ms m' H H' M M s:=by
   intro q m' H' hq hqs hq3 hH
   have hH:=hH s
   by_cases hss:s=p.s
   ·refine⟨fun _ hwho hd=>.inl ⟨(hh _ hq).2 (by omega),?_,?_⟩,fun h=>absurd ((hh p rfl).2 (by omega)) h⟩
    ·rw[hH]; split
     ·rename_i h; dsimp only; rw[← h.1]; exact hwho
     ·exact hwho
    ·have he':=hd.e
     simp only[PR.pend] at he'
     rw[hp p _ _ rfl] at he'
     rw[hH]
     by_cases hr:p.wres ms H.c=0
     ·rw[if_pos ⟨h2,hss,hr⟩] at he'
      rw[if_pos ⟨hss,hr⟩,← hss]
      refine⟨?_,fun h=>h.elim,fun h=>hd.q h,fun h=>h.elim⟩
      show _=HP.pend _ _ _ _ _
      rw[hp _ _ _ hq,if_neg (by omega)]
      exact he'
     ·rw[if_neg (fun h=>hr h.2.2)] at he'
      rw[if_neg (fun h=>hr h.2)]
      refine⟨?_,fun h=>h.elim,fun h=>hd.q h,fun h=>h.elim⟩
      show _=HP.pend _ _ _ _ _
      rw[hp _ _ _ hq,if_neg (by omega)]
      exact he'
   ·rw[if_neg (fun h=>hss h.1)] at hH
    refine Loc.same hH rfl ?_ ⟨fun h=>h.elim,fun h=>h.elim⟩ (fun h=>h.elim) fun hh'=>?_
    ·show HP.holds _ _↔HP.holds _ _
     rw[hh _ hq,hh p rfl,hqs]; omega
    ·have:=(hh p rfl).1 hh'; omega
  by_cases hcl':p.t.closed=true
  ·rw[if_pos hcl']
   exact key _ _ _ rfl rfl rfl fun s'=>by
    have:¬ p.wres ms H.c=0:=by simp[HP.wres,hcl']
    rw[if_neg (fun h=>this h.2)]
  rw[if_neg hcl']
  by_cases hcc:p.x.kind=6∧mhas ms p.x.user=false∧H.c.watches≤(ms.length:Int)
  ·rw[if_pos hcc]
   exact key _ _ _ rfl rfl rfl fun s'=>by
    have:¬ p.wres ms H.c=0:=by simp[HP.wres,hcl',hcc.1,hcc.2.1,hcc.2.2]
    rw[if_neg (fun h=>this h.2)]
  ·rw[if_neg hcc]
   have hr:p.wres ms H.c=0:=by
    unfold HP.wres; rw[if_neg hcl',if_neg hcc]
   exact key _ _ _ rfl rfl rfl fun s'=>by
    unfold Hall.watch
    rw[fed_ss]
    by_cases hs':s'=p.s
    ·have hx:s'=p.s∧p.wres ms H.c=0:=⟨hs',hr⟩
     simp only[if_pos hs',if_pos hx,HP.wfd]
    ·have hx:¬ (s'=p.s∧p.wres ms H.c=0):=fun h=>hs' h.1
     simp only[if_neg hs',if_neg hx]
 rw[if_neg h2]
 dsimp only
 have h3:p.at_=3:=by omega
 by_cases hss:s=p.s
 ·refine⟨fun _ hwho hd=>.inr ⟨fun h=>?_,?_⟩,fun h=>absurd ((hh p rfl).2 (by omega)) h⟩
  ·have:=(hh _ (by rfl)).1 h
   dsimp only at this; omega
  ·have hls:=unlock_ss (H:=H) (w:=p.who) (s:=p.s) (by omega) (by rw[← hss,hw]; exact hwho) s
   rw[if_pos hss] at hls
   rw[hls,← hss]
   have he':=hd.e
   simp only[PR.pend] at he'
   rw[hp p _ _ rfl,if_neg (by omega)] at he'
   have hq:=hd.q (nm _)
   exact⟨rfl,he',hq.1,hq.2⟩
 ·have hls:(H.unlock p.who p.s).ss s=H.ss s:=by
   simp only[Hall.unlock]
   split
   ·simp[Hall.put,sput,hss,Hall.did]
   ·rfl
  refine Loc.same hls rfl ?_ ⟨fun h=>h.elim,fun h=>h.elim⟩ (fun h=>h.elim) fun _ x=>?_
  ·show HP.holds _ _↔HP.holds _ _
   rw[hh _ (by rfl),hh p rfl]; dsimp only; omega
  ·show HP.pend _ _ _ _ _=HP.pend _ _ _ _ _
   rw[hp _ _ _ (by rfl),hp p _ _ rfl,if_neg (by dsimp only; omega),if_neg (by omega)]
end Go.Den
namespace Go.Den
open Go
set_option linter.unusedVariables false
set_option linter.unusedSimpArgs false
theorem TS.take {m:Nat}{M:Tbl}(x:TS m M):TS m M.take:=⟨x.rt,x.cw,x.nn,x.bk,x.fd,x.tn,addU_rng x.ts (by simp[U64])⟩
theorem TS.set {m:Nat}{M:Tbl}(x:TS m M){s:Nat}{b:Book}{f:Feed}(hb:BkM m b)(hf:FdM m f):TS m { M with bk:=bset M.bk s b,fd:=bset M.fd s f } :=
 ⟨x.rt,x.cw,x.nn,fun t ht=>by simp only[bset]; split; exact hb; exact x.bk t ht,fun t ht=>by simp only[bset]; split; exact hf; exact x.fd t ht,x.tn,x.ts⟩
theorem TS.fed {m:Nat}{M:Tbl}(x:TS m M){s:Nat}{f:Feed}(hf:FdM m f):TS m (M.fed s f) :=
 ⟨x.rt,x.cw,x.nn,x.bk,fun t ht=>by simp only[Tbl.fed,bset]; split; exact hf; exact x.fd t ht,x.tn,x.ts⟩
theorem TS.sweep {m:Nat}{M:Tbl}(x:TS m M)(s:Int):TS m (M.sweep s):=by
 unfold Tbl.sweep
 split
 ·rename_i h
  have hs:s.toNat<M.n:=by omega
  exact x.take.set ((x.bk _ hs).sweepTo _ _ (Nat.le_refl _)) ((x.fd _ hs).tell _ _)
 ·exact x
theorem TS.write {m:Nat}{M:Tbl}(x:TS m M){o:OpD}(ow:OpW o):TS (m+1) (M.write o).1:=by
 have y:=x.mono (Nat.le_succ m)
 have hs:=x.stripe o.user
 unfold Tbl.write
 split
 ·exact y.take
 ·exact y.take.set ((x.bk _ hs).write ow x.tn _) ((y.fd _ hs).tell _ _)
theorem TS.do_ {m:Nat}{M:Tbl}(x:TS m M)(who:Int){o:OpD}(ow:OpW o):TS (m+1) (M.do_ who o).1:=by
 have y:=x.mono (Nat.le_succ m)
 have hs:=x.stripe o.user
 unfold Tbl.do_
 split
 ·exact y
 split
 ·exact x.write ow
 split
 ·exact⟨y.rt,y.cw,y.nn,y.bk,fun t ht=>by simp only[Tbl.poll,Tbl.drainTo]; split; exact (y.fd t ht).drain _; exact y.fd t ht,y.tn,y.ts⟩
 split
 ·exact y
 split
 ·unfold Tbl.watch
  split
  ·exact y
  ·exact y.fed ((x.fd _ hs).watch _ _ ow.s1)
 split
 ·exact y.fed ((x.fd _ hs).unwatch _ _ ow.s1)
 split
 ·exact⟨y.rt,y.cw,y.nn,y.bk,y.fd,y.tn,y.ts⟩
 ·exact y
def PR.owd:PR→Prop
 | .w p=>∀ o,p.k = .op o→OpW o
 | .r _=>True
 | .h p=>OpW p.x
theorem TS.bef {m:Nat}{M:Tbl}(x:TS m M){p:PR}(h:p.owd):TS (m+1) (p.bef M).1:=by
 have y:=x.mono (Nat.le_succ m)
 cases p with
 | w p =>
  simp only[PR.bef]
  cases hk:p.k with
  | bad=>exact y
  | op o=>exact x.write (h o hk)
  | sweep=>exact y.sweep _
 | r p=>exact y
 | h p=>exact x.do_ _ h
theorem TS.tb {m:Nat}{M:Tbl}(x:TS m M){p:PR}{H:Hall}(h:p.owd):TS (m+1) (p.tb H M):=by
 unfold PR.tb
 split
 ·exact x.bef h
 ·exact x.mono (Nat.le_succ m)
def allWs (M:Tbl)(i:Nat):List ByteArray:=(List.range M.n).flatMap fun s=>wsOf (M.fd s).ws i
structure WsI (M:Tbl)(e:Nat→Mine):Prop where
 pm:∀ i,i<8→(allWs M i).Perm (e i)
 lo:∀ s i u,s<M.n→i<8→u∈wsOf (M.fd s).ws i→M.stripe u=s
theorem sum_map_len {α β:Type}(l:List α)(f:α→List β):(l.map fun a=>(f a).length).sum=(l.flatMap f).length:=by
 induction l with
 | nil=>rfl
 | cons a l ih=>rw[List.map_cons,List.sum_cons,List.flatMap_cons,List.length_append,ih]
theorem WsI.count {M:Tbl}{e:Nat→Mine}(x:WsI M e){i:Nat}(hi:i<8):M.count i=(e i).length:=by
 rw[← (x.pm i hi).length_eq]
 unfold allWs Tbl.count
 rw[← sum_map_len]
 congr 1
 apply List.map_congr_left
 intro s _
 have hc:clientB (i:Int)=true:=by simp[clientB]; omega
 simp[Feed.count,hc,wsOf]
theorem WsI.watching {M:Tbl}{e:Nat→Mine}{m:Nat}(x:WsI M e)(ts:TS m M){i:Nat}(hi:i<8)(u:ByteArray):(M.fd (M.stripe u)).watching i u=mhas (e i) u:=by
 have hs:=ts.stripe u
 have hc:clientB (i:Int)=true:=by simp[clientB]; omega
 unfold Feed.watching
 rw[hc,Bool.true_and,Bool.eq_iff_iff,← wsOf_mem (ts.fd _ hs).so,mhas_iff,← (x.pm i hi).mem_iff]
 unfold allWs
 rw[List.mem_flatMap]
 constructor
 ·intro h; exact⟨M.stripe u,List.mem_range.2 hs,h⟩
 ·rintro⟨s,h1,h2⟩
  have:=x.lo s i u (List.mem_range.1 h1) hi h2
  rw[this]; exact h2
theorem WsI.same {M M':Tbl}{e e':Nat→Mine}(x:WsI M e)(hn:M'.n=M.n)(hc:M'.c=M.c)(hw:∀ s,s<M.n→(M'.fd s).ws=(M.fd s).ws)(he:∀ i,i<8→e' i=e i):WsI M' e':=by
 have ha:∀ i,allWs M' i=allWs M i:=fun i=>by
  unfold allWs; rw[hn]
  rw[List.flatMap_def,List.flatMap_def]
  congr 1
  exact List.map_congr_left fun s hs=>by rw[hw s (by simpa using hs)]
 refine⟨fun i hi=>by rw[ha,he i hi]; exact x.pm i hi,fun s i u hs hi hu=>?_⟩
 rw[hw s (by omega)] at hu
 have:=x.lo s i u (by omega) hi hu
 unfold Tbl.stripe at this ⊢
 rw[hc]; exact this
theorem tell_ws (f:Feed)(l:List Chg)(seq:Int):(f.tell l seq).ws=f.ws:=by
 unfold Feed.tell
 induction l generalizing f with
 | nil=>rfl
 | cons c l ih=>rw[List.foldl_cons,ih,tell1_ws]
theorem drain_ws (f:Feed)(who:Int):(f.drain who).ws=f.ws:=by unfold Feed.drain; split<;>rfl
theorem range_split {n s:Nat}(hs:s<n):List.range n=List.range s++s::(List.range (n-s-1)).map (·+(s+1)):=by
 have h1:n=s+(1+(n-s-1)):=by omega
 rw[h1,List.range_add]
 congr 1
 rw[List.range_add]
 simp only[List.range_one,List.map_append,List.map_cons,List.map_nil,Nat.add_zero,List.map_map,List.singleton_append]
 rw[show s+(1+(n-s-1))-s-1=n-s-1 by omega]
 congr 1
 apply List.map_congr_left
 intro k _
 simp only[Function.comp]; omega
theorem flatMap_perm {β:Type}{n s:Nat}(hs:s<n){f g:Nat→List β}(h:∀ k,k≠s→(g k).Perm (f k))(x y:List β)(hxy:(x++g s).Perm (y++f s)):(x++(List.range n).flatMap g).Perm (y++(List.range n).flatMap f):=by
 have hl:∀ l:List Nat,s ∉ l→(l.flatMap g).Perm (l.flatMap f):=fun l hl=>by
  induction l with
  | nil=>exact List.Perm.refl _
  | cons a l ih =>
   simp only[List.mem_cons,not_or] at hl
   simp only[List.flatMap_cons]
   exact (h a (Ne.symm hl.1)).append (ih hl.2)
 rw[range_split hs]
 simp only[List.flatMap_append,List.flatMap_cons]
 have h1:=hl (List.range s) (by simp)
 have h2:=hl ((List.range (n-s-1)).map (·+(s+1))) (by simp; omega)
 generalize (List.range s).flatMap g=A at *
 generalize (List.range s).flatMap f=A' at *
 generalize ((List.range (n-s-1)).map (·+(s+1))).flatMap g=B at *
 generalize ((List.range (n-s-1)).map (·+(s+1))).flatMap f=B' at *
 have e1:(x++(A++(g s++B))).Perm ((x++g s)++(A++B)):=by
  rw[List.append_assoc]
  refine List.Perm.append_left x ?_
  rw[← List.append_assoc,← List.append_assoc]
  exact (List.perm_append_comm).append_right B
 have e2:((y++f s)++(A'++B')).Perm (y++(A'++(f s++B'))):=by
  rw[List.append_assoc]
  refine List.Perm.append_left y ?_
  rw[← List.append_assoc,← List.append_assoc]
  exact (List.perm_append_comm).append_right B'
 exact (e1.trans (hxy.append (h1.append h2))).trans e2
theorem wsOf_watch {f:Feed}(so:SrtK (keysL f.ws))(ms:∀ x∈f.ws,0≤x.2∧x.2<4294967296){w j:Nat}(hw:w<8)(hj:j<8)(u:ByteArray) :
  (wsOf (f.watch w u).ws j).Perm (if j=w then (wsOf f.ws j).filter (fun k=>!decide (k=u))++[u] else wsOf f.ws j):=by
 have hc:clientB (w:Int)=true:=by simp[clientB]; omega
 obtain⟨m0,m1⟩:=valL_rng (u:=u) ms
 have e0:=wsOf_self so u j
 have e1:wsOf (f.watch w u).ws j=wsOf (putB f.ws u (mor (valL 0 f.ws u) w)) j:=by simp[Feed.watch,hc]
 rw[e1]
 refine (wsOf_put so u _ j).trans ?_
 rw[mbit_mor m0 m1 hw hj]
 by_cases h:j=w
 ·have e2:(wsOf (delB f.ws u) j).filter (fun k=>!decide (k=u))=wsOf (delB f.ws u) j:=List.filter_eq_self.2 fun k hk=>by
   have:¬ k=u:=fun h=>wsOf_del_not (h▸hk)
   simp[this]
  have e3:=e0.filter (fun k=>!decide (k=u))
  rw[List.filter_append,e2] at e3
  have e4:(if mbit (valL 0 f.ws u) j=true then [u] else []).filter (fun k=>!decide (k=u))=[]:=by split<;>simp
  rw[e4,List.nil_append] at e3
  simp only[h,decide_true,Bool.or_true,if_true]
  rw[h] at e3
  exact (List.perm_append_comm).trans (e3.symm.append_right [u])
 ·simp only[h,decide_false,Bool.or_false,if_false]
  exact e0.symm
theorem wsOf_unwatch {f:Feed}(so:SrtK (keysL f.ws))(ms:∀ x∈f.ws,0≤x.2∧x.2<4294967296){w j:Nat}(hw:w<8)(hj:j<8)(u:ByteArray) :
  (wsOf (f.unwatch w u).ws j).Perm (if j=w then (wsOf f.ws j).filter (fun k=>!decide (k=u)) else wsOf f.ws j):=by
 have hc:clientB (w:Int)=true:=by simp[clientB]; omega
 obtain⟨m0,m1⟩:=valL_rng (u:=u) ms
 have e0:=wsOf_self so u j
 have e2:(wsOf (delB f.ws u) j).filter (fun k=>!decide (k=u))=wsOf (delB f.ws u) j:=List.filter_eq_self.2 fun k hk=>by
  have:¬ k=u:=fun h=>wsOf_del_not (h▸hk)
  simp[this]
 have e3:=e0.filter (fun k=>!decide (k=u))
 rw[List.filter_append,e2] at e3
 have e4:(if mbit (valL 0 f.ws u) j=true then [u] else []).filter (fun k=>!decide (k=u))=[]:=by split<;>simp
 rw[e4,List.nil_append] at e3
 have main:∀ ws':List (ByteArray × Int),(wsOf ws' j).Perm ((if mbit (mclr (valL 0 f.ws u) w) j then [u] else [])++wsOf (delB f.ws u) j)→(wsOf ws' j).Perm (if j=w then (wsOf f.ws j).filter (fun k=>!decide (k=u)) else wsOf f.ws j):=fun ws' h=>by
  rw[mbit_mclr m0 m1 hw hj] at h
  by_cases hjw:j=w
  ·rw[if_pos hjw]
   simp only[hjw,decide_true,Bool.not_true,Bool.and_false,Bool.false_eq_true,if_false,List.nil_append] at h
   rw[hjw] at e3 ⊢
   exact h.trans e3.symm
  ·rw[if_neg hjw]
   simp only[hjw,decide_false,Bool.not_false,Bool.and_true] at h
   exact h.trans e0.symm
 unfold Feed.unwatch
 simp only[hc,true_and]
 by_cases hv:valL 0 f.ws u=0
 ·simp only[hv,ne_eq,not_true_eq_false,if_false]
  split
  ·rw[hv,mbit_zero] at e0
   simp only[Bool.false_eq_true,if_false,List.nil_append] at e0
   exact e0.trans e3.symm
  ·exact List.Perm.refl _
 ·simp only[ne_eq,hv,not_false_eq_true,if_true]
  split
  ·rename_i h0
   refine main _ ?_
   rw[h0,mbit_zero]; simp
  ·exact main _ (wsOf_put so u _ j)
theorem WsI.put {M:Tbl}{e e':Nat→Mine}{m:Nat}(x:WsI M e)(ts:TS m M){p:HP}{w:Nat}(hw:w<8)(hp:p.who=w)(hs:p.s=M.stripe p.x.user)
  (he:e' w=miset (e w) p.x.user (decide (p.x.kind=6))) (ho:∀ j,j≠w→e' j=e j):WsI (M.fed p.s (p.wfd (M.fd p.s))) e':=by
 have hsn:p.s<M.n:=by rw[hs]; exact ts.stripe _
 have fm:=ts.fd p.s hsn
 obtain⟨u,hu⟩:∃ u,p.x.user=u:=⟨_,rfl⟩
 have hwf:p.wfd (M.fd p.s)=if decide (p.x.kind=6) then (M.fd p.s).watch w u else (M.fd p.s).unwatch w u:=by unfold HP.wfd; rw[hp,hu]
 have key:∀ j,j<8→(wsOf (p.wfd (M.fd p.s)).ws j).Perm (if j=w then (wsOf (M.fd p.s).ws j).filter (fun k=>!decide (k=u))++(if decide (p.x.kind=6) then [u] else []) else wsOf (M.fd p.s).ws j):=fun j hj=>by
  rw[hwf]
  cases hk:decide (p.x.kind=6) with
  | true=>simpa using wsOf_watch fm.so fm.ms hw hj u
  | false=>simpa using wsOf_unwatch fm.so fm.ms hw hj u
 have hfd:∀ s,s≠p.s→(M.fed p.s (p.wfd (M.fd p.s))).fd s=M.fd s:=fun s h=>by simp[Tbl.fed,bset,h]
 have hfs:(M.fed p.s (p.wfd (M.fd p.s))).fd p.s=p.wfd (M.fd p.s):=by simp[Tbl.fed,bset]
 refine⟨fun j hj=>?_,fun s j v hs' hj hv=>?_⟩
 ·have kj:=key j hj
  by_cases hjw:j=w
  ·subst hjw
   rw[if_pos rfl] at kj
   rw[he,hu]
   unfold miset
   -- the others have none of this user's
   have hno:∀ s,s<M.n→s≠p.s→(wsOf (M.fd s).ws j).filter (fun k=>!decide (k=u))=wsOf (M.fd s).ws j:=fun s h1 h2=>List.filter_eq_self.2 fun k hk=>by
    have:¬ k=u:=fun h=>by
     subst h
     have:=x.lo s j k h1 hj hk
     rw[← hu,← hs] at this
     exact h2 this.symm
    simp[this]
   have h1:=(x.pm j hj).filter (fun k=>!decide (k=u))
   refine List.Perm.trans ?_ (h1.append_right _)
   unfold allWs
   rw[List.filter_flatMap]
   have:=flatMap_perm (s:=p.s) hsn (f:=fun s=>(wsOf (M.fd s).ws j).filter (fun k=>!decide (k=u))) (g:=fun s=>if s<M.n then wsOf ((M.fed p.s (p.wfd (M.fd p.s))).fd s).ws j else (wsOf (M.fd s).ws j).filter (fun k=>!decide (k=u)))
    (fun k hk=>by
     by_cases hkn:k<M.n
     ·simp only[if_pos hkn]; rw[hfd k hk,hno k hkn hk]
     ·simp only[if_neg hkn]; exact List.Perm.refl _) [] (if decide (p.x.kind=6) then [u] else [])
    (by
     simp only[if_pos hsn]; rw[hfs,List.nil_append]
     exact kj.trans List.perm_append_comm)
   rw[List.nil_append] at this
   have e1:(List.range M.n).flatMap (fun s=>if s<M.n then wsOf ((M.fed p.s (p.wfd (M.fd p.s))).fd s).ws j else (wsOf (M.fd s).ws j).filter (fun k=>!decide (k=u)))=(List.range M.n).flatMap fun s=>wsOf ((M.fed p.s (p.wfd (M.fd p.s))).fd s).ws j:=by
    rw[List.flatMap_def,List.flatMap_def]
    congr 1
    exact List.map_congr_left fun s hs=>by rw[if_pos (by simpa using hs)]
   rw[e1] at this
   exact this.trans List.perm_append_comm
  ·rw[if_neg hjw] at kj
   rw[ho j hjw]
   refine List.Perm.trans ?_ (x.pm j hj)
   have:=flatMap_perm (s:=p.s) hsn (f:=fun s=>wsOf (M.fd s).ws j) (g:=fun s=>wsOf ((M.fed p.s (p.wfd (M.fd p.s))).fd s).ws j) (fun k hk=>by rw[hfd k hk]) [] [] (by rw[hfs]; exact kj)
   rw[List.nil_append,List.nil_append] at this
   exact this
 ·show M.stripe v=s
  have hs':s<M.n:=hs'
  by_cases hsp:s=p.s
  ·subst hsp
   rw[hfs] at hv
   have hv:=(key j hj).mem_iff.1 hv
   split at hv
   ·rcases List.mem_append.1 hv with hv | hv
    ·exact x.lo _ j v hs' hj (List.mem_filter.1 hv).1
    ·split at hv
     ·simp at hv; rw[hv,← hu,hs]
     ·simp at hv
   ·exact x.lo _ j v hs' hj hv
  ·rw[hfd s hsp] at hv
   exact x.lo s j v hs' hj hv
end Go.Den
namespace Go.Den
open Go
set_option linter.unusedVariables false
set_option linter.unusedSimpArgs false
def PA (n i:Nat)(c:Cfg):PR→Prop
 | .w p=>WG n p∧WA i p c
 | .r p=>RK n p∧RA i p
 | .h p=>HPG n p∧HA i p c
structure LI (W:Wd)(M:Tbl):Prop where
 t:M.t=W.H.t
 c:M.c=W.H.c
 n:M.n=W.H.n
 st:∀ s,s<W.H.n→Free (W.H.ss s) (M.st s)∨∃ i p,W.ps i=some p∧p.holds s∧(W.H.ss s).who=i+1∧Held p (W.ms i) W.H.c s (W.H.ss s) (M.st s)
 own:∀ i p s,s<W.H.n→W.ps i=some p→p.holds s→(W.H.ss s).who=i+1
 pa:∀ i p,W.ps i=some p→PA W.H.n i W.H.c p
 ws:WsI M W.em
theorem bset_same {α:Type}(f:Nat→α)(i:Nat)(x:α):bset f i x i=x:=by simp[bset]
theorem bset_ne {α:Type}{f:Nat→α}{i j:Nat}{x:α}(h:j≠i):bset f i x j=f j:=by simp[bset,h]
theorem bset_id {α:Type}(f:Nat→α)(i:Nat):bset f i (f i)=f:=by
 funext j; unfold bset; split
 ·rename_i h; rw[h]
 ·rfl
theorem pstep_off {p : PR} {m : Mine} {H : Hall} {n : Int} (h : p.enabled H = false) : p.step m H n = (p, m, H) := by
  cases p with
  | w p => have h : p.enabled H = false := h
           simp [PR.step, WP.step, h]
  | r p => have h : p.enabled H = false := h
           simp [PR.step, RP.step, h]
  | h p => have h : p.enabled H = false := h
           simp [PR.step, HP.step, h]
theorem pstep_n {k i:Nat}{p:PR}{m:Mine}{H:Hall}(hs:HS k H)(n:Int)(hk:k<100000)(g:PA H.n i H.c p):(p.step m H n).2.2.n=H.n∧(p.step m H n).2.2.c=H.c∧HS (k+1) (p.step m H n).2.2∧PA H.n i H.c (p.step m H n).1:=by
 cases p with
 | w p =>
  obtain⟨k1,k2,k3⟩:=wstep_k p H n
  obtain⟨n1,n2⟩:=wstep_n p H n
  exact⟨n1,n2,hs.wstep g.1 n,g.1.step hs n,by rw[show (p.step H n).1.who=p.who from k2]; exact g.2.w,(g.1.step hs n).a,fun x hx=>by rw[k3]; exact g.2.s x (by rw[← k1]; exact hx)⟩
 | r p =>
  have hg:=hs.g hk
  obtain⟨k1,k2,k3,k4,k5⟩:=g.1.step hg n (by have:=hs.ac; omega)
  refine⟨k3,k4,?_,by have:=k1; exact k1,?_⟩
  ·show HS (k+1) (p.step H n).2
   unfold RP.step
   split
   ·exact hs.mono (by omega)
   rename_i hen
   split
   ·exact hs.mono (by omega)
   rename_i hz
   have h8:p.ph≠8:=fun h=>by simp[RP.enabled,h] at hen
   have hat:=g.1.at_ h8 hz
   have hss:p.s<H.n:=by rw[RP.s_lt hat]; exact g.1.ss _ (List.getElem_mem _)
   unfold RP.go
   split
   ·exact hs.epoch _ _
   split
   ·exact hs.snap _ _
   split
   ·exact hs.look _
   split
   ·exact hs.look _
   split
   ·exact hs.epoch _ _
   split
   ·exact hs.lock hss g.1.wr.2
   split
   ·exact hs.read _ _
   ·exact hs.unlock hss
  ·show RA i (p.step H n).1
   have hkeep:(p.step H n).1.who=p.who∧(p.step H n).1.ss=p.ss:=by
    unfold RP.step
    split
    ·exact⟨rfl,rfl⟩
    split
    ·exact⟨rfl,rfl⟩
    have hnx:∀ (q:RP) ph,(q.next ph).who=q.who∧(q.next ph).ss=q.ss:=fun q ph=>by unfold RP.next; split<;>exact⟨rfl,rfl⟩
    have han:∀ q:RP,q.answer.who=q.who∧q.answer.ss=q.ss:=fun q=>by unfold RP.answer; split<;>exact⟨rfl,rfl⟩
    have hju:∀ q:RP,q.judge.who=q.who∧q.judge.ss=q.ss:=fun q=>by
     unfold RP.judge
     split
     ·exact han q
     split<;>exact⟨rfl,rfl⟩
    unfold RP.go
    split
    ·exact hnx _ _
    split
    ·exact hnx _ _
    split
    ·exact⟨rfl,rfl⟩
    split
    ·exact⟨rfl,rfl⟩
    split
    ·dsimp only; split
     ·exact⟨(hju _).1.trans (hnx _ _).1,(hju _).2.trans (hnx _ _).2⟩
     ·exact hnx _ _
    split
    ·exact hnx _ _
    split
    ·exact hnx _ _
    ·dsimp only; split
     ·exact⟨(han _).1.trans (hnx _ _).1,(han _).2.trans (hnx _ _).2⟩
     ·exact hnx _ _
   exact⟨by rw[hkeep.1]; exact g.2.w,by rw[hkeep.2]; exact g.2.nd⟩
 | h p =>
  obtain⟨k1,k2,k3,k4⟩:=hstep_k p m H n
  obtain⟨n1,n2⟩:=hstep_n p m H n
  exact⟨n1,n2,hs.hstep g.1 m n,g.1.step m n,by rw[show (p.step m H n).1.who=p.who from k1]; exact g.2.w,g.2.i8,fun h=>by rw[show (p.step m H n).1.x=p.x from k2] at h ⊢; exact g.2.k6 h,by rw[show (p.step m H n).1.s=p.s from k4,show (p.step m H n).1.x=p.x from k2]; exact g.2.s⟩
theorem tb_n {i:Nat}{p:PR}{H:Hall}{M:Tbl}(hn:M.n=H.n)(g:PA H.n i H.c p):(p.tb H M).n=M.n∧(p.tb H M).c=M.c:=by
 unfold PR.tb
 split
 ·cases p with
  | w p =>
   cases hk:p.k with
   | bad=>simp[PR.bef,hk,WK.bef]
   | op x=>have:=bef_t (k:=p.k) (s:=p.s) (M:=M) (by simp[hk,WK.isBad]) (by rw[hn]; exact g.1.s); exact⟨this.2.2,this.2.1⟩
   | sweep=>have:=bef_t (k:=p.k) (s:=p.s) (M:=M) (by simp[hk,WK.isBad]) (by rw[hn]; exact g.1.s); exact⟨this.2.2,this.2.1⟩
  | r p=>exact⟨rfl,rfl⟩
  | h p =>
   simp only[PR.bef]
   unfold Tbl.do_
   split
   ·exact⟨rfl,rfl⟩
   split
   ·unfold Tbl.write; split<;>exact⟨rfl,rfl⟩
   split
   ·exact⟨rfl,rfl⟩
   split
   ·exact⟨rfl,rfl⟩
   split
   ·unfold Tbl.watch; split<;>exact⟨rfl,rfl⟩
   split
   ·exact⟨rfl,rfl⟩
   split<;>exact⟨rfl,rfl⟩
 ·exact⟨rfl,rfl⟩
theorem tb_t {i:Nat}{p:PR}{m:Mine}{H:Hall}{M:Tbl}(ht:M.t=H.t)(hn:M.n=H.n)(g:PA H.n i H.c p)(n:Int):(p.tb H M).t=(p.step m H n).2.2.t:=by
 cases hen:p.enabled H with
 | false =>
  rw[pstep_off hen]
  simp[PR.tb,hen,ht]
 | true =>
  cases p with
  | w p =>
   have he:p.enabled H=true:=hen
   by_cases hb:p.k.isBad=true
   ·have:p.k = .bad:=by cases hk:p.k<;>simp[hk,WK.isBad] at hb ⊢
    simp[PR.tb,PR.bef,this,WK.bef,PR.step,WP.step,he,hb,ht]
    simp[this,WK.isBad,ht]
   have hb:p.k.isBad=false:=by simpa using hb
   have e3:((PR.w p).step m H n).2.2=(p.stp H n).2:=by simp[PR.step,WP.step,he,hb]
   rw[e3]
   by_cases h2:p.at_=2
   ·have e4:(PR.w p).tb H M=(p.k.bef p.s M).1:=by simp[PR.tb,PR.places,WP.places,hen,h2,PR.bef]
    rw[e4,(bef_t hb (by rw[hn]; exact g.1.s)).1,stp2 H n h2]
    simp[Tbl.take,Hall.take,Hall.did,ht]
   ·have e4:(PR.w p).tb H M=M:=by simp[PR.tb,PR.places,WP.places,hb,h2]
    rw[e4,ht]
    by_cases h0:p.at_=0
    ·rw[stp0 H n h0]; exact (lock_t _ _ _).symm
    by_cases h1:p.at_=1
    ·rw[stp1 H n h1]; rfl
    by_cases h3:p.at_=3
    ·rw[stp3 H n h3]; exact (run_ss p.k H p.who p.s p.t p.s).2.2.2.2.symm
    by_cases h4:p.at_=4
    ·rw[stp4 H n h4]; rfl
    by_cases h5:p.at_=5
    ·rw[stp5 H n h5]; rfl
    ·rw[stp6 H n (by have:=enabled_at he; omega)]; exact (unlock_t _ _ _).symm
  | r p =>
   have e4:(PR.r p).tb H M=M:=by simp[PR.tb,PR.places]
   rw[e4,ht]
   show H.t=(p.step H n).2.t
   unfold RP.step
   split
   ·rfl
   split
   ·rfl
   unfold RP.go
   split
   ·rfl
   split
   ·rfl
   split
   ·rfl
   split
   ·rfl
   split
   ·rfl
   split
   ·exact (lock_t _ _ _).symm
   split
   ·rfl
   ·exact (unlock_t _ _ _).symm
  | h p =>
   have he:p.enabled H=true:=hen
   have e3:((PR.h p).step m H n).2.2=(p.stp m H n).2.2:=by simp[PR.step,HP.step,he]
   rw[e3]
   have hcl:=g.2.cl
   have hpt:∀ (who:Int) (x:OpD),badB x=true∨x.kind≠9→(badB x=false→6≤x.kind)→(M.do_ who x).1.t=M.t:=fun who x h h6=>by
    unfold Tbl.do_
    split
    ·rfl
    rename_i hnb
    have hb:badB x=false:=by
     cases hbb:badB x with
     | true=>exact absurd (.inl hbb) hnb
     | false=>rfl
    have hk:=h6 hb
    split
    ·omega
    split
    ·rfl
    split
    ·rfl
    split
    ·unfold Tbl.watch; split<;>rfl
    split
    ·rfl
    split
    ·rcases h with h | h
     ·rw[hb] at h; cases h
     ·contradiction
    ·rfl
   by_cases hb:badB p.x=true
   ·have:((PR.h p).tb H M).t=M.t:=by
     unfold PR.tb; split
     ·exact hpt _ _ (.inl hb) g.2.k6
     ·rfl
    rw[this,ht]; simp[HP.stp,hb]
   have hb:badB p.x=false:=by simpa using hb
   by_cases h9:p.x.kind=9
   ·have e4:(PR.h p).tb H M=(M.do_ p.who p.x).1:=by simp[PR.tb,PR.places,HP.places,HP.one,h9,hen,PR.bef]
    have e5:(p.stp m H n).2.2=H.shut p.who:=by simp[HP.stp,hb,h9]
    rw[e4,e5]
    unfold Tbl.do_
    rw[if_neg (by simp[hb,hcl]),if_neg (by omega),if_neg (by omega)]
    cases htc:M.t.closed with
    | true =>
     simp only[if_true]
     rw[ht] at htc ⊢
     have:(H.shut p.who).t={ H.t with closed:=true }:=rfl
     rw[this,← htc]
    | false =>
     simp only[Bool.false_eq_true,if_false]
     rw[if_neg (by omega),if_neg (by omega),if_pos h9]
     show _={ H.t with closed:=true }
     rw[← ht]
   ·have:((PR.h p).tb H M).t=M.t:=by
     unfold PR.tb; split
     ·exact hpt _ _ (.inr h9) g.2.k6
     ·rfl
    rw[this,ht]
    simp only[HP.stp,hb,h9,Bool.false_eq_true,if_false]
    split
    ·unfold HP.stpP
     split
     ·exact (lock_t _ _ _).symm
     split
     ·rfl
     split
     ·rfl
     ·exact (unlock_t _ _ _).symm
    ·unfold HP.stpW
     split
     ·exact (lock_t _ _ _).symm
     split
     ·rfl
     split
     ·split
      ·rfl
      split<;>rfl
     ·exact (unlock_t _ _ _).symm
theorem em_of {W:Wd}{i:Nat}{p:PR}(h:W.ps i=some p):W.em i=p.em (W.ms i) W.H.c:=by simp[Wd.em,h]
theorem LI.ma {W:Wd}{M:Tbl}{k:Nat}(x:LI W M)(ts:TS k M){i:Nat}{p:HP}(hp:W.ps i=some (.h p))(h1:p.at_≠2):MA p (W.ms i) M:=by
 have hpa:=x.pa i _ hp
 have he:W.em i=W.ms i:=by rw[em_of hp]; simp[PR.em,HP.em,h1]
 have hw:=hpa.2.w
 exact⟨by rw[hw,x.ws.watching ts hpa.2.i8,he],by rw[hw,x.ws.count hpa.2.i8,he]⟩
theorem LI.loc {W:Wd}{M:Tbl}{k j:Nat}(x:LI W M)(hs:HS k W.H)(ts:TS j M){i:Nat}{p:PR}(hp:W.ps i=some p)(n:Int)(he:p.enabled W.H=true){s:Nat}(hn:s<W.H.n) :
  Loc i p (p.step (W.ms i) W.H n).1 (W.ms i) (p.step (W.ms i) W.H n).2.1 W.H (p.step (W.ms i) W.H n).2.2 M (p.tb W.H M) s:=by
 have hpa:=x.pa i _ hp
 cases p with
 | w p=>exact wloc (m:=0) hs hpa.1 hpa.2 x.t x.c x.n n hn he
 | r p=>exact rloc hpa.1 hpa.2 n hn he
 | h p=>exact hloc hpa.1 hpa.2 x.t x.c x.n (fun _ _ h=>x.ma ts hp (by omega)) n hn he
end Go.Den
namespace Go.Den
open Go
set_option linter.unusedVariables false
set_option linter.unusedSimpArgs false
theorem bef_ws {k:WK}{s:Nat}{M:Tbl}(s':Nat):((k.bef s M).1.fd s').ws=(M.fd s').ws:=by
 cases k with
 | bad=>rfl
 | op x =>
  simp only[WK.bef,Tbl.write]
  split
  ·rfl
  ·simp only[Tbl.writeAt,bset]
   split
   ·rename_i h; rw[tell_ws,h]; rfl
   ·rfl
 | sweep =>
  simp only[WK.bef,Tbl.sweep]
  split
  ·simp only[Tbl.sweepAt,bset]
   split
   ·rename_i h; rw[tell_ws,h]; rfl
   ·rfl
  ·rfl
theorem step_em_ne {W:Wd}{i:Nat}{n:Int}(hc:(W.step i n).H.c=W.H.c){j:Nat}(h:j≠i):(W.step i n).em j=W.em j:=by
 unfold Wd.em
 unfold Wd.step at hc ⊢
 cases hp:W.ps i with
 | none=>rfl
 | some p =>
  simp only[hp] at hc ⊢
  rw[bset_ne h,bset_ne h,hc]
theorem HP.em_def (p:HP)(m:Mine)(c:Cfg):p.em m c=if p.one=false∧p.x.kind≠8∧p.at_=2∧p.wres m c=0 then miset m p.x.user (decide (p.x.kind=6)) else m:=rfl
theorem LI.ws_step {W:Wd}{M:Tbl}{j:Nat}(x:LI W M)(ts:TS j M){i:Nat}{p:PR}(hp:W.ps i=some p)(n:Int)(hc:(W.step i n).H.c=W.H.c)(hm:(p.tb W.H M).n=M.n∧(p.tb W.H M).c=M.c):WsI (p.tb W.H M) (W.step i n).em:=by
 have hpa:=x.pa i p hp
 have hWi:(W.step i n).em i=(p.step (W.ms i) W.H n).1.em (p.step (W.ms i) W.H n).2.1 W.H.c:=by
  have:(W.step i n).ps i=some (p.step (W.ms i) W.H n).1:=by simp only[Wd.step,hp,bset_same]
  rw[em_of this,hc]
  simp only[Wd.step,hp,bset_same]
 have hWn:=fun j (h:j≠i)=>step_em_ne (W:=W) (i:=i) (n:=n) hc h
 have he0:=em_of hp
 -- nothing is changed
 have same:(∀ s,s<M.n→((p.tb W.H M).fd s).ws=(M.fd s).ws)→(p.step (W.ms i) W.H n).1.em (p.step (W.ms i) W.H n).2.1 W.H.c=p.em (W.ms i) W.H.c→WsI (p.tb W.H M) (W.step i n).em:=fun h1 h2 =>
  x.ws.same hm.1 hm.2 h1 fun j hj=>by
   by_cases h:j=i
   ·subst h; rw[hWi,he0,h2]
   ·exact hWn j h
 cases hen:p.enabled W.H with
 | false =>
  refine same (fun s _=>by simp[PR.tb,hen]) ?_
  rw[pstep_off hen]
 | true =>
  cases p with
  | w p =>
   refine same (fun s _=>?_) rfl
   unfold PR.tb; split
   ·exact bef_ws s
   ·rfl
  | r p=>exact same (fun s _=>by simp[PR.tb,PR.places]) rfl
  | h p =>
   have he:p.enabled W.H=true:=hen
   have hl:=HP.lt_of_en he
   have e3:(PR.h p).step (W.ms i) W.H n=(.h (p.stp (W.ms i) W.H n).1,(p.stp (W.ms i) W.H n).2.1,(p.stp (W.ms i) W.H n).2.2):=by simp[PR.step,HP.step,he]
   rw[e3] at same hWi
   dsimp only[PR.em] at same hWi he0
   have hcl:=hpa.2.cl
   by_cases hb:badB p.x=true
   ·refine same (fun s _=>?_) ?_
    ·unfold PR.tb; split
     ·simp[PR.bef,Tbl.do_,hb]
     ·rfl
    ·simp[HP.stp,hb,HP.em,HP.one]
   have hb:badB p.x=false:=by simpa using hb
   by_cases h9:p.x.kind=9
   ·refine same (fun s _=>?_) ?_
    ·unfold PR.tb; split
     ·simp only[PR.bef]
      unfold Tbl.do_
      rw[if_neg (by simp[hb,hcl]),if_neg (by omega),if_neg (by omega)]
      split
      ·rfl
      rw[if_neg (by omega),if_neg (by omega)]
      try rw[if_pos h9]
     ·rfl
    ·simp[HP.stp,hb,HP.em,HP.one,h9]
   have one:p.one=false:=by simp[HP.one,hb,h9]
   by_cases h8:p.x.kind=8
   ·have hem:∀ q:HP,q.x=p.x→q.em (W.ms i) W.H.c=W.ms i:=fun q hq=>by rw[HP.em_def,if_neg (by rw[hq]; simp[h8])]
    have hx:(p.stpP W.H n).1.x=p.x:=by
     unfold HP.stpP; split
     ·rfl
     split
     ·rfl
     split<;>rfl
    have estp:p.stp (W.ms i) W.H n=((p.stpP W.H n).1,W.ms i,(p.stpP W.H n).2):=by simp[HP.stp,hb,h8]
    refine same (fun s _=>?_) (by rw[estp]; dsimp only; rw[hem _ hx,hem p rfl])
    unfold PR.tb; split
    ·simp only[PR.bef]
     unfold Tbl.do_
     rw[if_neg (by simp[hb,hcl]),if_neg (by omega),if_pos h8]
     have hdw:=drain_ws (M.fd s) p.who
     show (if s<M.n then (M.fd s).drain p.who else M.fd s).ws=_
     by_cases hsn:s<M.n
     ·rw[if_pos hsn]; exact hdw
     ·rw[if_neg hsn]
    ·rfl
   -- a Watch or Unwatch
   have estp:p.stp (W.ms i) W.H n=p.stpW (W.ms i) W.H n:=by simp[HP.stp,hb,h9,h8]
   rw[estp] at same hWi
   have hst:p.steps=4:=(HP.kind_of hb h9 h8).2
   by_cases h1:p.at_=1
   ·have hpl:p.places=true:=by simp[HP.places,one,h8,h1]
    have etb:(PR.h p).tb W.H M=(M.do_ p.who p.x).1:=by simp[PR.tb,PR.places,hen,hpl,PR.bef]
    have ma:=x.ma ts hp (by omega)
    have hdo:=(do_watch (i:=i) (p:={ p with t:=W.H.t }) (m:=W.ms i) (M:=M) (c:=W.H.c) ⟨hpa.2.w,hpa.2.i8,hpa.2.k6,hpa.2.s⟩ x.c ⟨ma.wt,ma.ct⟩ x.t.symm hb h9 h8).1
    dsimp only at hdo
    have e1:p.stpW (W.ms i) W.H n=({ p with at_:=2,t:=W.H.t,placed:=n },W.ms i,W.H.look p.who):=by simp[HP.stpW,h1]
    rw[e1] at hWi
    dsimp only at hWi
    rw[HP.em_def] at hWi
    dsimp only at hWi
    have hwr:({ p with at_:=2,t:=W.H.t,placed:=n }:HP).wres (W.ms i) W.H.c=({ p with t:=W.H.t }:HP).wres (W.ms i) W.H.c:=rfl
    have ho:({ p with at_:=2,t:=W.H.t,placed:=n }:HP).one=false:=one
    rw[hwr,ho] at hWi
    have hei:W.em i=W.ms i:=by rw[he0,HP.em_def,if_neg (by omega)]
    rw[etb,hdo]
    by_cases hr:({ p with t:=W.H.t }:HP).wres (W.ms i) W.H.c=0
    ·rw[if_pos hr]
     rw[if_pos ⟨rfl,h8,rfl,hr⟩] at hWi
     refine WsI.put (p:={ p with t:=W.H.t }) x.ws ts hpa.2.i8 hpa.2.w (by rw[hpa.2.s,Tbl.stripe,x.c]) ?_ fun j hj=>hWn j hj
     rw[hWi,hei]
    ·rw[if_neg hr]
     rw[if_neg (fun h=>hr h.2.2.2)] at hWi
     refine x.ws.same rfl rfl (fun _ _=>rfl) fun j hj=>?_
     by_cases h:j=i
     ·subst h; rw[hWi,hei]
     ·exact hWn j h
   have hpl:p.places=false:=by simp[HP.places,one,h8,h1]
   have etn:(PR.h p).tb W.H M=M:=by simp[PR.tb,PR.places,hpl]
   refine same (fun s _=>by rw[etn]) ?_
   rw[HP.em_def p]
   unfold HP.stpW
   by_cases h0:p.at_=0
   ·rw[if_pos h0,if_neg (by omega)]
    dsimp only
    rw[HP.em_def,if_neg (by dsimp only; omega)]
   rw[if_neg h0,if_neg h1]
   by_cases h2:p.at_=2
   ·rw[if_pos h2]
    by_cases hcl':p.t.closed=true
    ·have hr:p.wres (W.ms i) W.H.c=5:=by simp[HP.wres,hcl']
     rw[if_pos hcl',if_neg (by omega)]
     dsimp only
     rw[HP.em_def,if_neg (by dsimp only; omega)]
    by_cases hcc:p.x.kind=6∧mhas (W.ms i) p.x.user=false∧W.H.c.watches≤((W.ms i).length:Int)
    ·have hr:p.wres (W.ms i) W.H.c=4:=by simp[HP.wres,hcl',hcc.1,hcc.2.1,hcc.2.2]
     rw[if_neg hcl',if_pos hcc,if_neg (by omega)]
     dsimp only
     rw[HP.em_def,if_neg (by dsimp only; omega)]
    ·have hr:p.wres (W.ms i) W.H.c=0:=by unfold HP.wres; rw[if_neg hcl',if_neg hcc]
     rw[if_neg hcl',if_neg hcc,if_pos ⟨one,h8,h2,hr⟩]
     dsimp only
     rw[HP.em_def,if_neg (by dsimp only; omega)]
   ·rw[if_neg h2,if_neg (by omega)]
    dsimp only
    rw[HP.em_def,if_neg (by dsimp only; omega)]
theorem PA.ow {n i:Nat}{c:Cfg}{p:PR}(g:PA n i c p):p.owd:=by
 cases p with
 | w p=>exact g.1.o
 | r p=>trivial
 | h p=>exact g.1.o
theorem LI.step {W:Wd}{M:Tbl}{k j:Nat}(x:LI W M)(hs:HS k W.H)(hk:k<100000)(ts:TS j M){i:Nat}{p:PR}(hp:W.ps i=some p)(n:Int) :
  LI (W.step i n) (p.tb W.H M)∧HS (k+1) (W.step i n).H∧TS (j+1) (p.tb W.H M):=by
 have hpa:=x.pa i p hp
 obtain⟨n1,n2,n3,n4⟩:=pstep_n (m:=W.ms i) hs n hk hpa
 have hH:(W.step i n).H=(p.step (W.ms i) W.H n).2.2:=by simp only[Wd.step,hp]
 have hP:∀ j,(W.step i n).ps j=if j=i then some (p.step (W.ms i) W.H n).1 else W.ps j:=fun j=>by simp only[Wd.step,hp,bset]
 have hM:∀ j,(W.step i n).ms j=if j=i then (p.step (W.ms i) W.H n).2.1 else W.ms j:=fun j=>by simp only[Wd.step,hp,bset]
 have tbn:=tb_n x.n hpa
 have hc:(W.step i n).H.c=W.H.c:=by rw[hH]; exact n2
 have hpa':∀ j q,(W.step i n).ps j=some q→PA W.H.n j W.H.c q:=fun j q hq=>by
  rw[hP] at hq
  split at hq
  ·rename_i h; simp only[Option.some.injEq] at hq; subst hq; subst h; exact n4
  ·exact x.pa j q hq
 refine⟨?_,by rw[hH]; exact n3,ts.tb hpa.ow⟩
 cases hen:p.enabled W.H with
 | false =>
  have e:=pstep_off (m:=W.ms i) (n:=n) hen
  have e1:W.step i n=W:=by
   simp only[Wd.step,hp,e]
   rw[← hp,bset_id,bset_id]
  have e2:p.tb W.H M=M:=by simp[PR.tb,hen]
  rw[e1,e2]; exact x
 | true =>
  have L:=fun s hn=>x.loc hs ts hp n hen (s:=s) hn
  rw[← hH] at L
  refine⟨by rw[hH]; exact tb_t x.t x.n hpa n,tbn.2.trans (x.c.trans hc.symm),tbn.1.trans (x.n.trans (by rw[hH]; exact n1.symm)),fun s hs'=>?_,fun j q s hs' hq hh=>?_,fun j q hq=>?_,x.ws_step ts hp n hc tbn⟩
  ·have hsn:s<W.H.n:=by rw[hH,n1] at hs'; exact hs'
   have Ls:=L s hsn
   by_cases hh:p.holds s
   ·have hwho:=x.own i p s hsn hp hh
    have hd:Held p (W.ms i) W.H.c s (W.H.ss s) (M.st s):=by
     rcases x.st s hsn with h | ⟨j,q,h1,h2,h3,h4⟩
     ·have:=h.wh; omega
     ·have:j=i:=by omega
      subst this
      rw[hp] at h1; cases h1
      exact h4
    rcases Ls.a hh hwho hd with ⟨h1,h2,h3⟩ | ⟨h1,h2⟩
    ·refine .inr ⟨i,_,by rw[hP,if_pos rfl],h1,h2,?_⟩
     rw[hM,if_pos rfl,hc]; exact h3
    ·exact .inl h2
   ·rcases Ls.b hh with ⟨h1,h2,h3⟩ | ⟨h1,h2,h3,h4,h5,h6,h7⟩
    ·rw[h1,h2]
     rcases x.st s hsn with h | ⟨j,q,g1,g2,g3,g4⟩
     ·exact .inl h
     ·have hji:j≠i:=fun h=>by
       subst h
       rw[hp] at g1; cases g1
       exact hh g2
      refine .inr ⟨j,q,by rw[hP,if_neg hji]; exact g1,g2,g3,?_⟩
      rw[hM,if_neg hji,hc]; exact g4
    ·rw[h2,h4]
     rcases x.st s hsn with h | ⟨j,q,g1,g2,g3,g4⟩
     ·refine .inr ⟨i,_,by rw[hP,if_pos rfl],h3,rfl,?_⟩
      rw[hM,if_pos rfl,hc]
      exact⟨by rw[h7]; exact h.e,fun hh=>absurd hh h5,fun _=>⟨h.v,h.q⟩,fun hh=>absurd hh h6⟩
     ·omega
  ·have hsn:s<W.H.n:=by rw[hH,n1] at hs'; exact hs'
   have Ls:=L s hsn
   rw[hP] at hq
   by_cases hji:j=i
   ·subst hji
    rw[if_pos rfl] at hq
    simp only[Option.some.injEq] at hq
    subst hq
    by_cases hph:p.holds s
    ·have hwho:=x.own j p s hsn hp hph
     have hd:Held p (W.ms j) W.H.c s (W.H.ss s) (M.st s):=by
      rcases x.st s hsn with h | ⟨j',q,h1,h2,h3,h4⟩
      ·have:=h.wh; omega
      ·have:j'=j:=by omega
       subst this
       rw[hp] at h1; cases h1
       exact h4
     rcases Ls.a hph hwho hd with ⟨h1,h2,h3⟩ | ⟨h1,h2⟩
     ·exact h2
     ·exact absurd hh h1
    ·rcases Ls.b hph with ⟨h1,h2,h3⟩ | ⟨h1,h2,h3,h4,h5,h6,h7⟩
     ·exact absurd hh h3
     ·rw[h4]
   ·rw[if_neg hji] at hq
    have hwho:=x.own j q s hsn hq hh
    have hph:¬ p.holds s:=fun h=>by
     have:=x.own i p s hsn hp h
     omega
    rcases Ls.b hph with ⟨h1,h2,h3⟩ | ⟨h1,h2,h3,h4,h5,h6,h7⟩
    ·rw[h1]; exact hwho
    ·omega
  ·rw[hH,n1,n2]; exact hpa' j q hq
end Go.Den
namespace Go.Proofs.YtcnphhhcknhhaaaGreat
open Go Go.Den Go.MapKept
set_option linter.unusedSimpArgs false
set_option linter.unusedVariables false
set_option maxRecDepth 20000
@[simp] theorem cells_nilF:Value.cells .nilFunc=#[.nilFunc]:=rfl
theorem bdWP (who s:Int)(f:FuncId)(a b:Array Value):bdV (binf P qbsZ) [(0,.int .i64 who),(1,.int .i64 s),(2,.func (.func f) a b),(5,.int .i64 (-1))]=some (.agg #[.int .i64 who,.int .i64 s,.func (.func f) a b,.int .i64 0,.int .u64 0,.int .u64 0,.bool false,.int .i64 (-1),.int .i64 0,.slice none 0 0,.slice none 0 0,.bool false]):=by kernel_rfl
variable {K:KTy}
theorem section_ok (who:Int)(s:Nat)(k:WK)(f:FuncId)(a b:Array Value){h:Heap}(hk:∀ q h',h q=none→Ext h h'→h' q=some (.cells (wpC (sect who s k) (.func (.func f) a b)).toArray qbsZ (0,0))→K (ptr q) h'):callM P qhoZ #[.int .i64 who,.int .i64 s,.func (.func f) a b] h K:=by
 apply qpbZ
 unfold qhRZ
 simp -implicitDefEqProofs only[bdWP,ov_s]
 exact nw_intro fun q h' n e c=>hk q h' n e c
def wp0 (H:Hall)(who:Int)(x:OpD):WP:=sect who (stripeOf x.user H.c.stripes).toNat (if badB x then .bad else .op x)
theorem wnew_ok (who:Int)(x:OpD)(xw:OpW x){T:Tags}{h:Heap}{g gh:Tag}{hp:Nat}{H:Hall}(w:Wf T h)(gg:Gd g)(y:HallR T h gh hp H){v:Value}(hv:Sl 1 StrR (fz T h) v x.users)(hl:x.users.length<1000000)(c8:1≤H.c.stripes∧H.c.stripes≤8)
  (hk:∀ T' h' q,Only non T h T' h'→h q=none→WPR T' h' g q (wp0 H who x)→K (ptr q) h'):callM P qfIZ #[ptr hp,.int .i64 who,.agg (opC x v).toArray] h K:=by
 apply qpIZ
 unfold qlVZ
 have hone:=hv.one
 refine nw_intro fun v1 h1 n1 e1 c1=>?_
 refine nw_agg fun v3 h3 n3 e3 c3=>?_
 have o1:Only non T h T h3:=Only.of_ext w (e1.trans e3)
 have c1:=e3 _ _ c1
 have c3':=c3
 simp -implicitDefEqProofs only[opC] at c3
 simp -implicitDefEqProofs[ld_at c3,cel_of c3,stm_at c3,stm_upd,ld_same,cel_same,over]
 refine hstripe_ok x.user xw.s1 (y.up o1 (Off.non _) (not_non _)) c8.2 ?_
 unfold qnnZ
 rw[zcInt]
 refine nw_st rfl rfl (by simp) fun v9 h9 n9 e9 c9=>?_
 have c1:=e9 _ _ c1
 have c3:=e9 _ _ c3
 have c3':=e9 _ _ c3'
 obtain⟨s,hs⟩:∃ s,(stripeOf x.user H.c.stripes).toNat=s:=⟨_,rfl⟩
 have hsi:stripeOf x.user H.c.stripes=(s:Int):=by have:=stripeOf_lt (u:=x.user) (n:=H.c.stripes) c8.1; omega
 rw[hsi] at c9
 simp -implicitDefEqProofs only[cells_i] at c1 c9
 simp -implicitDefEqProofs[ld_at c1,cel_of c1,stm_at c1,ld_at c9,cel_of c9,stm_at c9,stm_upd,ld_same,cel_same,over,hsi]
 refine section_ok who s (.op x) qdxZ _ _ fun q h4 n4 e4 c4=>?_
 have c1:=e4 _ _ c1
 have c3:=e4 _ _ c3
 have c3':=e4 _ _ c3'
 have c9':=e4 _ _ c9
 have e04:=((e1.trans e3).trans e9).trans e4
 have nq:h q=none:=fresh_of ((e1.trans e3).trans e9) n4
 have oa:ldV (some (some 7)) (ptr v3) h4=some (.agg (opC x v).toArray):=by simp[ld_at c3',opC]
 have ne1:v1≠q:=ne_fresh (e9 _ _ (e3 _ _ ‹_›)) n4
 have ne3:v3≠q:=ne_fresh (e9 _ _ ‹_›) n4
 have ne9:v9≠q:=ne_fresh c9 n4
 unfold qnmZ
 rw[seqM_eq]
 unfold qnlZ
 simp -implicitDefEqProofs only[oa,ov_s]
 refine modBad_ok x xw (hv.ext (@StrR.ext) ((fz_ext T h).trans e04)) hl fun h5 e5=>?_
 unfold qnkZ
 have c4:=e5 _ _ c4
 have cb1:=e5 _ _ c1
 have cb3:=e5 _ _ c3'
 have cb9:=e5 _ _ c9'
 have e05:=e04.trans e5
 have on:Only non T h (tset T q (g++[0])) h5:=Only.enew _ w e05 nq c4
 have hz:∀ b,b≠q→h b=none→∀ o,h5 b=some o→fz (tset T q (g++[0])) h5 b=some o:=fun b hb hn o ho=>fz_at ho (by rw[tset_ne hb]; exact w b hn)
 have n3':h v3=none:=fresh_of e1 n3
 have n9':h v9=none:=fresh_of (e1.trans e3) n9
 unfold wp0 at hk
 rw[hs] at hk
 cases hb:badB x with
 | false =>
  rw[hb] at hk
  simp -implicitDefEqProofs only[Bool.false_eq_true,if_false] at hk
  unfold qnjZ
  simp -implicitDefEqProofs
  exact hk _ h5 q on nq ⟨_,c4,tset_same _ _ _,v1,v9,v3,v,rfl,hz _ ne1 n1 _ cb1,hz _ ne9 n9' _ cb9,hz _ ne3 n3' _ cb3,hone⟩
 | true =>
  rw[hb] at hk
  simp -implicitDefEqProofs only[if_true] at hk
  unfold qniZ
  simp -implicitDefEqProofs only[wpC,sect] at c4
  simp -implicitDefEqProofs[ld_at c4,cel_of c4,stm_at c4,stm_upd,ld_same,cel_same,over]
  rw[stm_at (n:=1) (v:=.nilFunc) c4 rfl (by simp) rfl]
  refine hk _ _ q (on.own nq c4) nq ⟨.nilFunc,?_,tset_same _ _ _,rfl⟩
  rw[upd_same']; simp[wpC,sect,over]
end Go.Proofs.YtcnphhhcknhhaaaGreat
namespace Go.Proofs.YtcnphhhcknhhaaaGreat
open Go Go.Den Go.MapKept
set_option linter.unusedSimpArgs false
set_option linter.unusedVariables false
set_option maxRecDepth 20000
def small:Cfg:=⟨3,2,16,4,1,100,0⟩
theorem bdSmall:bdV (binf P qaWZ) [(0,.int .i64 3),(1,.int .i64 2),(2,.int .i64 16),(3,.int .i64 4),(4,.int .i64 1),(5,.int .u64 100)]=some (.agg (cfgC small).toArray):=by kernel_rfl
theorem smallW:CfgW small:=by constructor<;>simp[small,I64,U64]
variable {K:KTy}
theorem small_ok {h:Heap}(hk:∀ h',Ext h h'→K (.agg (cfgC small).toArray) h'):callM P qcGZ #[] h K:=by
 apply qmPZ
 unfold qeTZ
 rw[zcCfg,bdSmall]
 simp -implicitDefEqProofs only[nwM_s]
 intro v1 n1
 simp -implicitDefEqProofs[stm_upd,ld_same,cel_same,over,cfgC]
 exact hk _ (Ext.upd n1 _)
def rdOp (x:OpD):OpD:={ x with kind:=4+x.kind % 2 }
theorem zcOp:zc P qeZ=some #[.int .i64 0,.string ⟨#[]⟩,.int .i64 0,.int .i64 0,.int .i64 0,.int .u64 0,.slice none 0 0]:=by kernel_rfl
theorem reading_ok (x:OpD){h:Heap}{v:Value}(ho:One v)(hk:∀ h',Ext h h'→K (.agg (opC (rdOp x) v).toArray) h'):callM P qAZ #[.agg (opC x v).toArray] h K:=by
 apply qlWZ
 unfold qdHZ
 refine nw_agg fun v1 h1 n1 e1 c1=>?_
 rw[zcOp]
 refine nw_intro fun v3 h3 n3 e3 c3=>?_
 have ne:=ne_fresh c1 n3
 have c1:=e3 _ _ c1
 simp -implicitDefEqProofs only[opC] at c1
 have m1:=tmod_rng x.kind (show (0:Int)<2 by omega)
 have m2:=Int.mul_tdiv_add_tmod x.kind 2
 have e2:(x.kind.tmod 2+2).tmod 2=x.kind % 2:=by rw[tmod_pos (by omega)]; omega
 have w1:IntKind.i64.wrap (x.kind.tmod 2+2)=x.kind.tmod 2+2:=wrap64_id (by omega) (by omega)
 have w2:IntKind.i64.wrap (4+x.kind % 2)=4+x.kind % 2:=wrap64_id (by omega) (by omega)
 simp -implicitDefEqProofs[ld_at c1,cel_of c1,stm_at c1,ld_at c3,cel_of c3,stm_at c3,stm_skip ne,stm_skip (Ne.symm ne),ld_skip ne,ld_skip (Ne.symm ne),cel_skip ne,cel_skip (Ne.symm ne),stm_upd,ld_same,cel_same,over,w1,e2,w2,ho.1,ho.2]
 refine kv (hk _ ?_) rfl
 exact ext_upd n1 (ext_upd (fresh_of e1 n3) (e1.trans e3))
theorem cnt_set (p:Nat→Bool)(q:Nat)(hp:p q=false):∀ n,((List.range n).filter fun s=>p s || decide (q=s)).length=((List.range n).filter p).length+if q<n then 1 else 0
 | 0=>by simp
 | n+1=>by
  rw[List.range_succ,List.filter_append,List.filter_append,List.length_append,List.length_append,cnt_set p q hp n]
  by_cases hqn:q=n
  ·subst hqn; simp[List.filter_cons,hp]
  ·by_cases hq:q<n
   ·have:q<n+1:=by omega
    simp -implicitDefEqProofs[List.filter_cons,hqn,hq,this]; split<;>simp<;>omega
   ·have:¬ q<n+1:=by omega
    simp -implicitDefEqProofs[List.filter_cons,hqn,hq,this]
def LStI (users:List ByteArray)(n:Int)(p:Nat)(T:Tags)(h:Heap)(v7 v8:Value)(h':Heap):Prop :=
 ∃ i:Nat,Ext h h'∧i≤users.length∧v8 = .int .i64 i∧v7 = .int .i64 ((List.range 8).filter (inS (users.take i) n)).length∧h' p=some (.cells (inC (users.take i) n).toArray ty_8_bool (0,0))
theorem lstripes_ok (x : OpD) (xw : OpW x) {T : Tags} {h : Heap} {g : Tag} {q : Nat} {H : Hall} (w : Wf T h) (y : HallR T h g q H) (hc : 1 ≤ H.c.stripes ∧ H.c.stripes ≤ 8) {v : Value} (hv : Sl 1 StrR h v x.users) (hl : x.users.length < 1000000)
    (hk : ∀ h', Ext h h' → K (.int .i64 (stripesOf (usersOf x) H.c.stripes).length) h') : callM P qdsZ #[ptr q, .agg (opC x v).toArray] h K := by
  apply qlYZ
  unfold qdJZ
  refine nw_agg fun v1 h1 n1 e1 c1 => ?_
  have oC : ∀ v, Value.agg #[.int .i64 x.kind, .string x.user, .int .i64 x.id, .int .i64 x.status, .int .i64 x.prio, .int .u64 x.ttl, v] = .agg (opC x v).toArray := fun v => rfl
  simp -implicitDefEqProofs only [ld_at c1, opC]
  simp -implicitDefEqProofs [oC]
  refine users_ok x xw (wf_nil h1) (hv.ext (@StrR.ext) e1) hl fun uv h2 e2 us => ?_
  rw [fz_nil] at us
  unfold qgeZ
  rw [zc8]
  refine nw_intro fun p h3 n3 e3 c3 => ?_
  have e0 := (e1.trans e2).trans e3
  have np := fresh_of (e1.trans e2) n3
  rw [seqM_eq]
  unfold qgdZ
  have y3 := y.up (Only.of_ext (U := non) w e0) (Off.non _) (not_non _)
  have ul : (usersOf x).length < 1000000 := by unfold usersOf; split; simp; split; exact hl; simp
  have base : inC ((usersOf x).take 0) H.c.stripes = [.bool false, .bool false, .bool false, .bool false, .bool false, .bool false, .bool false, .bool false] := by simp [inC, inS, List.range_succ]
  have cnt0 : ((List.range 8).filter (inS ((usersOf x).take 0) H.c.stripes)).length = 0 := by simp [inS]
  refine loop_on [0, 5, 6] (fun s h' => LStI (usersOf x) H.c.stripes p T h2 (s 7) (s 8) h') (fun s _ => ((usersOf x).length - num (s 8)).toNat)
    ⟨0, e3, by omega, rfl, by rw [cnt0]; rfl, by rw [base]; exact c3⟩ ?_
  rintro s h4 hf ⟨i, e4, hi, s8, s7, hp⟩
  have s0 : s 0 = ptr q := by simpa using hf 0 (by simp)
  have s5 : s 5 = uv := by simpa using hf 5 (by simp)
  have s6 : s 6 = ptr p := by simpa using hf 6 (by simp)
  have hlen := us.len
  unfold qgcZ
  simp -implicitDefEqProofs only [s5, s8, hlen, bin_lss, ov_s, cd_b]
  refine ⟨fun hc2 => ?_, fun hc2 => ?_⟩
  rotate_left
  · have : i = (usersOf x).length := by have : ¬ ((i : Int) < (usersOf x).length) := by simpa using hc2
                                        omega
    subst this
    rw [List.take_length] at s7
    simp -implicitDefEqProofs [s7]
    exact hk h4 ((e1.trans e2).trans e4)
  have hlt : i < (usersOf x).length := by have : ((i : Int) < (usersOf x).length) := by simpa using hc2
                                          omega
  obtain ⟨b, o, i1, i2⟩ := str_at us (k := .i64) hlt
  have hsz := str_sizes us _ (List.getElem_mem hlt)
  have hw : IntKind.i64.wrap ((i : Int) + 1) = i + 1 := wrap64_id (by omega) (by omega)
  have y4 := y.up (Only.of_ext (U := non) w ((e1.trans e2).trans e4)) (Off.non _) (not_non _)
  unfold qgbZ
  rw [seqM_eq]
  unfold qgaZ
  simp -implicitDefEqProofs only [s5, s8, s0, i1, ov_s, ldV_c, i2 _ e4]
  refine hstripe_ok _ hsz y4 hc.2 ?_
  have hrng := stripeOf_rng (usersOf x)[i] hc.1
  obtain ⟨k, hk'⟩ : ∃ k : Nat, stripeOf (usersOf x)[i] H.c.stripes = k := ⟨(stripeOf (usersOf x)[i] H.c.stripes).toNat, by omega⟩
  have hk8 : k < 8 := by omega
  have hm : (k : Int).tmod 8 = k := by rw [tmod_pos (by omega)]; omega
  have hcel : cel h4 p k = some (.bool (inS ((usersOf x).take i) H.c.stripes k)) := by rw [cel_of hp]; simp [inC, hk8]
  have hdec : ∀ s : Nat, decide ((k : Int) = s) = decide (k = s) := fun s => decide_eq_decide.2 (by omega)
  have hcells : inC ((usersOf x).take (i + 1)) H.c.stripes = (List.range 8).map fun s => .bool (inS ((usersOf x).take i) H.c.stripes s || decide (k = s)) := by
    unfold inC
    apply List.map_congr_left
    intro s _
    rw [inS_s hlt, hk', hdec]
  have hcntf : ∀ s, inS ((usersOf x).take (i + 1)) H.c.stripes s = (inS ((usersOf x).take i) H.c.stripes s || decide (k = s)) := fun s => by rw [inS_s hlt, hk', hdec]
  unfold qfZZ
  rw [hk']
  simp -implicitDefEqProofs only [bin_rem _ _ _ _ _ (show (8 : Int) ≠ 0 by decide), hm, ov_s, s6, ia_arr hk8, Nat.zero_add, ldV_c, hcel, unV_n, cd_b]
  cases hin : inS ((usersOf x).take i) H.c.stripes k with
  | true =>
    refine ⟨fun h => by simp at h, fun _ => ?_⟩
    unfold qfYZ
    simp -implicitDefEqProofs [s8, s7, s0, s5, s6, hw]
    have hsame : ∀ s, inS ((usersOf x).take (i + 1)) H.c.stripes s = inS ((usersOf x).take i) H.c.stripes s := fun s => by
      rw [hcntf]
      by_cases e : k = s
      · subst e; simp [hin]
      · simp -implicitDefEqProofs [e]
    refine ⟨⟨i + 1, e4, by omega, by simp, ?_, ?_⟩, by omega⟩
    · rw [show inS ((usersOf x).take (i + 1)) H.c.stripes = inS ((usersOf x).take i) H.c.stripes from funext hsame]
    · rw [hp]; unfold inC; rw [show inS ((usersOf x).take (i + 1)) H.c.stripes = inS ((usersOf x).take i) H.c.stripes from funext hsame]
  | false =>
    refine ⟨fun _ => ?_, fun h => by simp at h⟩
    unfold qfXZ
    have hcc := cnt_set (inS ((usersOf x).take i) H.c.stripes) k hin 8
    have hcle : ((List.range 8).filter (inS ((usersOf x).take i) H.c.stripes)).length ≤ 8 := ssTo_le _ _ 8
    have hw7 : IntKind.i64.wrap ((((List.range 8).filter (inS ((usersOf x).take i) H.c.stripes)).length : Int) + 1) = (((List.range 8).filter (inS ((usersOf x).take i) H.c.stripes)).length : Int) + 1 := wrap64_id (by omega) (by omega)
    simp -implicitDefEqProofs only [bin_rem _ _ _ _ _ (show (8 : Int) ≠ 0 by decide), hm, ov_s, s6, ia_arr hk8, Nat.zero_add]
    rw [stm_at hp (by simp) (by simp [inC_len]; omega) (by simp)]
    simp -implicitDefEqProofs only [s7, bin_add, ov_s, hw7]
    have hov : over (inC ((usersOf x).take i) H.c.stripes).toArray k [.bool true] = (inC ((usersOf x).take (i + 1)) H.c.stripes).toArray := by
      rw [hcells]
      unfold inC
      rw [over_map1 hk8]
      congr 1
      apply List.map_congr_left
      intro s _
      by_cases e : s = k
      · subst e; simp
      · have : ¬ k = s := fun h => e h.symm
        simp -implicitDefEqProofs [e, this]
    have hcnt2 : ((List.range 8).filter (inS ((usersOf x).take (i + 1)) H.c.stripes)).length = ((List.range 8).filter (inS ((usersOf x).take i) H.c.stripes)).length + 1 := by
      rw [show inS ((usersOf x).take (i + 1)) H.c.stripes = (fun s => inS ((usersOf x).take i) H.c.stripes s || decide (k = s)) from funext hcntf, hcc, if_pos hk8]
    generalize ((List.range 8).filter (inS ((usersOf x).take i) H.c.stripes)).length = N1 at *
    simp -implicitDefEqProofs [s8, s0, s5, s6, hw]
    refine ⟨⟨i + 1, ext_upd n3 e4, by omega, by simp, by rw [hcnt2]; simp, ?_⟩, by omega⟩
    rw [upd_same']
    simp -implicitDefEqProofs only [← hov]
end Go.Proofs.YtcnphhhcknhhaaaGreat
namespace Go.Den
open Go
set_option linter.unusedVariables false
set_option linter.unusedSimpArgs false
theorem evn_u {b:Int}(hb:U64 b):U64 (evn b):=by unfold U64 evn at *; omega
theorem HG.hall0 {c:Cfg}(cw:CfgW c)(hr:rightB c=true):HG (hall0 c c.stripes.toNat):=by
 have h8:1≤c.stripes∧c.stripes≤8:=by simp[rightB] at hr; omega
 exact⟨by simp[Den.hall0]; omega,by simp[Den.hall0],fun s _=>⟨BkG.nil,BkG.nil⟩,fun s _=>⟨by simp[Den.hall0,strp0,U64],by simpa [Den.hall0,strp0] using evn_u cw.u1⟩,fun s _=>by simp[Den.hall0,strp0],cw,h8.2⟩
theorem stripesOf_lt {us:List ByteArray}{n:Int}(hn:1≤n):∀ s∈stripesOf us n,(s:Int)<n:=by
 intro s hs
 simp only[stripesOf,List.mem_filter,inS,List.any_eq_true,decide_eq_true_eq] at hs
 obtain⟨_,u,_,hu⟩:=hs
 rw[← hu]
 unfold stripeOf
 rw[if_neg (by omega)]
 exact Int.emod_lt_of_pos _ (by omega)
theorem stripesOf_pos {us:List ByteArray}{n:Int}(hn:1≤n)(h8:n≤8)(hu:us≠[]):0<(stripesOf us n).length:=by
 obtain⟨u,us',rfl⟩:=List.exists_cons_of_ne_nil hu
 refine List.length_pos_of_mem (a:=(stripeOf u n).toNat) ?_
 have h:0≤stripeOf u n∧stripeOf u n<n:=by
  unfold stripeOf
  rw[if_neg (by omega)]
  exact⟨Int.emod_nonneg _ (by omega),Int.emod_lt_of_pos _ (by omega)⟩
 simp only[stripesOf,List.mem_filter,List.mem_range,inS,List.any_cons,Bool.or_eq_true,decide_eq_true_eq]
 exact⟨by omega,.inl (by omega)⟩
theorem stripesOf_nodup (us:List ByteArray)(n:Int):(stripesOf us n).Nodup:=List.Pairwise.filter _ List.nodup_range
theorem stripesOf_le (us:List ByteArray)(n:Int):(stripesOf us n).length≤8:=by
 have:=List.length_filter_le (inS us n) (List.range 8)
 simpa [stripesOf] using this
theorem usersOf_bad {x:OpD}(h:badB x=false)(hk:x.kind=4∨x.kind=5):usersOf x≠[]∧(usersOf x).length≤8:=by
 unfold badB at h
 unfold usersOf
 rcases hk with hk | hk
 ·simp[hk]
 ·simp[hk] at h ⊢
  constructor
  ·intro e; rw[e] at h; simp at h
  ·omega
theorem RK.rp0 {H:Hall}(hg:HG H)(hn:H.n=H.c.stripes.toNat)(h1:1≤H.c.stripes)(tr:0≤H.c.retries∧H.c.retries≤4)(who:Int)(hw:-1000≤who∧who≤900)(x:OpD)(hx:badB x=false→(usersOf x).length≤8):RK H.n (rp0 H who x):=by
 have hul:(if badB x then ([]:List ByteArray) else usersOf x).length≤8:=by
  cases hb:badB x with
  | true=>simp
  | false=>simpa using hx hb
 have c8:=hg.c8
 refine⟨⟨by simp only[Den.rp0,RP.begin]; omega,by simp only[Den.rp0,RP.begin]; omega,stripesOf_le _ _,tr,by simp[Den.rp0,RP.begin],fun i b h=>by simp[Den.rp0,RP.begin] at h⟩,fun _ h0=>by simpa [Den.rp0,RP.begin,RP.k] using List.length_pos_iff.2 h0,fun s hs=>?_,fun _=>rfl,by simp[Den.rp0,RP.begin],fun _=>.inl rfl,fun i _=>by simp[Den.rp0,RP.begin,U64],hw⟩
 have:=stripesOf_lt h1 s hs
 omega
theorem Tr.start {c:Cfg}{who:Int}{x:OpD}(hb:badB x=false)(hk:x.kind=4∨x.kind=5)(h1:1≤c.stripes)(h8:c.stripes≤8):Tr c (stripesOf (usersOf x) c.stripes) (usersOf x) 0 (rp0 (hall0 c c.stripes.toNat) who x) (hall0 c c.stripes.toNat):=by
 have hu:=usersOf_bad hb hk
 refine .a ⟨by simp[rp0,RP.begin,hb,hall0],rfl,fun _=>rfl,rfl,rfl,fun _=>rfl,by simp[rp0,RP.begin,hb],rfl⟩ (fun _=>rfl) (stripesOf_pos h1 h8 hu.1) rfl rfl rfl (by simp[rp0,RP.begin])
end Go.Den
namespace Go.Proofs.YtcnphhhcknhhaaaGreat
open Go Go.Den Go.MapKept
set_option linter.unusedSimpArgs false
set_option linter.unusedVariables false
set_option maxRecDepth 20000
def RdI (T0:Tags)(h0:Heap)(hp pp:Nat)(J:Nat→RP→Hall→Prop)(a0:Nat)(v:Value)(h':Heap):Prop :=
 ∃ (T':Tags) (n:Nat) (r:RP) (H:Hall),Only (two (pre [1]) (pre [2])) T0 h0 T' h'∧HallR T' h' [1] hp H∧RPR T' h' [2] pp r∧RK H.n r∧HG H∧H.acts.length≤n+a0∧J n r H∧v = .int .i64 n∧n≤1000
theorem g1:Gd [1]:=⟨0,[],rfl⟩
theorem g2:Gd [2]:=⟨1,[],rfl⟩
theorem d12:Off (pre [1]) [2]:=off_pre (g:=[]) (x:=[1]) (y:=[2]) (by simp) (by simp)
theorem d21:Off (pre [2]) [1]:=off_pre (g:=[]) (x:=[2]) (y:=[1]) (by simp) (by simp)
theorem two12:¬ two (pre [1]) (pre [2]) []:=by rintro (h | h)<;>simp[pre] at h
theorem rd_step {T0:Tags}{h0:Heap}{hp pp:Nat}{J:Nat→RP→Hall→Prop}{a0 n:Nat}{T':Tags}{h':Heap}{r:RP}{H:Hall}(ha:a0≤1000)(hn:n<1000)(o:Only (two (pre [1]) (pre [2])) T0 h0 T' h')(y:HallR T' h' [1] hp H)(x:RPR T' h' [2] pp r)(rk:RK H.n r)(hg:HG H)(hl:H.acts.length≤n+a0)
  (hj:J (n+1) (r.step H n).1 (r.step H n).2) {K:KTy} (hk:∀ h'',RdI T0 h0 hp pp J a0 (.int .i64 (n+1:Nat)) h''→K (.tuple #[]) h''):callM P qaxZ #[ptr pp,ptr hp,.int .i64 n] h' K:=by
 obtain⟨k1,k2,k3,k4,k5⟩:=rk.step hg n (by omega)
 refine rstep_ok n o.wf g2 g1 d12 d21 x y rk.rg hg rk.rs fun T2 h2 o2 y2 x2=>?_
 exact hk h2 ⟨T2,n+1,_,_,o.trans o2,y2,x2,by rw[k3]; exact k1,k2,by omega,hj,rfl,by omega⟩
theorem bdOpAnn:bdV (binf P qeZ) [(0,.int .i64 4),(1,.string ⟨#[97,110,110]⟩)]=some (.agg (opC ⟨4,⟨#[97,110,110]⟩,0,0,0,0,[]⟩ (.slice none 0 0)).toArray):=by kernel_rfl
def annOp:OpD:=⟨4,⟨#[97,110,110]⟩,0,0,0,0,[]⟩
variable {K:KTy}
set_option maxHeartbeats 1000000 in
theorem awake_ok {h:Heap}(hk:∀ h',Ext h h'→K (.bool true) h'):callM P qcHZ #[] h K:=by
 apply qmRZ
 unfold qeVZ
 refine small_ok fun h1 e1=>?_
 unfold qhhZ
 have w1:=wf_nil h1
 refine hallNew_ok small smallW w1 g1 (fun hr T2 h2 q o2 y2=>?_) (fun hr=>by simp[rightB,small] at hr)
 have hg0:=HG.hall0 smallW hr
 unfold qhgZ
 have enil:binV .eql 4 true (ptr q) (.pointer none)=some (.bool false):=rfl
 simp -implicitDefEqProofs[enil]
 unfold qhfZ
 rw[bdOpAnn]
 simp -implicitDefEqProofs only[ov_s]
 have hb:badB annOp=false:=by decide
 refine rnew_ok 0 annOp ⟨by simp[annOp,I64],by simp[annOp,I64],by simp[annOp,I64],by simp[annOp,I64],by simp[annOp,U64],by simp[annOp,maxLen]; decide⟩ o2.wf g2 g1 d21 y2 (.inl ⟨rfl,_,_,rfl⟩) (by simp[annOp]) hg0.c8 fun T3 h3 p o3 x3=>?_
 have y3:=y2.up o3 d21 g2.nil
 unfold qheZ
 rw[seqM_eq]
 unfold qhcZ
 have hss:(stripesOf (usersOf annOp) small.stripes).length=1:=by decide +kernel
 have hus:(usersOf annOp).length=1:=rfl
 have hst:=Tr.start (c:=small) (who:=0) hb (.inl rfl) (by decide) (by decide)
 have hnd:=stripesOf_nodup (usersOf annOp) small.stripes
 have hrk:RK (hall0 small small.stripes.toNat).n (rp0 (hall0 small small.stripes.toNat) 0 annOp):=RK.rp0 hg0 rfl (by decide) (by decide) 0 (by omega) _ (fun _=>by simp[hus])
 generalize hssn:stripesOf (usersOf annOp) small.stripes=ss at *
 generalize husn:usersOf annOp=us at *
 have hN:Nof small ss=4:=by unfold Nof; rw[hss]; decide
 refine loop_on [1,3] (fun s h'=>RdI T3 h3 q p (Tr small ss us) 0 (s 4) h') (fun s _=>(9-num (s 4)).toNat) ⟨T3,0,_,_,Only.refl o3.wf,y3,x3,hrk,hg0,by simp[hall0],hst,rfl,by omega⟩ ?_
 rintro s h4 hf ⟨T4,n,r,H,o4,y4,x4,rk,hg,hl,tr,s4,hn⟩
 have s1:s 1=ptr q:=by simpa using hf 1 (by simp)
 have s3:s 3=ptr p:=by simpa using hf 3 (by simp)
 have hp8:=tr.ph8 (by omega)
 rw[hN] at hp8
 have hn9:(n:Int)<9:=by omega
 have hw:IntKind.i64.wrap ((n:Int)+1)=n+1:=wrap64_id (by omega) (by omega)
 unfold qhbZ
 simp -implicitDefEqProofs[s3,s4,hn9]
 refine rdone_ok x4 ?_
 by_cases h8:r.ph=8
 ·have hn4:n=4:=hp8.1.1 h8
  subst hn4
  simp -implicitDefEqProofs[h8,s4,s3]
  unfold qhdZ
  simp -implicitDefEqProofs[s3,s4]
  refine rplaced_ok x4 ?_
  cases tr with
  | a b w h ph at_ va sp=>omega
  | b b w h ph at_ va sp=>omega
  | c b w h ph at_ va sp=>omega
  | d b w h ph at_ va sp tc lo=>omega
  | f b w h he ph at_=>omega
  | g b h he ph at_=>omega
  | i b h he ph at_ tc lo pl=>omega
  | j b h he ph at_ tc lo pl=>omega
  | k h he ph pl er=>omega
  | e h he ph pl er vl =>
   have hpl:r.placed=2:=by rw[pl,hss]; rfl
   simp -implicitDefEqProofs[hpl]
   refine rreply_ok o4.wf g2 x4 fun h5 vv e5 hv _=>?_
   have hv:=hv h8
   have hlen:=hv.len
   simp -implicitDefEqProofs[fdV,hlen,vl,hus]
   refine hk h5 ?_
   have o5:Only non T4 h4 T4 h5:=Only.of_ext o4.wf e5
   have ea:=o2.ext g1.nil
   have eb:=o3.ext g2.nil
   have ec:=o4.ext two12
   have ed:=o5.ext (not_non _)
   rw[fz_nil] at ea
   exact e1.trans (((ea.trans eb).trans ec).trans (ed.trans (fz_ext _ _)))
 ·have hn4:n<4:=by
   have:=hp8.2
   have:¬ n=4:=fun e=>h8 (hp8.1.2 e)
   omega
  simp -implicitDefEqProofs[h8]
  unfold qhaZ
  rw[s1,s3,s4]
  refine rd_step (a0:=0) (by omega) (by omega) o4 y4 x4 rk hg hl (tr.next (by omega) hnd (by rw[hN]; exact hn4) (by decide)) fun h5 hI=>?_
  unfold qgZZ
  simp -implicitDefEqProofs[s4,hw,s1,s3]
  exact⟨hI,by omega⟩
end Go.Proofs.YtcnphhhcknhhaaaGreat
namespace Go.Proofs.YtcnphhhcknhhaaaGreat
open Go Go.Den Go.MapKept
set_option linter.unusedSimpArgs false
set_option linter.unusedVariables false
set_option maxRecDepth 20000
def wrOp (x:OpD):OpD:={ x with kind:=1+x.kind % 3 }
theorem wrOp_w {x:OpD}(w:OpW x):OpW (wrOp x):=⟨(by show I64 (1+x.kind % 3); unfold I64; omega),w.i2,w.i3,w.i4,w.u1,w.s1⟩
variable {K:KTy}
theorem writing16_ok (x:OpD){h:Heap}{v:Value}(ho:One v)(hk:∀ h',Ext h h'→K (.agg (opC (wrOp x) v).toArray) h'):callM P qlZ #[.agg (opC x v).toArray] h K:=by
 apply qlXZ
 unfold qdIZ
 refine nw_agg fun v1 h1 n1 e1 c1=>?_
 rw[zcOp]
 refine nw_intro fun v3 h3 n3 e3 c3=>?_
 have ne:=ne_fresh c1 n3
 have c1:=e3 _ _ c1
 simp -implicitDefEqProofs only[opC] at c1
 have m1:=tmod_rng x.kind (show (0:Int)<3 by omega)
 have m2:=Int.mul_tdiv_add_tmod x.kind 3
 have e2:(x.kind.tmod 3+3).tmod 3=x.kind % 3:=by rw[tmod_pos (by omega)]; omega
 have w1:IntKind.i64.wrap (x.kind.tmod 3+3)=x.kind.tmod 3+3:=wrap64_id (by omega) (by omega)
 have w2:IntKind.i64.wrap (1+x.kind % 3)=1+x.kind % 3:=wrap64_id (by omega) (by omega)
 simp -implicitDefEqProofs[ld_at c1,cel_of c1,stm_at c1,ld_at c3,cel_of c3,stm_at c3,stm_skip ne,stm_skip (Ne.symm ne),ld_skip ne,ld_skip (Ne.symm ne),cel_skip ne,cel_skip (Ne.symm ne),stm_upd,ld_same,cel_same,over,w1,e2,w2,ho.1,ho.2]
 refine kv (hk _ ?_) rfl
 exact ext_upd n1 (ext_upd (fresh_of e1 n3) (e1.trans e3))
end Go.Proofs.YtcnphhhcknhhaaaGreat
namespace Go.Proofs.YtcnphhhcknhhaaaGreat
open Go Go.Den Go.MapKept
set_option linter.unusedSimpArgs false
set_option linter.unusedVariables false
set_option maxRecDepth 20000
theorem ext_of_only {U:Tag→Prop}{h:Heap}{T':Tags}{h':Heap}(o:Only U (fun _=>[]) h T' h')(u:¬ U []):Ext h h':=by
 have:=(o.ext u).trans (fz_ext _ _)
 rw[fz_nil] at this; exact this
def c2:Cfg:=⟨2,2,16,4,1,100,0⟩
end Go.Proofs.YtcnphhhcknhhaaaGreat
namespace Go.Den
open Go
set_option linter.unusedVariables false
set_option linter.unusedSimpArgs false
structure Idle (p:PR)(m:Mine)(c:Cfg):Prop where
 h:∀ s,¬ p.holds s
 e:p.em m c=m
theorem PR.done_w {p:WP}(h:p.done=true):7≤p.at_:=by simpa [WP.done] using h
theorem Idle.done {n i:Nat}{c:Cfg}{p:PR}{m:Mine}(g:PA n i c p)(hd:p.done=true)(h1:1≤n):Idle p m c:=by
 cases p with
 | w p =>
  have h7:=PR.done_w (p:=p) hd
  exact⟨fun s hs=>by have:=hs.2.2.1; omega,rfl⟩
 | r p =>
  have h8:p.ph=8:=by simpa [PR.done] using hd
  exact⟨fun s=>RP.nh (by omega) (by omega) (by omega) (by omega),rfl⟩
 | h p =>
  have hd':p.steps≤p.at_:=by simpa [PR.done,HP.done] using hd
  have hk:=g.1.k
  by_cases ho:p.one=true
  ·refine⟨fun s hs=>?_,?_⟩
   ·have:=hs.1; rw[ho] at this; cases this
   ·show p.em m c=m
    rw[HP.em_def,if_neg (by simp[ho])]
  ·have ho:p.one=false:=by simpa using ho
   have hb:badB p.x=false:=by simp[HP.one] at ho; exact ho.1
   have h9:p.x.kind≠9:=by simp[HP.one] at ho; exact ho.2
   by_cases h8:p.x.kind=8
   ·have:=(HP.poll_of hb h8).2
    refine⟨fun s hs=>?_,?_⟩
    ·have h2:=hs.2; rw[if_pos h8] at h2; omega
    ·show p.em m c=m
     rw[HP.em_def,if_neg (by simp[h8])]
   ·have:=(HP.kind_of hb h9 h8).2
    refine⟨fun s hs=>?_,?_⟩
    ·have h2:=hs.2; rw[if_neg h8] at h2; omega
    ·show p.em m c=m
     rw[HP.em_def,if_neg (by omega)]
theorem Idle.w {p:WP}(m:Mine)(c:Cfg)(h:p.at_=0):Idle (.w p) m c:=⟨fun s hs=>by have:=hs.2.1; omega,rfl⟩
theorem Idle.r {p:RP}(m:Mine)(c:Cfg)(h:p.ph=0):Idle (.r p) m c:=⟨fun s=>RP.nh (by omega) (by omega) (by omega) (by omega),rfl⟩
def wd0 (c:Cfg)(n:Nat):Wd:=⟨hall0 c n,fun _=>none,fun _=>[]⟩
theorem LI.init {c:Cfg}{n:Nat}:LI (wd0 c n) (tbl0 c n):=by
 refine⟨rfl,rfl,rfl,fun s hs=>.inl ⟨rfl,rfl,rfl,rfl⟩,fun i p s _ h=>by simp[wd0] at h,fun i p h=>by simp[wd0] at h,⟨fun i hi=>?_,fun s i u hs hi hu=>?_⟩⟩
 ·have:allWs (tbl0 c n) i=[]:=by
   unfold allWs
   rw[List.flatMap_eq_nil_iff]
   intro s _
   rfl
  rw[this]; exact List.Perm.refl _
 ·simp[tbl0,feed0,wsOf] at hu
theorem TS.init {c:Cfg}(cw:CfgW c)(hr:rightB c=true){n:Nat}(hn:(n:Int)=c.stripes):TS 0 (tbl0 c n):=(HS.new cw hr hn).tbl
theorem LI.start {W:Wd}{M:Tbl}(x:LI W M){i:Nat}{p:PR}(hp:PA W.H.n i W.H.c p)(h0:Idle p (W.ms i) W.H.c)(hi:∀ q,W.ps i=some q→Idle q (W.ms i) W.H.c):LI { W with ps:=bset W.ps i (some p) } M:=by
 have hP:∀ j,bset W.ps i (some p) j=if j=i then some p else W.ps j:=fun j=>rfl
 refine⟨x.t,x.c,x.n,fun s hs=>?_,fun j q s hs hq hh=>?_,fun j q hq=>?_,?_⟩
 ·rcases x.st s hs with h | ⟨j,q,h1,h2,h3,h4⟩
  ·exact .inl h
  ·have hji:j≠i:=fun h=>by subst h; exact (hi q h1).h s h2
   exact .inr ⟨j,q,by show bset _ _ _ _=_; rw[hP,if_neg hji]; exact h1,h2,h3,h4⟩
 ·have hq:bset W.ps i (some p) j=some q:=hq
  rw[hP] at hq
  split at hq
  ·simp only[Option.some.injEq] at hq; subst hq; exact absurd hh (h0.h s)
  ·exact x.own j q s hs hq hh
 ·have hq:bset W.ps i (some p) j=some q:=hq
  rw[hP] at hq
  split at hq
  ·rename_i h; simp only[Option.some.injEq] at hq; subst hq; subst h; exact hp
  ·exact x.pa j q hq
 ·refine x.ws.same rfl rfl (fun _ _=>rfl) fun j hj=>?_
  unfold Wd.em
  show (match bset W.ps i (some p) j with | some p=>p.em (W.ms j) W.H.c | none=>W.ms j)=_
  rw[hP]
  by_cases h:j=i
  ·subst h
   rw[if_pos rfl]
   dsimp only
   rw[h0.e]
   cases hq:W.ps j with
   | none=>rfl
   | some q=>exact (hi q hq).e.symm
  ·rw[if_neg h]<;>rfl
end Go.Den
namespace Go.Proofs.YtcnphhhcknhhaaaGreat
open Go Go.Den Go.MapKept
set_option linter.unusedSimpArgs false
set_option linter.unusedVariables false
set_option maxRecDepth 20000
def UW (t:Tag):Prop:=pre [1] t∨pre [2] t
theorem UW.nil:¬ UW []:=by rintro (h | h)<;>simp[pre] at h
theorem UW.two (i:Nat){t:Tag}(h:two (pre [2,i]) (pre [1]) t):UW t:=h.elim (fun h=>.inr (pre_trans (g:=[2]) (s:=[i]) h)) .inl
theorem g2i (i:Nat):Gd [2,i]:=⟨1,[i],rfl⟩
theorem d12i (i:Nat):Off (pre [1]) [2,i]:=off_pre (g:=[]) (x:=[1]) (y:=[2,i]) (by simp) (by simp)
theorem d2i1 (i:Nat):Off (pre [2,i]) [1]:=off_pre (g:=[]) (x:=[2,i]) (y:=[1]) (by simp) (by simp)
theorem d2ij {i j:Nat}(h:i≠j):Off (pre [2,i]) [2,j]:=off_pre (g:=[2]) (x:=[i]) (y:=[j]) (by simpa using h) (by simpa using Ne.symm h)
theorem dtwo {i j:Nat}(h:i≠j):Off (two (pre [2,i]) (pre [1])) [2,j]:=fun t ht hh=>hh.elim (d2ij h t ht) (d12i j t ht)
def PRm (T:Tags)(h:Heap)(g:Tag)(q:Nat):PR→Prop
 | .w p=>WPR T h g q p
 | .r p=>RPR T h g q p
 | .h _=>False
theorem PRm.kp {U:Tag→Prop}{T T':Tags}{h h':Heap}{g:Tag}{q:Nat}{p:PR}(x:PRm T h g q p)(k:Kp U T h T' h')(o:Off U g)(n:¬ U []):PRm T' h' g q p:=by
 cases p with
 | w p=>exact WPR.kp x k o n
 | r p=>exact RPR.kp x k o n
 | h p=>exact x
structure WdM (T:Tags)(h:Heap)(hp:Nat)(A:Nat→Nat)(W:Wd):Prop where
 hl:HallR T h [1] hp W.H
 ps:∀ i p,W.ps i=some p→PRm T h [2,i] (A i) p
theorem WdM.up {U:Tag→Prop}{T T':Tags}{h h':Heap}{hp:Nat}{A:Nat→Nat}{W:Wd}(x:WdM T h hp A W)(o:Only U T h T' h')(f:∀ t,UW t→¬ U t)(n:¬ U []):WdM T' h' hp A W :=
 ⟨x.hl.up o (fun t ht=>f t (.inl ht)) n,fun i p hp=>(x.ps i p hp).kp o.k (fun t ht=>f t (.inr (pre_trans (g:=[2]) (s:=[i]) ht))) n⟩
theorem WdM.ext {T:Tags}{h h':Heap}{hp:Nat}{A:Nat→Nat}{W:Wd}(x:WdM T h hp A W)(w:Wf T h)(e:Ext h h'):WdM T h' hp A W:=x.up (Only.of_ext (U:=non) w e) (fun _ _ h=>h) (not_non _)
structure WdK (k:Nat)(W:Wd)(M:Tbl):Prop where
 li:LI W M
 hs:HS k W.H
 ts:TS k M
theorem WdK.step {k:Nat}{W:Wd}{M:Tbl}(x:WdK k W M)(hk:k<100000){i:Nat}{p:PR}(hp:W.ps i=some p)(n:Int):WdK (k+1) (W.step i n) (p.tb W.H M) :=
 have y:=x.li.step x.hs hk x.ts hp n
 ⟨y.1,y.2.1,y.2.2⟩
theorem WdM.put {U:Tag→Prop}{T T':Tags}{h h':Heap}{hp i:Nat}{A:Nat→Nat}{W:Wd}{p:PR}(x:WdM T h hp A W)(o:Only U T h T' h')(u:∀ j,j≠i→Off U [2,j])(n:¬ U []){k:Int}(hp':W.ps i=some p)
  (y':HallR T' h' [1] hp (p.step (W.ms i) W.H k).2.2) (x':PRm T' h' [2,i] (A i) (p.step (W.ms i) W.H k).1):WdM T' h' hp A (W.step i k):=by
 refine⟨?_,fun j q hq=>?_⟩
 ·have:(W.step i k).H=(p.step (W.ms i) W.H k).2.2:=by simp only[Wd.step,hp']
  rw[this]; exact y'
 ·have hP:(W.step i k).ps j=if j=i then some (p.step (W.ms i) W.H k).1 else W.ps j:=by simp only[Wd.step,hp',bset]
  rw[hP] at hq
  split at hq
  ·rename_i hj; subst hj
   simp -implicitDefEqProofs only[Option.some.injEq] at hq; subst hq
   exact x'
  ·rename_i hj
   exact (x.ps j q hq).kp o.k (u j hj) n
variable {K:KTy}
theorem wdstep_w {T:Tags}{h:Heap}{hp k i:Nat}{A:Nat→Nat}{W:Wd}{M:Tbl}{p:WP}(n:Int)(w:Wf T h)(x:WdM T h hp A W)(y:WdK k W M)(hk:k<100000)(hp':W.ps i=some (.w p))
  (hK:∀ T' h',Only UW T h T' h'→WdM T' h' hp A (W.step i n)→K (.tuple #[]) h'):callM P qcfZ #[ptr (A i),ptr hp,.int .i64 n] h K:=by
 have hpa:=y.li.pa i _ hp'
 refine wstep_ok n w g1 (d12i i) (d2i1 i) (g2i i) (x.ps i _ hp') x.hl y.hs hk hpa.1 fun T' h' o x' y'=>?_
 exact hK T' h' (o.mono fun _=>UW.two i) (x.put o (fun j hj=>dtwo (Ne.symm hj)) (by rintro (h | h)<;>simp[pre] at h) hp' y' x')
theorem wdstep_r {T:Tags}{h:Heap}{hp k i:Nat}{A:Nat→Nat}{W:Wd}{M:Tbl}{p:RP}(n:Int)(w:Wf T h)(x:WdM T h hp A W)(y:WdK k W M)(hk:k<100000)(hp':W.ps i=some (.r p))
  (hK:∀ T' h',Only UW T h T' h'→WdM T' h' hp A (W.step i n)→K (.tuple #[]) h'):callM P qaxZ #[ptr (A i),ptr hp,.int .i64 n] h K:=by
 have hpa:=y.li.pa i _ hp'
 refine rstep_ok n w (g2i i) g1 (d12i i) (d2i1 i) (x.ps i _ hp') x.hl hpa.1.rg (y.hs.g hk) hpa.1.rs fun T' h' o y' x'=>?_
 exact hK T' h' (o.mono fun _ h=>UW.two i h.symm) (x.put o (fun j hj t ht h=>dtwo (Ne.symm hj) t ht h.symm) (by rintro (h | h)<;>simp[pre] at h) hp' y' x')
theorem wdnew_w {T:Tags}{h:Heap}{hp k i:Nat}{A:Nat→Nat}{W:Wd}{M:Tbl}(hi:i≤900)(o:OpD)(ow:OpW o)(hl:o.users.length<1000000){v:Value}(hv:Sl 1 StrR (fz T h) v o.users)(w:Wf T h)(x:WdM T h hp A W)(y:WdK k W M)(hi':∀ q,W.ps i=some q→Idle q (W.ms i) W.H.c)
  (hK:∀ T' h' q,Only non T h T' h'→WdM T' h' hp (bset A i q) { W with ps:=bset W.ps i (some (.w (wp0 W.H i o))) }→WdK k { W with ps:=bset W.ps i (some (.w (wp0 W.H i o))) } M→K (ptr q) h'):callM P qfIZ #[ptr hp,.int .i64 i,.agg (opC o v).toArray] h K:=by
 have n8:=y.hs.n8
 have nn:=y.hs.nn
 refine wnew_ok i o ow w (g2i i) x.hl hv hl (by omega) fun T' h' q o' nq x'=>?_
 have hst:=stripeOf_lt (u:=o.user) (n:=W.H.c.stripes) (by omega)
 have hsn:(stripeOf o.user W.H.c.stripes).toNat<W.H.n:=by omega
 refine hK T' h' q o' ⟨x.hl.up o' (Off.non _) (not_non _),fun j p hj=>?_⟩ ⟨y.li.start ?_ (Idle.w _ _ rfl) hi',y.hs,y.ts⟩
 ·have hj:bset W.ps i (some (.w (wp0 W.H i o))) j=some p:=hj
  by_cases hji:j=i
  ·subst hji
   rw[bset_same] at hj ⊢
   simp -implicitDefEqProofs only[Option.some.injEq] at hj; subst hj
   exact x'
  ·rw[bset_ne hji] at hj ⊢
   exact (x.ps j p hj).kp o'.k (Off.non _) (not_non _)
 ·refine⟨sect_g hsn (by omega) fun z hz=>?_,rfl,by simp[wp0,sect],fun z hz=>?_⟩
  ·split at hz
   ·cases hz
   ·cases hz; exact ow
  ·have hz:(if badB o then WK.bad else .op o) = .op z:=hz
   split at hz
   ·cases hz
   ·cases hz; rfl
theorem wd0M {T:Tags}{h:Heap}{hp:Nat}{c:Cfg}{n:Nat}(x:HallR T h [1] hp (hall0 c n))(A:Nat→Nat):WdM T h hp A (wd0 c n):=⟨x,fun i p h=>by simp[wd0] at h⟩
theorem wd0K {c:Cfg}(cw:CfgW c)(hr:rightB c=true){n:Nat}(hn:(n:Int)=c.stripes):WdK 0 (wd0 c n) (tbl0 c n):=⟨LI.init,HS.new cw hr hn,TS.init cw hr hn⟩
end Go.Proofs.YtcnphhhcknhhaaaGreat
namespace Go.Proofs.YtcnphhhcknhhaaaGreat
open Go Go.Den Go.MapKept
set_option linter.unusedSimpArgs false
set_option linter.unusedVariables false
set_option maxRecDepth 20000
theorem g3:Gd [3]:=⟨2,[],rfl⟩
end Go.Proofs.YtcnphhhcknhhaaaGreat
namespace Go.Den
open Go
set_option linter.unusedVariables false
set_option linter.unusedSimpArgs false
inductive Ot (k n:Nat) (p:RP):Prop
 | a (h:n<k) (ph:p.ph=0) (at_:p.at_=n) (va:p.valid=true)
 | b (h:k≤n∧n<2*k) (ph:p.ph=1) (at_:p.at_=n-k) (va:p.valid=true)
 | c (h:n=2*k) (ph:p.ph=2) (at_:p.at_=0) (va:p.valid=true)
 | d (h:2*k<n∧n≤3*k) (ph:p.ph=3) (at_:p.at_=n-2*k-1) (va:p.valid=true)
 | e (h:n=3*k+1) (ph:p.ph=8)
structure OtB (ss:List Nat)(n:Nat)(p:RP):Prop where
 eq:p.ss=ss
 ep:p.ph≠8→∀ j,p.ep j=0
 ot:Ot ss.length n p
theorem OtB.done {ss:List Nat}{n:Nat}{p:RP}(x:OtB ss n p):p.ph=8↔3*ss.length+1≤n:=by
 cases x.ot with
 | a h ph at_ va=>rw[ph]; constructor<;>intro h<;>omega
 | b h ph at_ va=>rw[ph]; constructor<;>intro h<;>omega
 | c h ph at_ va=>rw[ph]; constructor<;>intro h<;>omega
 | d h ph at_ va=>rw[ph]; constructor<;>intro h<;>omega
 | e h ph=>rw[ph]; constructor<;>intro _<;>omega
theorem OtB.ph {ss:List Nat}{n:Nat}{p:RP}(x:OtB ss n p):p.ph≠4∧p.ph≠5∧p.ph≠6∧p.ph≠7:=by
 cases x.ot<;>omega
theorem OtB.waits {ss:List Nat}{n:Nat}{p:RP}(x:OtB ss n p):p.waits = -1:=by simp[RP.waits,x.ph.1]
theorem OtB.en {ss:List Nat}{n:Nat}{p:RP}(x:OtB ss n p)(H:Hall):p.enabled H=!decide (p.ph=8):=by simp[RP.enabled,x.ph.1]
theorem OtB.le {ss:List Nat}{n:Nat}{p:RP}(x:OtB ss n p):n≤3*ss.length+1:=by
 cases x.ot<;>omega
theorem OtB.hall {ss:List Nat}{n:Nat}{p:RP}(x:OtB ss n p)(H:Hall)(m:Int):(p.step H m).2.ss=H.ss∧(p.step H m).2.c=H.c:=by
 have h:=x.ph
 unfold RP.step
 split
 ·exact⟨rfl,rfl⟩
 split
 ·exact⟨rfl,rfl⟩
 unfold RP.go
 split
 ·exact⟨rfl,rfl⟩
 split
 ·exact⟨rfl,rfl⟩
 split
 ·exact⟨rfl,rfl⟩
 split
 ·exact⟨rfl,rfl⟩
 split
 ·exact⟨rfl,rfl⟩
 rename_i he _ h0 h1 h2 h5 h3
 exfalso
 have:=x.en H
 cases x.ot<;>simp_all<;>omega
theorem OtB.next {ss:List Nat}{n:Nat}{p:RP}{H:Hall}(x:OtB ss n p)(hk:0<ss.length)(hv:∀ s∈ss,(H.ss s).v=0)(hc:0<evn H.c.epochs)(hn:p.ph≠8)(m:Int):OtB ss (n+1) (p.step H m).1:=by
 have hne:ss≠[]:=fun h=>by rw[h] at hk; simp at hk
 have b:=x.eq
 have hstep:p.step H m=p.go H m:=by simp[RP.step,x.en,hn,b,hne]
 have hk':p.k=ss.length:=by simp[RP.k,b]
 have hs:p.at_<ss.length→(H.ss p.s).v=0:=fun h=>hv _ (by
  have:p.s=ss[p.at_]'h:=by simp[RP.s,b,h]
  rw[this]; exact List.getElem_mem h)
 have ep:=x.ep hn
 rw[hstep]
 cases x.ot with
 | a h ph at_ va =>
  have hgo:(p.go H m).1=RP.next { p with ep:=epset p.ep p.at_ (H.ss p.s).v,spent:=p.spent || decide (evn H.c.epochs≤(H.ss p.s).v) } 1:=by simp[RP.go,ph]
  rw[hgo,hs (by omega)]
  have he:∀ j,epset p.ep p.at_ 0 j=0:=fun j=>by unfold epset; split; rfl; exact ep j
  by_cases hl:n+1<ss.length
  ·rw[RP.next_lt (by show p.at_+1<p.k; omega)]
   exact⟨b,fun _=>he,.a hl ph (by simp[at_]) va⟩
  ·rw[RP.next_ge (by show ¬ p.at_+1<p.k; omega)]
   exact⟨b,fun _=>he,.b (by omega) rfl (by simp; omega) va⟩
 | b h ph at_ va =>
  have hgo:(p.go H m).1=RP.next { p with seen:=seenset p.seen p.s (H.ss p.s).snap } 2:=by simp[RP.go,ph]
  rw[hgo]
  by_cases hl:n+1<2*ss.length
  ·rw[RP.next_lt (by show p.at_+1<p.k; omega)]
   exact⟨b,fun _=>ep,.b (by omega) ph (by simp; omega) va⟩
  ·rw[RP.next_ge (by show ¬ p.at_+1<p.k; omega)]
   exact⟨b,fun _=>ep,.c (by omega) rfl rfl va⟩
 | c h ph at_ va =>
  have hgo:(p.go H m).1={ p with t:=H.t,looked:=m,ph:=3 }:=by simp[RP.go,ph]
  rw[hgo]
  exact⟨b,fun _=>ep,.d (by omega) rfl (by simp; omega) va⟩
 | d h ph at_ va =>
  obtain⟨q,hq⟩:∃ q:RP,q={ p with valid:=p.valid && validB (p.ep p.at_) (H.ss p.s).v H.c.epochs }:=⟨_,rfl⟩
  have hgo:(p.go H m).1=(if q.last then (q.next 8).judge else q.next 8):=by simp[RP.go,ph,hq]
  have hqv:q.valid=true:=by
   rw[hq]
   show (p.valid && validB (p.ep p.at_) (H.ss p.s).v H.c.epochs)=true
   rw[ep,hs (by omega),va]
   simp[validB,hc]
  have q1:q.ss=p.ss∧q.ep=p.ep∧q.at_=p.at_∧q.k=p.k∧q.ph=p.ph:=by rw[hq]; exact⟨rfl,rfl,rfl,rfl,rfl⟩
  obtain⟨x1,x3,x4,x5,x9⟩:=q1
  rw[hgo]
  clear hgo hq
  by_cases hl:n+1≤3*ss.length
  ·have hlast:q.last=false:=by simp[RP.last,x4,x5,hk',at_]; omega
   rw[hlast]
   have:q.next 8={ q with at_:=q.at_+1 }:=RP.next_lt (by omega)
   simp only[Bool.false_eq_true,if_false,this]
   exact⟨x1.trans b,fun _ j=>by show q.ep j=0; rw[x3]; exact ep j,.d (by omega) (x9.trans ph) (by show q.at_+1=_; omega) hqv⟩
  ·have hlast:q.last=true:=by simp[RP.last,x4,x5,hk',at_]; omega
   rw[hlast]
   have:q.next 8={ q with ph:=8,at_:=0 }:=RP.next_ge (by omega)
   simp only[if_true,this]
   have hj:RP.judge { q with ph:=8,at_:=0 }={ RP.answer { q with ph:=8,at_:=0 } with ph:=8 }:=by simp[RP.judge,hqv]
   rw[hj]
   refine⟨?_,fun h=>absurd rfl h,.e (by omega) rfl⟩
   show (RP.answer { q with ph:=8,at_:=0 }).ss=ss
   rw[answer_ss]; exact x1.trans b
 | e h ph=>exact absurd ph hn
theorem LI.ss_other {W:Wd}{M:Tbl}{k j:Nat}(x:LI W M)(hs:HS k W.H)(ts:TS j M){i:Nat}{p:WP}(hp:W.ps i=some (.w p))(n:Int){s:Nat}(hn:s<W.H.n)(h:s≠p.s):(W.step i n).H.ss s=W.H.ss s:=by
 have hH:(W.step i n).H=((PR.w p).step (W.ms i) W.H n).2.2:=by simp only[Wd.step,hp]
 rw[hH]
 by_cases he:(PR.w p).enabled W.H=true
 ·have l:=x.loc hs ts hp n he hn
  have hk:((p.step W.H n).1).s=p.s:=(wstep_k p W.H n).2.2
  have nh:¬ (PR.w p).holds s:=WP.not_holds h
  have nh':¬ ((PR.w p).step (W.ms i) W.H n).1.holds s:=WP.not_holds (p:=(p.step W.H n).1) (by rw[hk]; exact h)
  rcases l.b nh with ⟨h1,_⟩ | ⟨_,_,h3,_⟩
  ·exact h1
  ·exact absurd h3 nh'
 ·rw[pstep_off (by simpa using he)]
theorem OtB.start {H:Hall}{who:Int}{x:OpD}(hb:badB x=false)(hk:x.kind=4∨x.kind=5)(h1:1≤H.c.stripes)(h8:H.c.stripes≤8):OtB (stripesOf (usersOf x) H.c.stripes) 0 (rp0 H who x):=by
 have hss:(rp0 H who x).ss=stripesOf (usersOf x) H.c.stripes:=by simp[rp0,RP.begin,hb]
 exact⟨hss,fun _ j=>rfl,.a (stripesOf_pos h1 h8 (usersOf_bad hb hk).1) rfl rfl rfl⟩
end Go.Den
namespace Go.Den
open Go
set_option linter.unusedVariables false
set_option linter.unusedSimpArgs false
theorem Wd.step_ps {W:Wd}{i j:Nat}{p:PR}(hp:W.ps i=some p)(n:Int):(W.step i n).ps j=if j=i then some (p.step (W.ms i) W.H n).1 else W.ps j:=by simp only[Wd.step,hp,bset]
section
variable {nw nm i k:Nat}{X:Nat→OpD}{want:Nat→Reply}{W:Wd}{M:Tbl}
end
end Go.Den
namespace Go.Proofs.YtcnphhhcknhhaaaGreat
open Go Go.Den Go.MapKept
set_option linter.unusedSimpArgs false
set_option linter.unusedVariables false
set_option maxRecDepth 20000
deriving instance DecidableEq for Reply
end Go.Proofs.YtcnphhhcknhhaaaGreat
namespace Go.Proofs.YtcnphhhcknhhaaaGreat
open Go Go.Den Go.MapKept
set_option linter.unusedSimpArgs false
set_option linter.unusedVariables false
set_option maxRecDepth 20000
theorem g4:Gd [4]:=⟨3,[],rfl⟩
end Go.Proofs.YtcnphhhcknhhaaaGreat
namespace Go.Proofs.YtcnphhhcknhhaaaGreat
open Go Go.Den Go.MapKept
set_option linter.unusedSimpArgs false
set_option linter.unusedVariables false
set_option maxRecDepth 20000
theorem u8At {F:Heap}{v:Value}{bs:List Int}(x:Sl 1 (IntR .u8) F v bs){i:Nat}(hi:i<bs.length):∃ b p,iaV (some (none,1)) v (.int .i64 i)=some (.pointer (some ⟨b,p,none⟩))∧(∀ h',Ext F h'→cel h' b p=some (.int .u8 bs[i]))∧0≤bs[i]∧bs[i]≤255:=by
 obtain⟨b,o,c,i1,i2,i3,i4⟩:=x.at (k:=.i64) (i:=i) (by omega) (by omega)
 simp -implicitDefEqProofs only[Int.toNat_natCast] at i3 i4
 subst i3
 have hw:=wf_u8 i4
 refine⟨b,o,i1,fun h' e=>?_,hw.1,hw.2⟩
 have:=(cels_get (cels_ext e i2)).2 0 (by simp)
 simpa using this
end Go.Proofs.YtcnphhhcknhhaaaGreat
namespace Go.Proofs.YtcnphhhcknhhaaaGreat
open Go Go.Den
set_option maxRecDepth 100000
set_option linter.unusedVariables false
set_option maxHeartbeats 40000000
def qfcZ (a:Heap)(b c:Value)(d:Post)(x0 x1 x2 e f g h i j k l m n o p q r s t u v:Value):Prop:=nwM (zc P qeZ) qeZ a fun w x=>nwM (zc P qeZ) qeZ x fun y z=>stM (some 7) w b z fun aa=>stM (some 7) y c aa fun ab=>d .normal [] (puts (envOf [x0,x1,x2]) [(3,e),(4,f),(6,(Value.bool false)),(18,g),(19,h),(20,h),(21,i),(22,j),(23,k),(24,l),(25,l),(26,m),(27,n),(28,o),(29,p),(30,p),(31,q),(32,r),(33,s),(34,t),(36,u),(38,v),(37,b),(39,c),(7,w),(8,y)]) ab
def qfdZ (a:Heap)(b c:Value)(d:Post)(x0 x1 x2 e f g h i j k l m n o p q r s t u v:Value):Prop:=nwM (zc P qeZ) qeZ a fun w x=>nwM (zc P qeZ) qeZ x fun y z=>stM (some 7) y b z fun aa=>stM (some 7) w c aa fun ab=>d .normal [] (puts (envOf [x0,x1,x2]) [(3,e),(4,f),(6,(Value.bool false)),(18,g),(19,h),(20,h),(21,i),(22,j),(23,k),(24,l),(25,l),(26,m),(27,n),(28,o),(29,p),(30,p),(31,q),(32,r),(33,s),(34,t),(36,u),(38,v),(37,b),(39,c),(8,w),(7,y)]) ab
def qfeZ (a:Heap)(b c:Value)(d:Post)(x0 x1 x2 e f g h i j k l m n o p q r s t u v:Value):Prop:=(qfcZ a b c d x0 x1 x2 e f g h i j k l m n o p q r s t u v)∧(qfdZ a b c d x0 x1 x2 e f g h i j k l m n o p q r s t u v)
def qffZ (a:Heap)(b c d:Value)(e:Post)(x0 x1 x2 f g h i j k l m n o p q r s t u v w:Value):Prop:=nwM (zc P qeZ) qeZ a fun x y=>stM (some 7) b c y fun z=>stM (some 7) x d z fun aa=>e .normal [] (puts (envOf [x0,x1,x2]) [(3,f),(4,g),(6,(Value.bool false)),(18,h),(19,i),(20,i),(21,j),(22,k),(23,l),(24,m),(25,m),(26,n),(27,o),(28,p),(29,q),(30,q),(31,r),(32,s),(33,t),(34,u),(36,v),(38,w),(37,c),(7,b),(39,d),(8,x)]) aa
def qeaZ (a:Heap)(b c d:Value)(e:Post)(x0 x1 x2 f g h i j k l m n o p q r s t u v w:Value):Prop:=nwM (zc P qeZ) qeZ a fun x y=>stM (some 7) x b y fun z=>stM (some 7) c d z fun aa=>e .normal [] (puts (envOf [x0,x1,x2]) [(3,f),(4,g),(6,(Value.bool false)),(18,h),(19,i),(20,i),(21,j),(22,k),(23,l),(24,m),(25,m),(26,n),(27,o),(28,p),(29,q),(30,q),(31,r),(32,s),(33,t),(34,u),(36,v),(38,w),(37,b),(8,c),(39,d),(7,x)]) aa
def qfgZ (a:Value)(b:Heap)(c d:Value)(e:Post)(x0 x1 x2 f g h i j k l m n o p q r s t u:Value):Prop:=ldV (some (some 7)) a b=some c∧(callM P qlZ #[c] b fun v w=>qfeZ w d v e x0 x1 x2 f a g h i j k l m n o p q r s t u c)∧(nwM (zc P qeZ) qeZ b fun x y=>ldV (some (some 7)) a y=some c∧(callM P qlZ #[c] y fun z aa=>qffZ aa x d z e x0 x1 x2 f a g h i j k l m n o p q r s t u c)∧(nwM (zc P qeZ) qeZ y fun ab ac=>ldV (some (some 7)) a ac=some c∧callM P qlZ #[c] ac fun ad ae=>stM (some 7) x d ae fun af=>stM (some 7) ab ad af fun ag=>e .normal [] (puts (envOf [x0,x1,x2]) [(3,f),(4,a),(6,(Value.bool false)),(18,g),(19,h),(20,h),(21,i),(22,j),(23,k),(24,l),(25,l),(26,m),(27,n),(28,o),(29,p),(30,p),(31,q),(32,r),(33,s),(34,t),(36,u),(38,c),(37,d),(7,x),(8,ab),(39,ad)]) ag))∧(nwM (zc P qeZ) qeZ b fun ah ai=>ldV (some (some 7)) a ai=some c∧(callM P qlZ #[c] ai fun aj ak=>qeaZ ak d ah aj e x0 x1 x2 f a g h i j k l m n o p q r s t u c)∧(nwM (zc P qeZ) qeZ ai fun al am=>ldV (some (some 7)) a am=some c∧callM P qlZ #[c] am fun an ao=>stM (some 7) al d ao fun ap=>stM (some 7) ah an ap fun aq=>e .normal [] (puts (envOf [x0,x1,x2]) [(3,f),(4,a),(6,(Value.bool false)),(18,g),(19,h),(20,h),(21,i),(22,j),(23,k),(24,l),(25,l),(26,m),(27,n),(28,o),(29,p),(30,p),(31,q),(32,r),(33,s),(34,t),(36,u),(38,c),(37,d),(8,ah),(7,al),(39,an)]) aq))
def qfhZ (a:Value)(b:Heap)(c d:Value)(e:Post)(x0 x1 x2 f g h i j k l m n o p q r s t:Value):Prop:=callM P qAZ #[a] b fun u v=>qfgZ c v d u e x0 x1 x2 f g h i j k l m n o p q r s t a
def qebZ (a:Heap)(b c d:Value)(e:Post)(x0 x1 x2 f g h i j k l m n o p q r s t u v w:Value):Prop:=nwM (zc P qeZ) qeZ a fun x y=>stM (some 7) b c y fun z=>stM (some 7) x d z fun aa=>e .normal [] (puts (envOf [x0,x1,x2]) [(3,f),(4,g),(6,(Value.bool false)),(18,h),(19,i),(20,i),(21,j),(22,k),(23,l),(24,m),(25,m),(26,n),(27,o),(28,p),(29,q),(30,q),(31,r),(32,s),(33,t),(34,u),(36,v),(38,w),(7,b),(37,c),(39,d),(8,x)]) aa
def qecZ (a:Value)(b:Heap)(c d e:Value)(f:Post)(x0 x1 x2 g h i j k l m n o p q r s t u v:Value):Prop:=ldV (some (some 7)) a b=some c∧(callM P qlZ #[c] b fun w x=>qebZ x d e w f x0 x1 x2 g a h i j k l m n o p q r s t u v c)∧(nwM (zc P qeZ) qeZ b fun y z=>ldV (some (some 7)) a z=some c∧callM P qlZ #[c] z fun aa ab=>stM (some 7) d e ab fun ac=>stM (some 7) y aa ac fun ad=>f .normal [] (puts (envOf [x0,x1,x2]) [(3,g),(4,a),(6,(Value.bool false)),(18,h),(19,i),(20,i),(21,j),(22,k),(23,l),(24,m),(25,m),(26,n),(27,o),(28,p),(29,q),(30,q),(31,r),(32,s),(33,t),(34,u),(36,v),(38,c),(7,d),(37,e),(8,y),(39,aa)]) ad)
def qedZ (a:Heap)(b c d e:Value)(f:Post)(x0 x1 x2 g h i j k l m n o p q r s t:Value):Prop:=nwM (zc P qeZ) qeZ a fun u v=>ldV (some (some 7)) b v=some c∧ldV (some (some 7)) d v=some e∧(callM P qAZ #[c] v fun w x=>qecZ d x e u w f x0 x1 x2 b g h i j k l m n o p q r s t c)∧(nwM (zc P qeZ) qeZ v fun y z=>ldV (some (some 7)) b z=some c∧ldV (some (some 7)) d z=some e∧callM P qAZ #[c] z fun aa ab=>ldV (some (some 7)) d ab=some e∧callM P qlZ #[e] ab fun ac ad=>stM (some 7) u aa ad fun ae=>stM (some 7) y ac ae fun af=>f .normal [] (puts (envOf [x0,x1,x2]) [(3,b),(4,d),(6,(Value.bool false)),(18,g),(19,h),(20,h),(21,i),(22,j),(23,k),(24,l),(25,l),(26,m),(27,n),(28,o),(29,p),(30,p),(31,q),(32,r),(33,s),(34,t),(36,c),(38,e),(7,u),(8,y),(37,aa),(39,ac)]) af)
def qeeZ (a:Heap)(b c d:Value)(e:Post)(x0 x1 x2 f g h i j k l m n o p q r s t u v w:Value):Prop:=nwM (zc P qeZ) qeZ a fun x y=>stM (some 7) x b y fun z=>stM (some 7) c d z fun aa=>e .normal [] (puts (envOf [x0,x1,x2]) [(3,f),(4,g),(6,(Value.bool false)),(18,h),(19,i),(20,i),(21,j),(22,k),(23,l),(24,m),(25,m),(26,n),(27,o),(28,p),(29,q),(30,q),(31,r),(32,s),(33,t),(34,u),(36,v),(38,w),(8,c),(37,b),(39,d),(7,x)]) aa
def qefZ (a:Value)(b:Heap)(c d e:Value)(f:Post)(x0 x1 x2 g h i j k l m n o p q r s t u v:Value):Prop:=ldV (some (some 7)) a b=some c∧(callM P qlZ #[c] b fun w x=>qeeZ x d e w f x0 x1 x2 g a h i j k l m n o p q r s t u v c)∧(nwM (zc P qeZ) qeZ b fun y z=>ldV (some (some 7)) a z=some c∧callM P qlZ #[c] z fun aa ab=>stM (some 7) y d ab fun ac=>stM (some 7) e aa ac fun ad=>f .normal [] (puts (envOf [x0,x1,x2]) [(3,g),(4,a),(6,(Value.bool false)),(18,h),(19,i),(20,i),(21,j),(22,k),(23,l),(24,m),(25,m),(26,n),(27,o),(28,p),(29,q),(30,q),(31,r),(32,s),(33,t),(34,u),(36,v),(38,c),(8,e),(37,d),(7,y),(39,aa)]) ad)
def qegZ (a:Heap)(b c d e:Value)(f:Post)(x0 x1 x2 g h i j k l m n o p q r s t:Value):Prop:=nwM (zc P qeZ) qeZ a fun u v=>ldV (some (some 7)) b v=some c∧ldV (some (some 7)) d v=some e∧(callM P qAZ #[c] v fun w x=>qefZ d x e w u f x0 x1 x2 b g h i j k l m n o p q r s t c)∧(nwM (zc P qeZ) qeZ v fun y z=>ldV (some (some 7)) b z=some c∧ldV (some (some 7)) d z=some e∧callM P qAZ #[c] z fun aa ab=>ldV (some (some 7)) d ab=some e∧callM P qlZ #[e] ab fun ac ad=>stM (some 7) y aa ad fun ae=>stM (some 7) u ac ae fun af=>f .normal [] (puts (envOf [x0,x1,x2]) [(3,b),(4,d),(6,(Value.bool false)),(18,g),(19,h),(20,h),(21,i),(22,j),(23,k),(24,l),(25,l),(26,m),(27,n),(28,o),(29,p),(30,p),(31,q),(32,r),(33,s),(34,t),(36,c),(38,e),(8,u),(7,y),(37,aa),(39,ac)]) af)
def qfiZ (a:Value)(b:Heap)(c:Value)(d:Post)(x0 x1 x2 e f g h i j k l m n o p q r:Value):Prop:=ov (ldV (some (some 7)) a b) fun s=>ov (ldV (some (some 7)) c b) fun t=>(qfhZ s b c t d x0 x1 x2 a e f g h i j k l m n o p q r)∧(qedZ b a s c t d x0 x1 x2 e f g h i j k l m n o p q r)∧(qegZ b a s c t d x0 x1 x2 e f g h i j k l m n o p q r)
def qkBZ (K:KTy)(m:List Nat)(a:Env)(b c d e f g h i j k l n o:Value)(p:Heap):Prop:=(retM P [.tmp 6] K) .ret m (puts a [(40,b),(41,c),(42,c),(43,d),(44,e),(45,f),(47,g),(48,h),(46,h),(49,i),(50,j),(9,i),(10,j),(51,j),(52,k),(53,k),(54,l),(55,n),(56,o),(6,(Value.bool false))]) p
def qehZ (a:Post)(m:List Nat)(b:Env)(c d e f g h i j k:Value)(l:Heap):Prop:=a .ret m (puts b [(59,(b 12)),(60,(b 11)),(61,c),(62,d),(65,(b 9)),(66,(b 11)),(67,(b 12)),(68,e),(69,f),(71,(b 9)),(72,g),(73,h),(70,i),(74,j),(75,k),(6,(Value.bool true))]) l
def qeiZ (a:Env)(b:Post)(m:List Nat)(c d e f g h i j k:Value)(l:Heap):Prop:=ov (binV BinOp.add 2 true (a 12) (Value.int IntKind.i64 1)) fun n=>b .normal m (puts a [(59,(a 12)),(60,(a 11)),(61,c),(62,d),(65,(a 9)),(66,(a 11)),(67,(a 12)),(68,e),(69,f),(71,(a 9)),(72,g),(73,h),(70,i),(74,j),(75,k),(63,(a 12)),(64,n),(12,n)]) l
def qejZ (a:Value)(b:Heap)(c:Value)(d:Env)(e:Value)(f:Post)(m:List Nat)(g h i j:Value):Prop:=ldV (some none) a b=some c∧callM P qaLZ #[(d 9),c] b fun k l=>ov (binV BinOp.eql 2 false e k) fun n=>cdM n (qehZ f m d g h i j a c e k n l) (qeiZ d f m g h i j a c e k n l)
def qekZ (a:Env)(b:Heap)(c:Post)(m:List Nat)(d e:Value):Prop:=ov (iaV (some (none,1)) (a 11) (a 12)) fun f=>ov (ldV (some none) f b) fun g=>ov (faV (some 1) (a 8)) fun h=>ov (ldV (some none) h b) fun i=>callM P qaLZ #[(a 9),g] b fun j k=>qejZ h k i a j c m d e f g
def qelZ (a:Env)(b:Heap)(c:Post)(m:List Nat):Prop:=ov (lnV 7 (a 11)) fun d=>ov (binV BinOp.lss 2 false (a 12) d) fun e=>cdM e (qekZ a b c m d e) (c (.exit 0) m (puts a [(59,(a 12)),(60,(a 11)),(61,d),(62,e)]) b)
def qemZ (m:List Nat)(a:Env)(b c d e f g h i j k l n o p q:Value)(r:Heap)(s:Post):Prop:=loopM (fun m t u v=>qelZ t u v m) m (puts a [(40,b),(41,c),(42,c),(43,d),(44,e),(45,f),(47,g),(48,h),(46,h),(49,i),(50,j),(9,i),(10,j),(51,j),(52,k),(53,k),(54,l),(55,n),(56,o),(57,p),(58,q),(11,q),(12,(Value.int IntKind.i64 0))]) r (blkM 0 s)
def qenZ (a:Env)(b:Post)(m:List Nat)(c d e f g h i j:Value)(k:Heap):Prop:=ov (binV BinOp.add 2 true (a 15) (Value.int IntKind.i64 1)) fun l=>b .normal m (puts a [(82,(a 16)),(83,(a 2)),(84,c),(85,d),(88,(a 2)),(89,(a 16)),(90,e),(91,f),(92,g),(93,h),(94,(a 13)),(95,i),(96,j),(97,(a 15)),(98,l),(15,l)]) k
def qeoZ (a:Post)(m:List Nat)(b:Env)(c d e f g h i j:Value)(k:Heap):Prop:=a .normal m (puts b [(82,(b 16)),(83,(b 2)),(84,c),(85,d),(88,(b 2)),(89,(b 16)),(90,e),(91,f),(92,g),(93,h),(94,(b 13)),(95,i),(96,j)]) k
def qepZ (a:Value)(b:Env)(c:Post)(m:List Nat)(d e f g h i:Value)(j:Heap):Prop:=ov (unV UnOp.not a) fun k=>cdM k (qenZ b c m d e f g h i a k j) (qeoZ c m b d e f g h i a k j)
def qeqZ (a:Env)(b:Heap)(c:Post)(m:List Nat)(d e f g h i:Value):Prop:=callM P qbqZ #[(a 13)] b fun j k=>qepZ j a c m d e f g h i k
def qcCZ (a:Env)(b:Heap)(c:Post)(m:List Nat):Prop:=callM P qaxZ #[(a 13),(a 9),(a 16)] b fun d e=>c (.exit 3) m (puts a [(99,(a 13)),(100,(a 9)),(101,(a 16)),(102,d)]) e
def qerZ (a:Env)(b:Heap)(m:List Nat)(c d e f g h:Value)(i:Post):Prop:=seqM (fun j=>qeqZ a b j m c d e f g h) (fun m k l=>qcCZ k l i m) i
def qesZ (a:Post)(m:List Nat)(b:Env)(c d e f g h:Value)(i:Heap):Prop:=a .normal m (puts b [(82,(b 16)),(83,(b 2)),(84,c),(85,d),(88,(b 2)),(89,(b 16)),(90,e),(91,f),(92,g),(93,h)]) i
def qetZ (a:Env)(b:Heap)(m:List Nat)(c d:Value)(e:Post):Prop:=ov (iaV (some (none,1)) (a 2) (a 16)) fun f=>ov (ldV (some none) f b) fun g=>ov (binV BinOp.rem 2 true g (Value.int IntKind.u8 2)) fun h=>ov (binV BinOp.eql 2 true h (Value.int IntKind.u8 0)) fun i=>cdM i (qerZ a b m c d f g h i e) (qesZ e m a c d f g h i b)
def qeuZ (a:Env)(b:Heap)(c:Post)(m:List Nat)(d:Value):Prop:=ov (ldV (some (some 7)) (a 8) b) fun e=>callM P qfIZ #[(a 9),(Value.int IntKind.i64 1),e] b fun f g=>c .normal m (puts a [(103,(a 14)),(104,d),(105,(a 9)),(106,e),(107,f),(14,f)]) g
def qevZ (a:Value)(b:Env)(c:Heap)(d:Post)(m:List Nat):Prop:=cdM a (qeuZ b c d m a) (d .normal m (puts b [(103,(b 14)),(104,a)]) c)
def qewZ (a:Env)(b:Heap)(c:Post)(m:List Nat):Prop:=callM P qdvZ #[(a 14)] b fun d e=>qevZ d a e c m
def qcDZ (a:Env)(b:Heap)(c:Post)(m:List Nat):Prop:=callM P qcfZ #[(a 14),(a 9),(a 16)] b fun d e=>c .normal m (puts a [(108,(a 14)),(109,(a 9)),(110,(a 16)),(111,d)]) e
def qexZ (a:Env)(b:Heap)(m:List Nat)(c:Post):Prop:=seqM (fun d=>qewZ a b d m) (fun m e f=>qcDZ e f c m) (blkM 3 c)
def qeyZ (a:Env)(b:Heap)(m:List Nat)(c d:Value)(e:Post):Prop:=seqM (fun f=>qetZ a b m c d f) (fun m g h=>qexZ g h m e) (blkM 3 e)
def qezZ (a:Env)(b:Heap)(m:List Nat)(c d:Value)(e:Post):Prop:=seqM (fun f=>qeyZ a b m c d f) (fun m g h=>ov (binV BinOp.add 2 true (g 16) (Value.int IntKind.i64 1)) fun i=>e .normal m (puts g [(86,(g 16)),(87,i),(16,i)]) h) e
def qeAZ (a:Env)(b:Heap)(m:List Nat)(c:Post):Prop:=ov (lnV 7 (a 2)) fun d=>ov (binV BinOp.lss 2 false (a 16) d) fun e=>cdM e (qezZ a b m d e c) (c (.exit 2) m (puts a [(82,(a 16)),(83,(a 2)),(84,d),(85,e)]) b)
def qeBZ (m:List Nat)(a:Env)(b c d e:Value)(f:Heap)(g:Post):Prop:=loopM (fun m h i j=>qeAZ h i m j) m (puts a [(76,(a 9)),(77,b),(78,c),(13,c),(79,(a 9)),(80,d),(81,e),(14,e),(15,(Value.int IntKind.i64 0)),(16,(Value.int IntKind.i64 0))]) f (blkM 2 g)
def qeCZ (a:Value)(b:Env)(c:Value)(d:Heap)(K:KTy)(m:List Nat)(e:Value):Prop:=ov (binV BinOp.mul 2 true (Value.int IntKind.i64 3) a) fun f=>ov (binV BinOp.add 2 true f (Value.int IntKind.i64 1)) fun g=>ov (binV BinOp.geq 2 false (b 15) g) fun h=>ov (binV BinOp.eql 1 false c h) fun i=>gM (isB i true) (fun j=>j (b 15) d) d fun k l=>gM (isB i true) (fun n=>n a l) l fun o p=>gM (isB i true) (fun q=>ov (binV BinOp.mul 2 true (Value.int IntKind.i64 3) o) fun r=>q r p) p fun s t=>gM (isB i true) (fun u=>ov (binV BinOp.add 2 true s (Value.int IntKind.i64 1)) fun v=>u v t) t fun w x=>gM (isB i true) (fun y=>ov (binV BinOp.leq 2 false k w) fun z=>y z x) x fun aa ab=>ov (pkV i aa (Value.bool false)) fun ac=>gM (isB ac true) (fun ad=>ad (b 13) ab) ab fun ae af=>gM (isB ac true) (fun ag=>callM P qcgZ #[ae] af fun ah ai=>ag ah ai) af fun aj ak=>gM (isB ac true) (fun al=>ov (binV BinOp.eql 2 true aj (Value.int IntKind.i64 (-1))) fun am=>al am ak) ak fun an ao=>ov (pkV ac an (Value.bool false)) fun ap=>(retM P [.tmp 6] K) .ret m (puts b [(112,(b 9)),(113,e),(114,a),(17,a),(115,(b 13)),(116,c),(117,(b 15)),(118,a),(119,f),(120,g),(121,h),(122,i),(123,i),(124,k),(125,o),(126,s),(127,w),(128,aa),(129,ac),(130,ac),(131,ae),(132,aj),(133,an),(134,ap),(6,ap)]) ao
def qeDZ (a:Env)(b:Heap)(c:Value)(K:KTy)(m:List Nat)(d:Value):Prop:=callM P qbqZ #[(a 13)] b fun e f=>qeCZ c a e f K m d
def qeEZ (a:Env)(b:Heap)(K:KTy)(m:List Nat):Prop:=ov (ldV (some (some 7)) (a 7) b) fun c=>callM P qdsZ #[(a 9),c] b fun d e=>qeDZ a e d K m c
def qeFZ (m:List Nat)(a:Env)(b c d e:Value)(f:Heap)(K:KTy):Prop:=seqM (fun g=>qeBZ m a b c d e f g) (fun m h i=>qeEZ h i K m) (retM P [.tmp 6] K)
def qeGZ (a:Env)(b:Heap)(m:List Nat)(c d:Value)(K:KTy):Prop:=ov (ldV (some (some 7)) (a 8) b) fun e=>callM P qfIZ #[(a 9),(Value.int IntKind.i64 1),e] b fun f g=>qeFZ m a c d e f g K
def qeHZ (a:Env)(b:Heap)(m:List Nat)(K:KTy):Prop:=ov (ldV (some (some 7)) (a 7) b) fun c=>callM P qgQZ #[(a 9),(Value.int IntKind.i64 0),c] b fun d e=>qeGZ a e m c d K
def qeIZ (m:List Nat)(a:Env)(b c d e f g h i j k l n o p q:Value)(r:Heap)(K:KTy):Prop:=seqM (fun s=>qemZ m a b c d e f g h i j k l n o p q r s) (fun m t u=>qeHZ t u m K) (retM P [.tmp 6] K)
def qeJZ (a:Env)(b:Heap)(m:List Nat)(c d e f g h i j k l n o p:Value)(K:KTy):Prop:=ov (ldV (some (some 7)) (a 7) b) fun q=>callM P qdQZ #[q] b fun r s=>qeIZ m a c d e f g h i j k l n o p q r s K
def qeKZ (a:Value)(b:Heap)(K:KTy)(m:List Nat)(c:Env)(d e f g h i:Value):Prop:=ov (exV a 0) fun j=>ov (exV a 1) fun k=>ov (binV BinOp.neq 2 true k (Value.int IntKind.i64 0)) fun l=>gM (isB l false) (fun n=>n j b) b fun o p=>gM (isB l false) (fun q=>ov (binV BinOp.eql 4 true o (Value.pointer none)) fun r=>q r p) p fun s t=>ov (pkV l (Value.bool true) s) fun u=>cdM u (qkBZ K m c d e f g h i a j k l o s u t) (qeJZ c t m d e f g h i a j k l o s u K)
def qeLZ (a:Value)(b:Heap)(K:KTy)(m:List Nat)(c:Env)(d e f g h:Value):Prop:=callM P qjUZ #[a] b fun i j=>qeKZ i j K m c d e f g h a
def qeMZ (a:Heap)(K:KTy)(m:List Nat)(b:Env)(c d e f g:Value):Prop:=callM P qcGZ #[] a fun h i=>qeLZ h i K m b c d e f g
def qeNZ (a:Value)(b:Env)(c:Heap)(K:KTy)(m:List Nat)(d:Value):Prop:=gM (isB a false) (fun e=>ov (ldV (some (some 7)) (b 8) c) fun f=>e f c) c fun g h=>gM (isB a false) (fun i=>callM P qdOZ #[g] h fun j k=>i j k) h fun l n=>ov (pkV a (Value.bool true) l) fun o=>cdM o ((retM P [.tmp 6] K) .ret m (puts b [(40,d),(41,a),(42,a),(43,g),(44,l),(45,o),(6,(Value.bool true))]) n) (qeMZ n K m b d a g l o)
def qaKZ (a:Env)(b:Heap)(K:KTy)(m:List Nat):Prop:=ov (ldV (some (some 7)) (a 7) b) fun c=>callM P qdOZ #[c] b fun d e=>qeNZ d a e K m c
def qfjZ (a:Value)(b:Heap)(c x0 x1 x2 d e f g h i j k l n o p q r:Value)(K:KTy):Prop:=seqM (fun s=>qfiZ a b c s x0 x1 x2 d e f g h i j k l n o p q r) (fun m t u=>qaKZ t u K m) (retM P [.tmp 6] K)
def qfkZ (a b:Value)(c:Heap)(d x2:Value)(K:KTy)(x0 x1:Value):Prop:=ov (unV UnOp.not a) fun e=>gM (isB e false) (fun f=>ov (ldV (some (some 7)) b c) fun g=>f g c) c fun h i=>gM (isB e false) (fun j=>callM P qcFZ #[h] i fun k l=>j k l) i fun m n=>gM (isB e false) (fun o=>ov (unV UnOp.not m) fun p=>o p n) n fun q r=>ov (pkV e (Value.bool true) q) fun s=>gM (isB s false) (fun t=>ov (ldV (some (some 7)) d r) fun u=>t u r) r fun v w=>gM (isB s false) (fun x=>callM P qcFZ #[v] w fun y z=>x y z) w fun aa ab=>gM (isB s false) (fun ac=>ov (unV UnOp.not aa) fun ad=>ac ad ab) ab fun ae af=>ov (pkV s (Value.bool true) ae) fun ag=>gM (isB ag false) (fun ah=>ah x2 af) af fun ai aj=>gM (isB ag false) (fun ak=>ov (lnV 7 ai) fun al=>ak al aj) aj fun am an=>gM (isB ag false) (fun ao=>ov (binV BinOp.gtr 2 true am (Value.int IntKind.i64 300)) fun ap=>ao ap an) an fun aq ar=>ov (pkV ag (Value.bool true) aq) fun au=>cdM au (callM P qcHZ #[] ar fun av aw=>K av aw) (qfjZ b ar d x0 x1 x2 a e h m q s v aa ae ag ai am aq au K)
def qdcZ (x0 x1 x2:Value)(h:Heap)(K:KTy):Prop:=nwM (some x0.cells) qeZ h fun a b=>nwM (some x1.cells) qeZ b fun c d=>callM P qcHZ #[] d fun e f=>qfkZ e a f c x2 K x0 x1
variable {K:KTy}
theorem qlyZ {x0 x1 x2:Value}{h:Heap}(hd:qdcZ x0 x1 x2 h K):callM P qcWZ #[x0,x1,x2] h K :=
 call_of good mixed (fn:=Tryz.f17) (args:=[x0,x1,x2]) Tryz.func17 rfl (by kernel_rfl) (of_decide_eq_true rfl) (B:=qdcZ x0 x1 x2 h K) (by kernel_rfl) hd
end Go.Proofs.YtcnphhhcknhhaaaGreat
namespace Go.Proofs.YtcnphhhcknhhaaaGreat
open Go Go.Den Go.MapKept
set_option linter.unusedSimpArgs false
set_option linter.unusedVariables false
set_option maxRecDepth 20000
theorem rdOp_w {x:OpD}(w:OpW x):OpW (rdOp x):=⟨(by show I64 (4+x.kind % 2); unfold I64; omega),w.i2,w.i3,w.i4,w.u1,w.s1⟩
theorem rdOp_k (x:OpD):(rdOp x).kind=4∨(rdOp x).kind=5:=by
 show 4+x.kind % 2=4∨4+x.kind % 2=5
 omega
theorem rp0_pa2 {i:Nat}{H:Hall}{o:OpD}{k:Nat}(hs:HS k H)(hk:k<100000)(hi:i≤900)(hx:o.kind=4∨o.kind=5):PA H.n i H.c (.r (rp0 H i o)):=by
 have n8:=hs.n8
 have nn:=hs.nn
 have hr:=hs.rt
 simp -implicitDefEqProofs only[rightB,decide_eq_true_eq] at hr
 exact⟨RK.rp0 (hs.g hk) (by omega) (by omega) (by omega) i (by omega) o fun hb=>(usersOf_bad hb hx).2,rfl,stripesOf_nodup _ _⟩
variable {K:KTy}
theorem wdnew_r {T:Tags}{h:Heap}{hp k i:Nat}{A:Nat→Nat}{W:Wd}{M:Tbl}(hkk:k<100000)(hi:i≤900)(o:OpD)(ow:OpW o)(hx:o.kind=4∨o.kind=5)(hl:o.users.length<1000000){v:Value}(hv:Sl 1 StrR (fz T h) v o.users)(w:Wf T h)(x:WdM T h hp A W)(y:WdK k W M)(hi':∀ q,W.ps i=some q→Idle q (W.ms i) W.H.c)
  (hK:∀ T' h' q,Only (pre [2,i]) T h T' h'→WdM T' h' hp (bset A i q) { W with ps:=bset W.ps i (some (.r (rp0 W.H i o))) }→WdK k { W with ps:=bset W.ps i (some (.r (rp0 W.H i o))) } M→K (ptr q) h'):callM P qgQZ #[ptr hp,.int .i64 i,.agg (opC o v).toArray] h K:=by
 have n8:=y.hs.n8
 have nn:=y.hs.nn
 refine rnew_ok i o ow w (g2i i) g1 (d2i1 i) x.hl hv hl (by omega) fun T' h' q o' x'=>?_
 refine hK T' h' q o' ⟨x.hl.up o' (d2i1 i) (by simp[pre]),fun j p hj=>?_⟩ ⟨y.li.start (rp0_pa2 y.hs hkk hi hx) (Idle.r _ _ rfl) hi',y.hs,y.ts⟩
 have hj:bset W.ps i (some (.r (rp0 W.H i o))) j=some p:=hj
 by_cases hji:j=i
 ·subst hji
  rw[bset_same] at hj ⊢
  simp -implicitDefEqProofs only[Option.some.injEq] at hj; subst hj
  exact x'
 ·rw[bset_ne hji] at hj ⊢
  exact (x.ps j p hj).kp o'.k (d2ij (Ne.symm hji)) (by simp[pre])
structure RoI (T5:Tags)(h5:Heap)(hp rp n did st:Nat)(ss:List Nat)(av:Value)(W:Wd)(M:Tbl)(A:Nat→Nat)(p:RP)(q:WP)(T':Tags)(h':Heap):Prop where
 o:Only UW T5 h5 T' h'
 x:WdM T' h' hp A W
 k:WdK n W M
 p0:W.ps 0=some (.r p)
 p1:W.ps 1=some (.w q)
 a0:A 0=rp
 av:av=ptr (A 1)
 ot:OtB ss did p
 v0:∀ s∈ss,s<3∧(W.H.ss s).v=0
 qs:q.s=st
 c:W.H.c=small
 n3:W.H.n=3
def RoJ (T5:Tags)(h5:Heap)(hp rp n st:Nat)(ss:List Nat)(dv av:Value)(h':Heap):Prop:=∃ (T':Tags) (W:Wd) (M:Tbl) (A:Nat→Nat) (p:RP) (q:WP) (did:Nat),RoI T5 h5 hp rp n did st ss av W M A p q T' h'∧dv = .int .i64 did
section
variable {T5:Tags}{h5:Heap}{hp rp n did st:Nat}{ss:List Nat}{av:Value}{W:Wd}{M:Tbl}{A:Nat→Nat}{p:RP}{q:WP}{T':Tags}{h':Heap}
theorem RoI.ext (y:RoI T5 h5 hp rp n did st ss av W M A p q T' h'){h'':Heap}(e:Ext h' h''):RoI T5 h5 hp rp n did st ss av W M A p q T' h'' :=
 ⟨y.o.up (Only.of_ext (U:=non) y.o.wf e) non_up,y.x.ext y.o.wf e,y.k,y.p0,y.p1,y.a0,y.av,y.ot,y.v0,y.qs,y.c,y.n3⟩
theorem ro_read (y:RoI T5 h5 hp rp n did st ss av W M A p q T' h')(hn:n<100000)(h0:0<ss.length)
  (hK:∀ T'' h'' W' M' p',RoI T5 h5 hp rp (n+1) (if p.ph=8 then did else did+1) st ss av W' M' A p' q T'' h''→K (.tuple #[]) h''):callM P qaxZ #[ptr rp,ptr hp,.int .i64 n] h' K:=by
 rw[← y.a0]
 refine wdstep_r n y.o.wf y.x y.k hn y.p0 fun T2 h2 o2 x2=>?_
 have hst:W.step 0 n=⟨(p.step W.H n).2,bset W.ps 0 (some (.r (p.step W.H n).1)),bset W.ms 0 (W.ms 0)⟩:=by simp only[Wd.step,y.p0,PR.step]
 obtain⟨e1,e2⟩:=y.ot.hall W.H n
 have hnn:=(pstep_n (m:=W.ms 0) y.k.hs n hn (y.k.li.pa 0 _ y.p0)).1
 refine hK T2 h2 _ _ (p.step W.H n).1 ⟨y.o.trans o2,x2,y.k.step hn y.p0 n,by rw[Wd.step_ps y.p0,if_pos rfl]; rfl,by rw[Wd.step_ps y.p0,if_neg (by omega)]; exact y.p1,y.a0,y.av,?_,fun s hs=>?_,y.qs,by rw[hst]; exact e2.trans y.c,by rw[hst]; exact hnn.trans y.n3⟩
 ·by_cases h8:p.ph=8
  ·rw[if_pos h8]
   have:p.step W.H n=(p,W.H):=by simp[RP.step,y.ot.en,h8]
   rw[this]; exact y.ot
  ·rw[if_neg h8]
   exact y.ot.next h0 (fun s hs=>(y.v0 s hs).2) (by rw[y.c]; decide) h8 n
 ·rw[hst]
  refine⟨(y.v0 s hs).1,?_⟩
  show ((p.step W.H n).2.ss s).v=0
  rw[e1]; exact (y.v0 s hs).2
theorem ro_write (y:RoI T5 h5 hp rp n did st ss av W M A p q T' h')(hn:n<100000)(hst:st ∉ ss)
  (hK:∀ T'' h'' W' M' q',RoI T5 h5 hp rp (n+1) did st ss av W' M' A p q' T'' h''→K (.tuple #[]) h''):callM P qcfZ #[av,ptr hp,.int .i64 n] h' K:=by
 rw[y.av]
 refine wdstep_w n y.o.wf y.x y.k hn y.p1 fun T2 h2 o2 x2=>?_
 have hst':W.step 1 n=⟨(q.step W.H n).2,bset W.ps 1 (some (.w (q.step W.H n).1)),bset W.ms 1 (W.ms 1)⟩:=by simp only[Wd.step,y.p1,PR.step]
 have hnn:=wstep_n q W.H n
 refine hK T2 h2 _ _ (q.step W.H n).1 ⟨y.o.trans o2,x2,y.k.step hn y.p1 n,by rw[Wd.step_ps y.p1,if_neg (by omega)]; exact y.p0,by rw[Wd.step_ps y.p1,if_pos rfl]; rfl,y.a0,y.av,y.ot,fun s hs=>?_,by rw[(wstep_k q W.H n).2.2]; exact y.qs,by rw[hst']; exact hnn.2.trans y.c,by rw[hst']; exact hnn.1.trans y.n3⟩
 obtain⟨v1,v2⟩:=y.v0 s hs
 have hss:=y.k.li.ss_other y.k.hs y.k.ts y.p1 n (s:=s) (by rw[y.n3]; exact v1) (fun h=>hst (by rw[← y.qs,← h]; exact hs))
 exact⟨v1,by rw[hss]; exact v2⟩
end
end Go.Proofs.YtcnphhhcknhhaaaGreat
namespace Go.Proofs.YtcnphhhcknhhaaaGreat
open Go Go.Den Go.MapKept
set_option linter.unusedSimpArgs false
set_option linter.unusedVariables false
set_option maxRecDepth 20000
theorem not_stripe {users:List ByteArray}{n:Int}{st:Nat}(h:∀ u∈users,stripeOf u n≠(st:Int)):st ∉ stripesOf users n:=fun hm=>by
 have:=(List.mem_filter.1 hm).2
 unfold inS at this
 rw[List.any_eq_true] at this
 obtain⟨u,hu,e⟩:=this
 exact h u hu (by simpa using e)
theorem users_short {x:OpD}(h:shortB x=true):∀ u∈usersOf x,u.size≤40:=fun u hu=>by
 simp -implicitDefEqProofs[shortB] at h
 unfold usersOf at hu
 split at hu
 ·simp at hu; subst hu; exact h.1
 ·split at hu
  ·exact h.2.2 u hu
  ·simp at hu
variable {K:KTy}
set_option maxHeartbeats 8000000 in
theorem roTail (x y:OpD)(xw:OpW x)(yw:OpW y)(sx:shortB x=true)(sy:shortB y=true)(ts:List Int)(tn:ts.length≤300){h:Heap}{ux uy tv:Value}(hx:Sl 1 StrR h ux x.users)(hy:Sl 1 StrR h uy y.users)(ht:Sl 1 (IntR .u8) h tv ts)(hk:∀ h',Ext h h'→K (.bool true) h')
  (va vb:Nat) (s:Env) (ca:h va=some (.cells (opC (rdOp x) ux).toArray qeZ (0,0))) (cb:h vb=some (.cells (opC (wrOp y) uy).toArray qeZ (0,0))) (s2:s 2=tv) (s7:s 7=ptr va) (s8:s 8=ptr vb):qaKZ s h K []:=by
 obtain⟨X,hX⟩:∃ X,X=rdOp x:=⟨_,rfl⟩
 obtain⟨Y,hY⟩:∃ Y,Y=wrOp y:=⟨_,rfl⟩
 have Xw:OpW X:=by rw[hX]; exact rdOp_w xw
 have Yw:OpW Y:=by rw[hY]; exact wrOp_w yw
 have Xk:X.kind=4∨X.kind=5:=by rw[hX]; exact rdOp_k x
 have Xu:X.users=x.users:=by rw[hX]; rfl
 have Yu:Y.users=y.users:=by rw[hY]; rfl
 have sX:shortB X=true:=by rw[hX]; exact sx
 have lx:x.users.length≤20:=by simp[shortB] at sx; exact sx.2.1
 have ly:y.users.length≤20:=by simp[shortB] at sy; exact sy.2.1
 rw[← hX] at ca
 rw[← hY] at cb
 have og:∀ (h':Heap) (v:Nat) (o:OpD × Value),h' v=some (.cells (opC o.1 o.2).toArray qeZ (0,0))→ldV (some (some 7)) (ptr v) h'=some (.agg (opC o.1 o.2).toArray):=fun h' v o hc=>by simp[ld_at hc,opC]
 unfold qaKZ
 simp -implicitDefEqProofs[s7,og _ _ (X,ux) ca]
 refine modBad_ok X Xw (by rw[Xu]; exact hx) (by rw[Xu]; omega) fun h1 e1=>?_
 unfold qeNZ
 cases hbX:badB X with
 | true =>
  simp -implicitDefEqProofs
  exact hk _ e1
 | false =>
 simp -implicitDefEqProofs[s8,og _ _ (Y,uy) (e1 _ _ cb)]
 refine modBad_ok Y Yw (by rw[Yu]; exact hy.ext (@StrR.ext) e1) (by rw[Yu]; omega) fun h2 e2=>?_
 have e02:=e1.trans e2
 cases hbY:badB Y with
 | true =>
  simp -implicitDefEqProofs
  exact hk _ e02
 | false =>
 simp -implicitDefEqProofs
 unfold qeMZ
 refine small_ok fun h3 e3=>?_
 have e03:=e02.trans e3
 unfold qeLZ
 refine hallNew_ok small smallW (wf_nil h3) g1 (fun hr T4 h4 hp o4 y4=>?_) (fun hr=>by simp[rightB,small] at hr)
 have hn3:small.stripes.toNat=3:=by decide
 have hs3:small.stripes=3:=rfl
 rw[hn3] at y4
 have hr:rightB small=true:=by decide
 have enil:binV .eql 4 true (ptr hp) (.pointer none)=some (.bool false):=rfl
 unfold qeKZ
 simp -implicitDefEqProofs[enil]
 have k4:=fun {b:Nat} {o:Obj} (c:h b=some o)=>o4.k.at (t:=[]) (e03 _ _ c) rfl (by simp[pre])
 have ca4:=k4 ca
 have cb4:=k4 cb
 have hx4:Sl 1 StrR (fz T4 h4) ux X.users:=by
  have:Sl 1 StrR (fz (fun _=>[]) h3) ux X.users:=by rw[fz_nil,Xu]; exact hx.ext (@StrR.ext) e03
  exact this.ext (@StrR.ext) (o4.ext (by simp[pre]))
 have hy4:Sl 1 StrR (fz T4 h4) uy Y.users:=by
  have:Sl 1 StrR (fz (fun _=>[]) h3) uy Y.users:=by rw[fz_nil,Yu]; exact hy.ext (@StrR.ext) e03
  exact this.ext (@StrR.ext) (o4.ext (by simp[pre]))
 have ht4:Sl 1 (IntR .u8) (fz T4 h4) tv ts:=by
  have:Sl 1 (IntR .u8) (fz (fun _=>[]) h3) tv ts:=by rw[fz_nil]; exact ht.ext (fun _ r=>r) e03
  exact this.ext (fun _ r=>r) (o4.ext (by simp[pre]))
 have kE:∀ {U:Tag→Prop} {T' h'},Only U T4 h4 T' h'→¬ U []→∀ {h''},Ext h' h''→K (.bool true) h'':=fun {U T' h'} o n {h''} e=>hk _ (e03.trans ((ext_of_only (U:=fun t=>pre [1] t∨U t) ((o4.mono fun _=>.inl).trans (o.mono fun _=>.inr)) (by
  rintro (h | h)
  ·simp -implicitDefEqProofs[pre] at h
  ·exact n h)).trans e))
 unfold qeJZ
 simp -implicitDefEqProofs[s7,og _ _ (X,ux) ca4.1]
 refine users_ok X Xw o4.wf (hx4.ext (@StrR.ext) (fz_ext _ _)) (by rw[Xu]; omega) fun uv h5 e5 us=>?_
 have o5:Only non T4 h4 T4 h5:=Only.of_ext o4.wf e5
 have y5:=y4.up o5 (Off.non _) (not_non _)
 have ca5:=e5 _ _ ca4.1
 have cb5:=e5 _ _ cb4.1
 have ul:=us.len
 have ush:=users_short sX
 have ull:(usersOf X).length≤8:=(usersOf_bad hbX Xk).2
 have hstY:=stripeOf_lt (u:=Y.user) (n:=3) (by omega)
 obtain⟨st,hst⟩:∃ st:Nat,stripeOf Y.user 3=st:=⟨(stripeOf Y.user 3).toNat,by omega⟩
 have cb1:cel h5 vb 1=some (.string Y.user):=by simp[cel_of cb5,opC]
 unfold qeIZ
 rw[seqM_eq]
 unfold qemZ
 refine loop_on [2,7,8,9,11] (fun s h'=>∃ i:Nat,h'=h5∧s 12 = .int .i64 i∧i≤(usersOf X).length∧∀ u∈(usersOf X).take i,stripeOf u 3≠(st:Int)) (fun s _=>((usersOf X).length-num (s 12)).toNat) ⟨0,rfl,by simp,by omega,by simp⟩ ?_
 rintro t h6 hf6 ⟨i,rfl,t12,hi,hall⟩
 have t2:t 2=tv:=by simpa [s2] using hf6 2 (by simp)
 have t7:t 7=ptr va:=by simpa [s7] using hf6 7 (by simp)
 have t8:t 8=ptr vb:=by simpa [s8] using hf6 8 (by simp)
 have t9:t 9=ptr hp:=by simpa using hf6 9 (by simp)
 have t11:t 11=uv:=by simpa using hf6 11 (by simp)
 unfold qelZ
 simp -implicitDefEqProofs[t11,ul,t12]
 refine⟨fun hc=>?_,fun hc=>?_⟩
 ·have hlt:i<(usersOf X).length:=by omega
  have hw1:IntKind.i64.wrap ((i:Int)+1)=(i+1:Nat):=by rw[wrap64_id (by omega) (by omega)]; omega
  obtain⟨b,o,c,i1,i2,i3⟩:=us.at (k:=.i64) (i:=i) (by omega) (by omega)
  simp -implicitDefEqProofs only[Int.toNat_natCast] at i3
  have i3':c=[.string (usersOf X)[i]]:=i3.1
  subst i3'
  have cu:cel h6 b o=some (.string (usersOf X)[i]):=by
   have:=(cels_get (cels_ext (fz_ext _ _) i2)).2 0 (by simp)
   simpa using this
  have husz:=ush _ (List.getElem_mem hlt)
  unfold qekZ
  simp -implicitDefEqProofs[t11,t12,i1,cu,t8,cb1,t9]
  refine hstripe_ok _ (by unfold maxLen; omega) y5 (by show small.stripes≤8; decide) ?_
  unfold qejZ
  simp -implicitDefEqProofs[cb1,t9]
  refine hstripe_ok Y.user Yw.s1 y5 (by show small.stripes≤8; decide) ?_
  have hc0:(hall0 small 3).c.stripes=3:=rfl
  rw[hc0,hst]
  by_cases he:stripeOf (usersOf X)[i] 3=st
  ·simp -implicitDefEqProofs[he]
   unfold qehZ
   simp -implicitDefEqProofs
   exact kE o5 (not_non _) (Ext.refl _)
  ·simp -implicitDefEqProofs[he]
   unfold qeiZ
   simp -implicitDefEqProofs[t2,t7,t8,t9,t11,t12,hw1,s2,s7,s8,-Int.natCast_add]
   refine⟨⟨i+1,by rfl,by omega,fun u hu=>?_⟩,by omega⟩
   rw[List.take_succ_eq_append_getElem hlt,List.mem_append,List.mem_singleton] at hu
   rcases hu with hu | rfl
   ·exact hall u hu
   ·exact he
 have hie:i=(usersOf X).length:=by omega
 rw[hie,List.take_of_length_le (Nat.le_refl _)] at hall
 have hnst:=not_stripe hall
 obtain⟨ss,hss⟩:∃ ss,ss=stripesOf (usersOf X) 3:=⟨_,rfl⟩
 rw[← hss] at hnst
 have hs0:0<ss.length:=by rw[hss]; exact stripesOf_pos (by omega) (by omega) (usersOf_bad hbX Xk).1
 unfold qeHZ
 have x5:=wd0M y5 (fun _=>0)
 have k5:=wd0K smallW hr (n:=3) (by decide)
 simp -implicitDefEqProofs[t7,og _ _ (X,ux) ca5,t9]
 have e45:Ext (fz T4 h4) (fz T4 h6):=o5.ext (not_non _)
 refine wdnew_r (i:=0) (by omega) (by omega) X Xw Xk (by rw[Xu]; omega) (hx4.ext (@StrR.ext) e45) o5.wf x5 k5 (fun q hq=>by simp[wd0] at hq) fun T7 h7 rp o7 x7 k7=>?_
 have ca7:=o7.see (b:=va) (t:=[]) ⟨ca5,ca4.2⟩ (by simp[pre])
 have cb7:=o7.see (b:=vb) (t:=[]) ⟨cb5,cb4.2⟩ (by simp[pre])
 unfold qeGZ
 simp -implicitDefEqProofs[t8,og _ _ (Y,uy) cb7.1,t9]
 have e47:Ext (fz T4 h4) (fz T7 h7):=e45.trans (o7.ext (by simp[pre]))
 refine wdnew_w (i:=1) (by omega) Y Yw (by rw[Yu]; omega) (hy4.ext (@StrR.ext) e47) o7.wf x7 k7 (fun q hq=>by simp[bset,wd0] at hq) fun T8 h8 wp o8 x8 k8=>?_
 have o48:Only UW T4 h4 T8 h8:=((o5.mono non_up).trans (o7.mono fun _ h=>.inr (pre_trans (g:=[2]) (s:=[0]) h))).up o8 non_up
 obtain⟨W8,M8,A8,y8⟩:∃ W M A,RoI T4 h4 hp rp 0 0 st ss (ptr wp) W M A (rp0 (hall0 small 3) 0 X) (wp0 (hall0 small 3) 1 Y) T8 h8:=by
  refine⟨_,_,_,o48,x8,k8,?_,?_,?_,?_,?_,fun s hs=>⟨?_,rfl⟩,?_,rfl,rfl⟩
  ·simp -implicitDefEqProofs[bset,wd0]
  ·simp -implicitDefEqProofs[bset,wd0]
  ·simp -implicitDefEqProofs[bset]
  ·rw[bset_same]
  ·rw[hss]; exact OtB.start (H:=hall0 small 3) hbX Xk (by decide) (by decide)
  ·rw[hss] at hs
   have h1:=(List.mem_filter.1 hs).2
   unfold inS at h1
   rw[List.any_eq_true] at h1
   obtain⟨u,_,e⟩:=h1
   have:=stripeOf_lt (u:=u) (n:=3) (by omega)
   have e:stripeOf u 3=(s:Int):=by simpa using e
   omega
  ·show (stripeOf Y.user 3).toNat=st
   rw[hst]; simp
 unfold qeFZ
 rw[seqM_eq]
 unfold qeBZ
 have tl:=ht.len
 refine loop_on [2,7,8,9,13] (fun s h'=>∃ n:Nat,RoJ T4 h4 hp rp n st ss (s 15) (s 14) h'∧s 16 = .int .i64 n∧n≤ts.length) (fun s _=>(ts.length-num (s 16)).toNat) ⟨0,⟨T8,_,_,_,_,_,0,by simpa using y8,by simp⟩,by simp,by omega⟩ ?_
 rintro r h9 hf9 ⟨n,⟨T9,W,M,A,p,q,did,y9,r15⟩,r16,hn⟩
 have r2:r 2=tv:=by simpa [t2] using hf9 2 (by simp)
 have r7:r 7=ptr va:=by simpa [t7] using hf9 7 (by simp)
 have r8:r 8=ptr vb:=by simpa [t8] using hf9 8 (by simp)
 have r9:r 9=ptr hp:=by simpa [t9] using hf9 9 (by simp)
 have r13:r 13=ptr rp:=by simpa using hf9 13 (by simp)
 have ca9:=y9.o.see ca4 UW.nil
 have cb9:=y9.o.see cb4 UW.nil
 have dle:=y9.ot.le
 have ssl:ss.length≤8:=by rw[hss]; exact Nat.le_trans (List.length_filter_le _ _) (by simp)
 unfold qeAZ
 simp -implicitDefEqProofs[r2,tl,r16]
 refine⟨fun hc=>?_,fun hc=>?_⟩
 ·have hlt:n<ts.length:=by omega
  have hw1:IntKind.i64.wrap ((n:Int)+1)=(n+1:Nat):=by rw[wrap64_id (by omega) (by omega)]; omega
  have hwd:IntKind.i64.wrap ((did:Int)+1)=(did+1:Nat):=by rw[wrap64_id (by omega) (by omega)]; omega
  obtain⟨ub,up,u1,u2,u3,u4⟩:=u8At ht4 hlt
  have eF:=(y9.o.ext UW.nil).trans (fz_ext _ _)
  unfold qezZ
  rw[seqM_eq]
  unfold qeyZ
  rw[seqM_eq]
  unfold qetZ
  have brem:binV .rem 2 true (.int .u8 ts[n]) (.int .u8 2)=some (.int .u8 (ts[n] % 2)):=by
   have r:(ts[n]).tmod 2=ts[n] % 2:=Int.tmod_eq_emod_of_nonneg (by omega)
   have:¬ (2:Int)=0:=by omega
   simp -implicitDefEqProofs only[binV,intV,if_true,if_neg this,r]
  simp -implicitDefEqProofs[r2,r16,u1,u2 _ eF,brem]
  refine⟨fun h0=>?_,fun h0=>?_⟩
  ·unfold qerZ
   rw[seqM_eq]
   unfold qeqZ
   have xr:RPR T9 h9 [2,0] rp p:=by rw[← y9.a0]; exact y9.x.ps 0 _ y9.p0
   simp -implicitDefEqProofs only[r13]
   refine rdone_ok xr ?_
   unfold qepZ
   by_cases h8:p.ph=8
   ·simp -implicitDefEqProofs[h8]
    unfold qeoZ
    simp -implicitDefEqProofs
    unfold qcCZ
    simp -implicitDefEqProofs[r13,r9,r16]
    refine ro_read y9 (by omega) hs0 fun T10 h10 W' M' p' y10=>?_
    rw[if_pos h8] at y10
    simp -implicitDefEqProofs[r2,r7,r8,r9,r13,r15,r16,hw1,t2,t7,t8,t9,-Int.natCast_add]
    exact⟨⟨n+1,⟨T10,W',M',A,p',q,did,y10,rfl⟩,rfl,by omega⟩,by omega⟩
   ·simp -implicitDefEqProofs[h8]
    unfold qenZ
    simp -implicitDefEqProofs[r15,hwd,-Int.natCast_add]
    unfold qcCZ
    simp -implicitDefEqProofs[r13,r9,r16,-Int.natCast_add]
    refine ro_read y9 (by omega) hs0 fun T10 h10 W' M' p' y10=>?_
    rw[if_neg h8] at y10
    simp -implicitDefEqProofs[r2,r7,r8,r9,r13,r15,r16,hw1,t2,t7,t8,t9,-Int.natCast_add]
    exact⟨⟨n+1,⟨T10,W',M',A,p',q,did+1,y10,rfl⟩,rfl,by omega⟩,by omega⟩
  ·unfold qesZ
   simp -implicitDefEqProofs
   unfold qexZ
   rw[seqM_eq]
   unfold qewZ
   have xw9:WPR T9 h9 [2,1] (A 1) q:=y9.x.ps 1 _ y9.p1
   simp -implicitDefEqProofs[y9.av]
   refine wdone_ok xw9 fun h10 e10=>?_
   have y10:=y9.ext e10
   have cb10:=e10 _ _ cb9.1
   unfold qevZ
   cases hd:q.done with
   | false =>
    simp -implicitDefEqProofs
    unfold qcDZ
    simp -implicitDefEqProofs[r9,r16,y9.av]
    rw[← y9.av]
    refine ro_write y10 (by omega) hnst fun T11 h11 W' M' q' y11=>?_
    simp -implicitDefEqProofs[r2,r7,r8,r9,r13,r15,r16,hw1,t2,t7,t8,t9,-Int.natCast_add]
    exact⟨⟨n+1,⟨T11,W',M',A,p,q',did,by simpa [y9.av] using y11,rfl⟩,rfl,by omega⟩,by omega⟩
   | true =>
    simp -implicitDefEqProofs
    unfold qeuZ
    simp -implicitDefEqProofs[r8,og _ _ (Y,uy) cb10,r9]
    refine wdnew_w (i:=1) (by omega) Y Yw (by rw[Yu]; omega) (hy4.ext (@StrR.ext) (y10.o.ext UW.nil)) y10.o.wf y10.x y10.k (fun q' hq=>by
     rw[y9.p1] at hq; cases hq
     exact Idle.done (y9.k.li.pa 1 _ y9.p1) hd y9.k.hs.n8.1) fun T11 h11 wq o11 x11 k11=>?_
    obtain⟨W11,M11,A11,y11⟩:∃ W' M' A',RoI T4 h4 hp rp n did st ss (ptr wq) W' M' A' p (wp0 W.H 1 Y) T11 h11:=by
     refine⟨_,_,_,y10.o.up o11 non_up,x11,k11,?_,?_,?_,?_,y9.ot,y9.v0,?_,y9.c,y9.n3⟩
     ·simp -implicitDefEqProofs[bset]; exact y9.p0
     ·simp -implicitDefEqProofs[bset]
     ·simp -implicitDefEqProofs[bset]; exact y9.a0
     ·rw[bset_same]
     ·show (stripeOf Y.user W.H.c.stripes).toNat=st
      rw[y9.c]; show (stripeOf Y.user 3).toNat=st; rw[hst]; simp
    unfold qcDZ
    simp -implicitDefEqProofs[r9,r16]
    refine ro_write y11 (by omega) hnst fun T12 h12 W' M' q' y12=>?_
    simp -implicitDefEqProofs[r2,r7,r8,r9,r13,r15,r16,hw1,t2,t7,t8,t9,-Int.natCast_add]
    exact⟨⟨n+1,⟨T12,W',M',_,p,q',did,y12,rfl⟩,rfl,by omega⟩,by omega⟩
 ·skip
  unfold qeEZ
  simp -implicitDefEqProofs[r7,og _ _ (X,ux) ca9.1,r9]
  refine lstripes_ok X Xw y9.o.wf y9.x.hl (by rw[y9.c]; decide) ((hx4.ext (@StrR.ext) (y9.o.ext UW.nil)).ext (@StrR.ext) (fz_ext _ _)) (by rw[Xu]; omega) fun h10 e10=>?_
  rw[y9.c]
  have hsl:(stripesOf (usersOf X) small.stripes).length=ss.length:=by rw[hss]; rfl
  rw[hsl]
  have y10:=y9.ext e10
  have xr:RPR T9 h10 [2,0] rp p:=by rw[← y10.a0]; exact y10.x.ps 0 _ y10.p0
  unfold qeDZ
  simp -implicitDefEqProofs[r13]
  refine rdone_ok xr ?_
  have hw3:IntKind.i64.wrap (3*(ss.length:Int))=(3*ss.length:Nat):=by rw[wrap64_id (by omega) (by omega)]; omega
  have hw4:IntKind.i64.wrap (((3*ss.length:Nat):Int)+1)=(3*ss.length+1:Nat):=by rw[wrap64_id (by omega) (by omega)]; omega
  have hdn:decide (p.ph=8)=decide (((3*ss.length+1:Nat):Int)≤did):=by
   rw[Bool.eq_iff_iff]; simp only[decide_eq_true_eq]; rw[y9.ot.done]; omega
  have hle:((did:Nat):Int)≤(3*ss.length+1:Nat):=by omega
  have hwt:=y9.ot.waits
  have ph:=y9.ot.ph
  unfold qeCZ
  rw[hdn]
  simp -implicitDefEqProofs[r15,hw3,hw4,hle,r13,-Int.natCast_add,-Int.natCast_mul]
  refine rwaits_ok xr (fun h4=>absurd h4 ph.1) ?_
  rw[hwt]
  simp -implicitDefEqProofs
  exact kE y9.o UW.nil e10
end Go.Proofs.YtcnphhhcknhhaaaGreat
namespace Go.Proofs.YtcnphhhcknhhaaaGreat
open Go Go.Den Go.MapKept
set_option linter.unusedSimpArgs false
set_option linter.unusedVariables false
set_option maxRecDepth 20000
theorem st2 {h0 h:Heap}{va vb n:Nat}{z z':Array Value}{ty:TypeId}{a b:Value}(e0:Ext h0 h)(na:h0 va=none)(nb:h0 vb=none)(ca:h va=some (.cells z ty (0,0)))(cb:h vb=some (.cells z' ty (0,0)))(ne:va≠vb)
  (sa:a.cells.size=n) (sb:b.cells.size=n) (oa:a.cells.toList.all (fun u=>u.oneCell')=true) (ob:b.cells.toList.all (fun u=>u.oneCell')=true) (hz:z.size=n) (hz':z'.size=n) {K:Heap→Prop}
  (hk:∀ h5,Ext h0 h5→h5 va=some (.cells a.cells ty (0,0))→h5 vb=some (.cells b.cells ty (0,0))→K h5) :
  stM (some n) (ptr va) a h fun h1=>stM (some n) (ptr vb) b h1 K:=by
 rw[stm_at ca sa (by omega) oa,stm_at (by rw[upd_ne (Ne.symm ne)]; exact cb) sb (by omega) ob]
 refine hk _ (ext_upd nb (ext_upd na e0)) ?_ ?_
 ·rw[upd_ne ne,upd_same',over_all _ _ (by simp; omega)]
 ·rw[upd_same',over_all _ _ (by simp; omega)]
end Go.Proofs.YtcnphhhcknhhaaaGreat
