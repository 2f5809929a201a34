/- Words, plain data and contracts of the Go functions that this claim reaches. No condition beyond the hypotheses that each theorem states. -/
import Derived.Test.YtmbningljbcpkaaGreatHap5
set_option linter.unusedSimpArgs false
set_option linter.unusedVariables false
namespace Go.Proofs.YtmbningljbcpkaaGreat
open Go Go.Den Go.MapKept
set_option linter.unusedSimpArgs false
set_option linter.unusedVariables false
set_option maxRecDepth 20000
variable {K:KTy}
set_option maxHeartbeats 8000000 in
theorem rfdrain_ok {T:Tags}{h:Heap}{g:Tag}{q:Nat}{room:Int}{pv:Value}{qv:Nat→Value}{ps:List PairD}{f:Feed}(w:Wf T h)(gn:g≠[])(x:RfB T h g q room pv qv ps f)(who:Nat)(hw:who<8)
  (hk:∀ h' qv',Only (fun t=>t=g) T h T h'→RfB T h' g q room pv qv' ps { f with qs:=qset f.qs who { f.qs who with l:=[],lost:=false } }→Sl 8 EvR (fz T h') (qv who) (f.qs who).l→K (.tuple #[qv who,.bool (f.qs who).lost]) h'):callM P qbuZ #[ptr q,.int .i64 who] h K:=by
 apply qjZZ
 unfold qbEZ
 have cp:=x.hp
 simp -implicitDefEqProofs only[rfdC] at cp
 have n0:¬ (who:Int)<0:=by omega
 have n7:¬ (7:Int)<who:=by omega
 simp -implicitDefEqProofs[n7]
 unfold qhXZ
 have o2:∀ c,Only (fun t=>t=g) T h T (upd h q (.cells c qtZ (0,0))):=fun c=>Only.upd w x.hp x.tq
 have fin:∀ h',h'=upd h q (.cells (rfdC room pv (fun j=>if j=who then .slice none 0 0 else qv j) (fun j=>if j=who then false else (f.qs j).lost)).toArray qtZ (0,0))→K (.tuple #[qv who,.bool (f.qs who).lost]) h':=by
  intro h' e
  subst e
  have e2:=(o2 (rfdC room pv (fun j=>if j=who then .slice none 0 0 else qv j) (fun j=>if j=who then false else (f.qs j).lost)).toArray).ext (u:=fun hh=>gn hh.symm)
  refine hk _ (fun j=>if j=who then .slice none 0 0 else qv j) (o2 _) ⟨?_,x.tq,x.pr.ext (@PairR.ext) e2,fun j hj=>?_⟩ ((x.qs who hw).ext (@EvR.ext) e2)
  ·rw[upd_same']
   congr 3
   congr 1
   funext j
   by_cases hj:j=who
   ·subst hj; simp[qset]
   ·simp -implicitDefEqProofs[qset,hj]
  ·by_cases hj':j=who
   ·subst hj'
    simp -implicitDefEqProofs[qset]
    exact .inl ⟨rfl,_,_,rfl⟩
   ·show Sl 8 EvR _ (if j=who then _ else qv j) (qset f.qs who { f.qs who with l:=[],lost:=false } j).l
    rw[if_neg hj',show qset f.qs who { f.qs who with l:=[],lost:=false } j=f.qs j from if_neg hj']
    exact (x.qs j hj).ext (@EvR.ext) e2
 rcases (by omega:who=0∨who=1∨who=2∨who=3∨who=4∨who=5∨who=6∨who=7) with rfl | rfl | rfl | rfl | rfl | rfl | rfl | rfl
 ·simp -implicitDefEqProofs[iaV,ld_at cp,cel_of cp,stm_at cp,stm_upd,ld_same,cel_same,over]
  exact fin _ (by simp[rfdC])
 ·simp -implicitDefEqProofs[iaV,ld_at cp,cel_of cp,stm_at cp,stm_upd,ld_same,cel_same,over]
  exact fin _ (by simp[rfdC])
 ·simp -implicitDefEqProofs[iaV,ld_at cp,cel_of cp,stm_at cp,stm_upd,ld_same,cel_same,over]
  exact fin _ (by simp[rfdC])
 ·simp -implicitDefEqProofs[iaV,ld_at cp,cel_of cp,stm_at cp,stm_upd,ld_same,cel_same,over]
  exact fin _ (by simp[rfdC])
 ·simp -implicitDefEqProofs[iaV,ld_at cp,cel_of cp,stm_at cp,stm_upd,ld_same,cel_same,over]
  exact fin _ (by simp[rfdC])
 ·simp -implicitDefEqProofs[iaV,ld_at cp,cel_of cp,stm_at cp,stm_upd,ld_same,cel_same,over]
  exact fin _ (by simp[rfdC])
 ·simp -implicitDefEqProofs[iaV,ld_at cp,cel_of cp,stm_at cp,stm_upd,ld_same,cel_same,over]
  exact fin _ (by simp[rfdC])
 ·simp -implicitDefEqProofs[iaV,ld_at cp,cel_of cp,stm_at cp,stm_upd,ld_same,cel_same,over]
  exact fin _ (by simp[rfdC])
end Go.Proofs.YtmbningljbcpkaaGreat
namespace Go.Proofs.YtmbningljbcpkaaGreat
open Go Go.Den Go.MapKept
set_option linter.unusedSimpArgs false
set_option linter.unusedVariables false
set_option maxRecDepth 20000
variable {K:KTy}
theorem rtake13_ok (o who:Int){h:Heap}(hk:K (.tuple #[.int .i64 (if o<0∧0≤who then who else o),.int .i64 (if o<0∧0≤who then 1 else 0)]) h):callM P qitZ #[.int .i64 o,.int .i64 who] h K:=by
 apply qupZ
 unfold qjHZ
 by_cases h1:o<0
 ·by_cases h2:0≤who
  ·rw[if_pos ⟨h1,h2⟩,if_pos ⟨h1,h2⟩] at hk
   simp -implicitDefEqProofs[h1,h2]; exact hk
  ·rw[if_neg (fun h=>h2 h.2),if_neg (fun h=>h2 h.2)] at hk
   simp -implicitDefEqProofs[h1,h2]; exact hk
 ·rw[if_neg (fun h=>h1 h.1),if_neg (fun h=>h1 h.1)] at hk
  simp -implicitDefEqProofs[h1]; exact hk
theorem rgive13_ok (o who:Int){h:Heap}(hk:K (.tuple #[.int .i64 (if 0≤o∧o=who then -1 else o),.int .i64 (if 0≤o∧o=who then 1 else 0)]) h):callM P qiuZ #[.int .i64 o,.int .i64 who] h K:=by
 apply quqZ
 unfold qjIZ
 by_cases h1:0≤o
 ·by_cases h2:o=who
  ·rw[if_pos ⟨h1,h2⟩,if_pos ⟨h1,h2⟩] at hk
   subst h2
   simp -implicitDefEqProofs[h1]; exact hk
  ·rw[if_neg (fun h=>h2 h.2),if_neg (fun h=>h2 h.2)] at hk
   simp -implicitDefEqProofs[h1,h2]; exact hk
 ·rw[if_neg (fun h=>h1 h.1),if_neg (fun h=>h1 h.1)] at hk
  simp -implicitDefEqProofs[h1]; exact hk
theorem rend05_ok (v:Int)(hv:0≤v∧v<18446744073709551615){h:Heap}(hk:K (.int .u64 (endV v)) h):callM P qjwZ #[.int .u64 v] h K:=by
 apply quLZ
 unfold qkwZ
 have ht:v.tmod 2=v % 2:=Int.tmod_eq_emod_of_nonneg hv.1
 unfold endV wrt at hk
 by_cases h1:v % 2=1
 ·have hw:IntKind.u64.wrap (v+1)=v+1:=by rw[wrapU_id (by omega) (by omega)]
  simp -implicitDefEqProofs[h1] at hk
  simp -implicitDefEqProofs[ht,h1,hw]; exact hk
 ·simp -implicitDefEqProofs[h1] at hk
  simp -implicitDefEqProofs[ht,h1]; exact hk
theorem rbegin05_ok (v b:Int)(hv:U64 v)(hb:U64 b){h:Heap}(hk:K (.int .u64 (bgn v (evn b))) h):callM P qhfZ #[.int .u64 v,.int .u64 b] h K:=by
 apply qtNZ
 unfold qiFZ
 unfold U64 at hv hb
 have ht:v.tmod 2=v % 2:=Int.tmod_eq_emod_of_nonneg hv.1
 have hbt:b.tmod 2=b % 2:=Int.tmod_eq_emod_of_nonneg hb.1
 have hwb:IntKind.u64.wrap (b-b % 2)=b-b % 2:=by rw[wrapU_id (by omega) (by omega)]
 unfold bgn wrt evn at hk
 by_cases h1:v % 2=0
 ·by_cases h2:v<b-b % 2
  ·have hw:IntKind.u64.wrap (v+1)=v+1:=by rw[wrapU_id (by omega) (by omega)]
   simp -implicitDefEqProofs[h1,h2] at hk
   simp -implicitDefEqProofs[ht,h1]
   apply qpnZ
   unfold qeLZ
   simp -implicitDefEqProofs[hbt,hwb,h2,hw]; exact hk
  ·simp -implicitDefEqProofs[h1,h2] at hk
   simp -implicitDefEqProofs[ht,h1]
   apply qpnZ
   unfold qeLZ
   simp -implicitDefEqProofs[hbt,hwb,h2]; exact hk
 ·have h1':v % 2=1:=by omega
  simp -implicitDefEqProofs[h1'] at hk
  simp -implicitDefEqProofs[ht,h1']; exact hk
end Go.Proofs.YtmbningljbcpkaaGreat
namespace Go.Den
open Go
set_option linter.unusedVariables false
set_option linter.unusedSimpArgs false
theorem psOf_cons (p:PairD)(ps:List PairD)(j:Nat):(psOf (p::ps) j).length=(psOf ps j).length+if p.who=(j:Int) then 1 else 0:=by
 unfold psOf
 rw[List.filter_cons]
 by_cases h:p.who=(j:Int)
 ·simp[h]
 ·simp[h]
theorem ps_sum:∀ (ps:List PairD),(∀ p∈ps,0≤p.who∧p.who<8)→ps.length≤(psOf ps 0).length+(psOf ps 1).length+(psOf ps 2).length+(psOf ps 3).length+(psOf ps 4).length+(psOf ps 5).length+(psOf ps 6).length+(psOf ps 7).length
 | [],_=>by simp
 | p::ps,h=>by
  have ih:=ps_sum ps fun q hq=>h q (by simp[hq])
  have h0:=h p (by simp)
  simp only[psOf_cons,List.length_cons]
  rcases (by omega:p.who=0∨p.who=1∨p.who=2∨p.who=3∨p.who=4∨p.who=5∨p.who=6∨p.who=7) with e | e | e | e | e | e | e | e
  all_goals simp[e]
  all_goals omega
theorem wsOf_le (ws:List (ByteArray × Int))(j:Nat):(wsOf ws j).length≤ws.length:=by
 unfold wsOf
 rw[List.length_map]
 exact List.length_filter_le _ _
theorem FdP.len {f:Feed}{ps:List PairD}(x:FdP f ps):ps.length≤8*f.ws.length:=by
 have h:=ps_sum ps x.rg
 have hj:∀ j,j<8→(psOf ps j).length≤f.ws.length:=fun j hj=>by
  rw[(x.pm j hj).length_eq]; exact wsOf_le _ _
 have:=hj 0 (by omega); have:=hj 1 (by omega); have:=hj 2 (by omega); have:=hj 3 (by omega)
 have:=hj 4 (by omega); have:=hj 5 (by omega); have:=hj 6 (by omega); have:=hj 7 (by omega)
 omega
theorem tell_wsF (f:Feed)(seq:Int):∀ l:List Chg,(f.tell l seq).ws=f.ws:=fun l=>by
 unfold Feed.tell
 induction l generalizing f with
 | nil=>rfl
 | cons c l ih=>rw[List.foldl_cons,ih,tell1_ws]
theorem FdP.tell {f:Feed}{ps:List PairD}(x:FdP f ps)(l:List Chg)(seq:Int):FdP (f.tell l seq) ps:=x.of_ws (tell_wsF f seq l)
theorem FdP.tell1 {f:Feed}{ps:List PairD}(x:FdP f ps)(c:Chg)(seq:Int)(n:Nat):FdP (f.tell1 c seq n) ps:=x.of_ws (tell1_ws f c seq n)
def RmE (f:Feed)(room:Int):Prop:=∀ j,j<8→(f.qs j).room=room
theorem put_room (r:Ring)(x:Evt):(r.put x).room=r.room:=by unfold Ring.put; split<;>rfl
theorem RmE.tell1 {f:Feed}{room:Int}(x:RmE f room)(c:Chg)(seq:Int):∀ n,RmE (f.tell1 c seq n) room
 | 0=>x
 | n+1=>by
  have ih:=RmE.tell1 x c seq n
  simp only[Feed.tell1]
  split
  ·intro j hj
   simp only[qset]
   split
   ·rename_i h; subst h; rw[put_room]; exact ih j hj
   ·exact ih j hj
  ·exact ih
theorem RmE.tell {f:Feed}{room:Int}(x:RmE f room)(seq:Int):∀ l:List Chg,RmE (f.tell l seq) room:=fun l=>by
 unfold Feed.tell
 induction l generalizing f with
 | nil=>exact x
 | cons c l ih=>exact ih (x.tell1 c seq 8)
end Go.Den
namespace Go.Proofs.YtmbningljbcpkaaGreat
open Go Go.Den Go.MapKept
set_option linter.unusedSimpArgs false
set_option linter.unusedVariables false
set_option maxRecDepth 20000
structure RSx where
 bp:Nat
 sn:Value
 bk:Value
 fp:Nat
 pv:Value
 qv:Nat→Value
 ps:List PairD
def rstC (x:Strp)(y:RSx):List Value:=[.int .i64 (x.who-1),.int .u64 x.v,y.sn,y.bk,ptr y.fp]
structure RstR (T:Tags)(h:Heap)(g:Tag)(s:Nat)(c:Cfg)(x:Strp)(y:RSx):Prop where
 hp:h y.bp=some (.cells (rstC x y).toArray qHZ (0,0))
 tp:T y.bp=g++[1,s]
 sn:Sl 5 UsrR (fz T h) y.sn x.snap
 bk:Sl 5 UsrR (fz T h) y.bk x.book
 fd:RfB T h (g++[2,s]) y.fp c.queue y.pv y.qv y.ps x.feed
 pp:FdP x.feed y.ps
 rm:∀ j,j<8→(x.feed.qs j).room=c.queue
 bd:x.bound=evn c.epochs
def rhC (H:Hall)(sv av:Value):List Value:=[.int .i64 H.c.stripes,.int .i64 H.c.sessions,.int .i64 H.c.queue,.int .i64 H.c.watches,.int .i64 H.c.retries,.int .u64 H.c.epochs,.int .u64 H.c.start,.int .u64 H.t.now,.int .u64 H.t.seq,.bool H.t.closed,sv,av]
structure RhX (T:Tags)(h:Heap)(g:Tag)(p:Nat)(H:Hall)(sv av:Value)(Y:Nat→RSx):Prop where
 hp:h p=some (.cells (rhC H sv av).toArray qzZ (0,0))
 tp:T p=g++[0]
 st:Rw T h (g++[4]) 1 qbvZ sv H.n (seqF H.n fun i=>[ptr (Y i).bp])
 ac:Rw T h (g++[3]) 3 qQZ av H.acts.length (H.acts.flatMap actC)
 sr:∀ s,s<H.n→RstR T h g s H.c (H.ss s) (Y s)
def RhR (T:Tags)(h:Heap)(g:Tag)(p:Nat)(H:Hall):Prop:=∃ sv av Y,RhX T h g p H sv av Y
theorem RstR.kp {U:Tag→Prop}{T T':Tags}{h h':Heap}{g:Tag}{s:Nat}{c:Cfg}{x:Strp}{y:RSx}(r:RstR T h g s c x y)(k:Kp U T h T' h')(o1:¬ U (g++[1,s]))(o2:¬ U (g++[2,s]))(n:¬ U []):RstR T' h' g s c x y :=
 ⟨(k.at r.hp r.tp o1).1,(k.at r.hp r.tp o1).2,r.sn.ext (@UsrR.ext) (k.ext n),r.bk.ext (@UsrR.ext) (k.ext n),r.fd.kp k o2 n,r.pp,r.rm,r.bd⟩
theorem RhX.kp {U:Tag→Prop}{T T':Tags}{h h':Heap}{g:Tag}{p:Nat}{H:Hall}{sv av:Value}{Y:Nat→RSx}(x:RhX T h g p H sv av Y)(k:Kp U T h T' h')(o:Off U g)(n:¬ U []):RhX T' h' g p H sv av Y :=
 ⟨(k.at x.hp x.tp (o.at _)).1,(k.at x.hp x.tp (o.at _)).2,x.st.kp k (o.at _),x.ac.kp k (o.at _),fun s hs=>(x.sr s hs).kp k (o.at _) (o.at _) n⟩
theorem RhR.kp {U:Tag→Prop}{T T':Tags}{h h':Heap}{g:Tag}{p:Nat}{H:Hall}(x:RhR T h g p H)(k:Kp U T h T' h')(o:Off U g)(n:¬ U []):RhR T' h' g p H :=
 let ⟨sv,av,Y,x⟩:=x; ⟨sv,av,Y,x.kp k o n⟩
theorem RhX.own {T T':Tags}{h h':Heap}{g:Tag}{p:Nat}{H:Hall}{sv av:Value}{Y:Nat→RSx}(x:RhX T h g p H sv av Y)(k:Kp non T h T' h'):RhX T' h' g p H sv av Y:=x.kp k (Off.non _) (not_non _)
def V03 (g t:Tag):Prop:=t=g++[0]∨t=g++[3]
def V12 (g:Tag)(s:Nat)(t:Tag):Prop:=t=g++[1,s]∨t=g++[2,s]
theorem V03.pre {g t:Tag}(h:V03 g t):Den.pre g t:=by rcases h with rfl | rfl<;>exact pre_app _ _
theorem V12.pre {g t:Tag}{s:Nat}(h:V12 g s t):Den.pre g t:=by rcases h with rfl | rfl<;>exact pre_app _ _
theorem V03.nil (g:Tag):¬ V03 g []:=by rintro (h | h)<;>simp at h
theorem V12.nil (g:Tag)(s:Nat):¬ V12 g s []:=by rintro (h | h)<;>simp at h
theorem V03.n {g x:Tag}(h0:x≠[0])(h3:x≠[3]):¬ V03 g (g++x):=by exact fun h=>h.elim (ne_tag h0) (ne_tag h3)
theorem V12.n {g x:Tag}{s:Nat}(h1:x≠[1,s])(h2:x≠[2,s]):¬ V12 g s (g++x):=by exact fun h=>h.elim (ne_tag h1) (ne_tag h2)
variable {K:KTy}
theorem rz_did (who kind place:Int){T:Tags}{h:Heap}{g:Tag}{p:Nat}{H:Hall}(w:Wf T h){sv av:Value}{Y:Nat→RSx}(x:RhX T h g p H sv av Y)(hl:H.acts.length<1000000)
  (hk:∀ T' h' av',Only (V03 g) T h T' h'→RhX T' h' g p (H.did who kind place) sv av' Y→K (.tuple #[]) h'):callM P qmZ #[ptr p,.int .i64 who,.int .i64 kind,.int .i64 place] h K:=by
 apply qsHZ
 unfold qgnZ
 have hp:=x.hp
 simp -implicitDefEqProofs only[rhC] at hp
 simp -implicitDefEqProofs[cel_of hp,bdAct]
 refine Rw.app bsAct unSlAct apAct (by omega) (by simp) (by simp) w x.ac (by unfold maxLen; omega) (by omega) (by omega) (app_ne _ _) fun a av' T1 h1 o1 r1=>?_
 have hp1:=o1.k.at x.hp x.tp (ne_tag (by simp))
 have ho:=r1.one
 rw[stm_at hp1.1 (by simp[ho.2]) (by simp[rhC]) (by simp[ho.1,ho.2])]
 have o2:Only (V03 g) T h T1 (upd h1 p (.cells (over (rhC H sv av).toArray 11 av'.cells.toList) qzZ (0,0))) :=
  (o1.mono fun t e=>.inr e).trans (Only.upd o1.wf hp1.1 (.inl hp1.2))
 refine hk T1 _ av' o2 ⟨?_,hp1.2,x.st.kp o2.k (V03.n (by simp) (by simp)),?_,fun i hi=>(x.sr i hi).kp o2.k (V03.n (by simp) (by simp)) (V03.n (by simp) (by simp)) (V03.nil g)⟩
 ·rw[upd_same']; simp[ho.2,rhC,over,Hall.did]
 ·have o3:Only (fun t=>t=g++[0]) T1 h1 T1 (upd h1 p (.cells (over (rhC H sv av).toArray 11 av'.cells.toList) qzZ (0,0))):=Only.upd o1.wf hp1.1 hp1.2
  have:=r1.kp o3.k (ne_tag (by simp))
  simpa [Hall.did,actC] using this
theorem RhX.at_ {T:Tags}{h:Heap}{g:Tag}{p:Nat}{H:Hall}{sv av:Value}{Y:Nat→RSx}(x:RhX T h g p H sv av Y){s:Nat}(hs:s<H.n){k:IntKind}:∃ b,iaV (some (none,1)) sv (.int k s)=some (.pointer (some ⟨b,s,none⟩))∧cel h b s=some (ptr (Y s).bp):=by
 obtain⟨b,h1,h2⟩:=x.st.1.ia (k:=k) hs
 rw[Nat.mul_one] at h2
 refine⟨b,h2,?_⟩
 have:=x.st.1.cels h1 (o:=s*1) (m:=1) (by omega)
 rw[Nat.mul_one] at this
 have e:=seqF_at (F:=fun i=>[ptr (Y i).bp]) (sz:=1) (fun i _=>rfl) hs
 rw[Nat.mul_one] at e
 rw[e] at this
 simpa using (cels_get this).2 0 (by simp)
theorem RhX.sett {T T':Tags}{h h':Heap}{g:Tag}{p:Nat}{H:Hall}{sv av:Value}{Y:Nat→RSx}(x:RhX T h g p H sv av Y){s:Nat}(o:Only (V12 g s) T h T' h'){X':Strp}{y':RSx}(r:RstR T' h' g s H.c X' y')(hb:y'.bp=(Y s).bp) :
  RhX T' h' g p (H.put s X') sv av (fun k=>if k=s then y' else Y k):=by
 have b:=o.k.at x.hp x.tp (V12.n (by simp) (by simp))
 refine⟨b.1,b.2,?_,x.ac.kp o.k (V12.n (by simp) (by simp)),fun i hi=>?_⟩
 ·have e:(seqF (H.put s X').n fun i=>[ptr (if i=s then y' else Y i).bp])=seqF H.n fun i=>[ptr (Y i).bp]:=seqF_congr fun i hi=>by
   by_cases his:i=s
   ·subst his; simp[hb]
   ·simp -implicitDefEqProofs[his]
  rw[e]
  exact x.st.kp o.k (V12.n (by simp) (by simp))
 ·simp -implicitDefEqProofs only[Hall.put,sput]
  by_cases his:i=s
  ·subst his; simp only[if_true]; exact r
  ·simp -implicitDefEqProofs only[if_neg his]; exact (x.sr i hi).kp o.k (V12.n (by simp[his]) (by simp[his])) (V12.n (by simp[his]) (by simp[his])) (V12.nil _ _)
theorem RhX.cnt {T:Tags}{h:Heap}{g:Tag}{p:Nat}{H:Hall}{sv av:Value}{Y:Nat→RSx}(x:RhX T h g p H sv av Y){m:Nat}(hs:HS m H){s:Nat}(hlt:s<H.n):(Y s).ps.length≤8*m:=by
 have h1:=(hs.st s hlt).fd.len
 have h2:=(x.sr s hlt).pp.len
 omega
end Go.Proofs.YtmbningljbcpkaaGreat
namespace Go.Proofs.YtmbningljbcpkaaGreat
open Go Go.Den Go.MapKept
set_option linter.unusedSimpArgs false
set_option linter.unusedVariables false
set_option maxRecDepth 20000
theorem rfd_q {room:Int}{pv:Value}{qv:Nat→Value}{lost:Nat→Bool}{n:Nat}(hn:n<8):(rfdC room pv qv lost).toArray[2+n]?=some (qv n):=by
 rcases (by omega:n=0∨n=1∨n=2∨n=3∨n=4∨n=5∨n=6∨n=7) with rfl | rfl | rfl | rfl | rfl | rfl | rfl | rfl<;>rfl
theorem rfd_over {room:Int}{pv x:Value}{qv:Nat→Value}{lost:Nat→Bool}{n:Nat}(hn:n<8):over (rfdC room pv qv lost).toArray (2+n) [x]=(rfdC room pv (fun j=>if j=n then x else qv j) lost).toArray:=by
 rcases (by omega:n=0∨n=1∨n=2∨n=3∨n=4∨n=5∨n=6∨n=7) with rfl | rfl | rfl | rfl | rfl | rfl | rfl | rfl<;>rfl
theorem rfd_lost {room:Int}{pv:Value}{b:Bool}{qv:Nat→Value}{lost:Nat→Bool}{n:Nat}(hn:n<8):over (rfdC room pv qv lost).toArray (10+n) [.bool b]=(rfdC room pv qv (fun j=>if j=n then b else lost j)).toArray:=by
 rcases (by omega:n=0∨n=1∨n=2∨n=3∨n=4∨n=5∨n=6∨n=7) with rfl | rfl | rfl | rfl | rfl | rfl | rfl | rfl<;>rfl
theorem rfd_size (room:Int)(pv:Value)(qv:Nat→Value)(lost:Nat→Bool):(rfdC room pv qv lost).toArray.size=18:=rfl
theorem rf_evT {T:Tags}{h0 h:Heap}{v:Value}{l:List Evt}(r:Rf 8 qsZ h0 h v l.length (l.flatMap evC))(w:Wf T h0):Sl 8 EvR (fz T h) v l:=by
 rw[List.flatMap_def] at r
 exact r.sl w rfl (El.enc (enc:=evC) (fun _=>rfl) (fun y=>by simp[evC,presC]) fun h y=>rfl)
theorem ev_els {h:Heap}{v:Value}{l:List Evt}(x:Sl 8 EvR h v l):SlC 8 h v l.length (l.flatMap evC):=by
 obtain⟨L,h1,h2⟩:=x.els fun c y r=>by
  have:c=evC y:=r
  rw[this]; exact evC_one y
 have:L=l.map evC:=by
  apply List.ext_getElem (by simp[h2.len])
  intro i a b
  have:=h2.el i a (by simpa using b)
  simp -implicitDefEqProofs only[List.getElem_map]
  exact this
 rw[this,← List.flatMap_def] at h1
 exact h1
def RtO (T:Tags)(h:Heap)(g:Tag)(q:Nat)(room:Int)(pv:Value)(ps:List PairD)(f:Feed)(l:List Chg)(seq:Int)(v:Value)(h':Heap):Prop :=
 ∃ (qv:Nat→Value) (i:Nat),Only (fun t=>t=g) T h T h'∧RfB T h' g q room pv qv ps (f.tell (l.take i) seq)∧i≤l.length∧v = .int .i64 i
def RtIn (T:Tags)(h:Heap)(g:Tag)(q:Nat)(room:Int)(pv:Value)(ps:List PairD)(f:Feed)(c:Chg)(seq:Int)(v:Value)(h':Heap):Prop :=
 ∃ (qv:Nat→Value) (n:Nat),Only (fun t=>t=g) T h T h'∧RfB T h' g q room pv qv ps (f.tell1 c seq n)∧n≤8∧v = .int .i64 n
theorem RfB.qput {T:Tags}{h h':Heap}{g:Tag}{q:Nat}{room:Int}{pv v:Value}{qv:Nat→Value}{ps:List PairD}{f f':Feed}(x:RfB T h g q room pv qv ps f)(w:Wf T h)(gn:g≠[]){n:Nat}(hn:n<8){e:Evt}
  (hf:f'={ f with qs:=qset f.qs n { f.qs n with l:=(f.qs n).l++[e] } }) (r:Rf 8 qsZ h h' v ((f.qs n).l++[e]).length (((f.qs n).l++[e]).flatMap evC)) :
  ∃ o',h' q=some (.cells (rfdC room pv qv fun j=>(f.qs j).lost).toArray qtZ (0,0))∧o'=over (rfdC room pv qv fun j=>(f.qs j).lost).toArray (2+n) [v]∧Only (fun t=>t=g) T h T (upd h' q (.cells o' qtZ (0,0)))∧RfB T (upd h' q (.cells o' qtZ (0,0))) g q room pv (fun j=>if j=n then v else qv j) ps f':=by
 have cq:=r.ex _ _ x.hp
 have o1:Only (fun t=>t=g) T h T h':=Only.of_ext w r.ex
 have u:=fun o'=>Only.upd (U:=fun t=>t=g) (o':=o') o1.wf cq x.tq
 refine⟨_,cq,rfl,o1.trans (u _),?_⟩
 rw[rfd_over hn]
 have e2:=(u (.cells (rfdC room pv (fun j=>if j=n then v else qv j) fun j=>(f.qs j).lost).toArray qtZ (0,0))).ext (fun hh=>gn hh.symm)
 have e1:=fz_of_ext (T:=T) r.ex
 subst hf
 refine⟨?_,x.tq,x.pr.ext (@PairR.ext) (e1.trans e2),fun j hj=>?_⟩
 ·rw[upd_same']
  congr 3
  congr 1
  funext j
  by_cases hj:j=n
  ·subst hj; simp[qset]
  ·simp -implicitDefEqProofs[qset,hj]
 ·show Sl 8 EvR _ (if j=n then v else qv j) (qset f.qs n _ j).l
  by_cases hj':j=n
  ·subst hj'
   simp -implicitDefEqProofs only[if_true,qset]
   exact (rf_evT r w).ext (@EvR.ext) e2
  ·simp -implicitDefEqProofs only[if_neg hj',qset]
   exact (x.qs j hj).ext (@EvR.ext) (e1.trans e2)
theorem RfB.qlost {T:Tags}{h:Heap}{g:Tag}{q:Nat}{room:Int}{pv:Value}{qv:Nat→Value}{ps:List PairD}{f f':Feed}(x:RfB T h g q room pv qv ps f)(w:Wf T h)(gn:g≠[]){n:Nat}(hn:n<8)
  (hf:f'={ f with qs:=qset f.qs n { f.qs n with lost:=true } }) :
  ∃ o',o'=over (rfdC room pv qv fun j=>(f.qs j).lost).toArray (10+n) [.bool true]∧Only (fun t=>t=g) T h T (upd h q (.cells o' qtZ (0,0)))∧RfB T (upd h q (.cells o' qtZ (0,0))) g q room pv qv ps f':=by
 have u:=fun o'=>Only.upd (U:=fun t=>t=g) (o':=o') w x.hp x.tq
 refine⟨_,rfl,u _,?_⟩
 rw[rfd_lost hn]
 have e2:=(u (.cells (rfdC room pv qv fun j=>if j=n then true else (f.qs j).lost).toArray qtZ (0,0))).ext (fun hh=>gn hh.symm)
 subst hf
 refine⟨?_,x.tq,x.pr.ext (@PairR.ext) e2,fun j hj=>?_⟩
 ·rw[upd_same']
  congr 3
  congr 1
  funext j
  by_cases hj:j=n
  ·subst hj; simp[qset]
  ·simp -implicitDefEqProofs[qset,hj]
 ·show Sl 8 EvR _ (qv j) (qset f.qs n _ j).l
  by_cases hj':j=n
  ·subst hj'
   simp -implicitDefEqProofs only[if_true,qset]
   exact (x.qs j hj).ext (@EvR.ext) e2
  ·simp -implicitDefEqProofs only[if_neg hj',qset]
   exact (x.qs j hj).ext (@EvR.ext) e2
set_option maxHeartbeats 8000000 in
theorem rftell_ok (l : List Chg) (seq : Int) {T : Tags} {h : Heap} {g : Tag} {q : Nat} {room : Int} {pv : Value} {qv : Nat → Value} {ps : List PairD} {f : Feed} (w : Wf T h) (gn : g ≠ []) (x : RfB T h g q room pv qv ps f) (pp : FdP f ps) (fg : FdG f) (rm : RmE f room) (hp : ps.length < 1000000) {cv : Value}
    (cx : Sl 7 ChgR (fz T h) cv l) (hl : l.length < 1000000) {K : KTy} (hk : ∀ h' qv', Only (fun t => t = g) T h T h' → RfB T h' g q room pv qv' ps (f.tell l seq) → K (.tuple #[]) h') : callM P qaCZ #[ptr q, cv, .int .u64 seq] h K := by
  apply qsuZ
  unfold qffZ
  have hlen := cx.len
  have gn' : ¬ (fun t : Tag => t = g) [] := fun h => gn h.symm
  refine loop_on [0, 1, 2] (fun s h' => RtO T h g q room pv ps f l seq (s 6) h') (fun s _ => (l.length - num (s 6)).toNat) ⟨qv, 0, Only.refl w, by simpa [Feed.tell] using x, by omega, rfl⟩ ?_
  rintro s h1 hf ⟨qv1, i, o1, x1, hi, s6⟩
  have s0 : s 0 = ptr q := by simpa using hf 0 (by simp)
  have s1 : s 1 = cv := by simpa using hf 1 (by simp)
  have s2 : s 2 = .int .u64 seq := by simpa using hf 2 (by simp)
  unfold qjgZ
  simp -implicitDefEqProofs only [s6, s1, hlen, bin_lss, ov_s, cd_b]
  refine ⟨fun hc => ?_, fun hc => ?_⟩
  rotate_left
  · have : i = l.length := by have : ¬ ((i : Int) < l.length) := by simpa using hc
                              omega
    subst this
    rw [List.take_length] at x1
    simp -implicitDefEqProofs
    exact hk h1 _ o1 x1
  have hlt : i < l.length := by have : ((i : Int) < l.length) := by simpa using hc
                                omega
  have hw : IntKind.i64.wrap ((i : Int) + 1) = (i + 1 : Nat) := by rw [wrap64_id (by omega) (by omega)]; omega
  unfold qjfZ
  rw [seqM_eq]
  unfold qjeZ
  obtain ⟨b, p, i1, i2⟩ := chg_ld cx (k := .i64) hlt
  obtain ⟨c, hcc⟩ : ∃ c, l[i] = c := ⟨_, rfl⟩
  have hs1 := tell_succ f l seq hlt
  obtain ⟨f1, hf1⟩ : ∃ f1, f.tell (l.take i) seq = f1 := ⟨_, rfl⟩
  have fg1 : FdG f1 := hf1 ▸ fg.tell seq _
  have pp1 : FdP f1 ps := hf1 ▸ pp.tell _ seq
  have rm1 : RmE f1 room := hf1 ▸ rm.tell seq _
  rw [hf1] at x1 hs1
  rw [hcc] at hs1 i2
  refine loop_on [0, 1, 2, 6] (fun s' h' => RtIn T h g q room pv ps f1 c seq (s' 7) h') (fun s' _ => (8 - num (s' 7)).toNat) ⟨qv1, 0, o1, x1, by omega, rfl⟩ ?_
  rintro s' h3 hf' ⟨qv3, n, o3, X3, hn, s7⟩
  have t0 : s' 0 = ptr q := by simpa [s0] using hf' 0 (by simp)
  have t1 : s' 1 = cv := by simpa [s1] using hf' 1 (by simp)
  have t2 : s' 2 = .int .u64 seq := by simpa [s2] using hf' 2 (by simp)
  have t6 : s' 6 = .int .i64 i := by simpa [s6] using hf' 6 (by simp)
  unfold qjdZ
  simp -implicitDefEqProofs only [s7, bin_lss, ov_s, cd_b]
  refine ⟨fun hc8 => ?_, fun hc8 => ?_⟩
  rotate_left
  · have : n = 8 := by have : ¬ ((n : Int) < 8) := by simpa using hc8
                       omega
    subst this
    simp -implicitDefEqProofs [t6, hw, t0, t1, t2, s0, s1, s2, s6, -Int.natCast_add]
    exact ⟨⟨qv3, i + 1, o3, by rw [hs1]; exact X3, by omega, rfl⟩, by omega⟩
  have hn8 : n < 8 := by have : ((n : Int) < 8) := by simpa using hc8
                         omega
  have hw8 : IntKind.i64.wrap ((n : Int) + 1) = (n + 1 : Nat) := by rw [wrap64_id (by omega) (by omega)]; omega
  have fg3 : FdG (f1.tell1 c seq n) := fg1.tell1 c seq n
  have pp3 : FdP (f1.tell1 c seq n) ps := pp1.tell1 c seq n
  have rm3 : RmE (f1.tell1 c seq n) room := rm1.tell1 c seq n
  obtain ⟨f3, hf3⟩ : ∃ f3, f1.tell1 c seq n = f3 := ⟨_, rfl⟩
  have hsucc : f1.tell1 c seq (n + 1) = if f1.watching n c.user then { f3 with qs := qset f3.qs n ((f3.qs n).put ⟨c.user, c.old, c.new, seq⟩) } else f3 := by rw [← hf3]; rfl
  have hwt : f3.watching n c.user = f1.watching n c.user := by rw [← hf3]; unfold Feed.watching; rw [tell1_ws]
  rw [hf3] at X3 fg3 pp3 rm3
  have e3 : Ext (fz T h) h3 := (o3.ext gn').trans (fz_ext _ _)
  have ic := i2 _ e3
  have q0 : cel h3 b p = some (.string c.user) := (cels_get ic).2 0 (by simp [chgC])
  have ld1 : ldV (some (some 3)) (.pointer (some ⟨b, p + 1, none⟩)) h3 = some (.agg (presC c.old).toArray) := by
    have := cels_sub ic (j := 1) (m := 3) (by omega)
    simpa [chgC, presC] using ldV_n this
  have ld4 : ldV (some (some 3)) (.pointer (some ⟨b, p + 4, none⟩)) h3 = some (.agg (presC c.new).toArray) := by
    have := cels_sub ic (j := 4) (m := 3) (by omega)
    simpa [chgC, presC] using ldV_n this
  have cq := X3.hp
  have cqn : cel h3 q (2 + n) = some (qv3 n) := by rw [cel_of cq]; exact rfd_q hn8
  have cq0 : cel h3 q 0 = some (.int .i64 room) := by rw [cel_of cq]; rfl
  have xqn := (X3.qs n hn8).ext (@EvR.ext) (fz_ext T h3)
  have lqn := xqn.len
  have gqn := fg3.qs n hn8
  unfold qjcZ
  rw [seqM_eq]
  unfold qjbZ
  simp -implicitDefEqProofs [t0, t1, t6, s7, i1, q0]
  refine rfwatching_ok cq (X3.pr.ext (@PairR.ext) (fz_ext T h3)) hp n c.user ?_
  rw [pp3.watching fg3, hwt]
  unfold qjaZ
  cases hwa : f1.watching n c.user with
  | false =>
    rw [hwa] at hsucc
    simp -implicitDefEqProofs
    unfold qiYZ
    simp -implicitDefEqProofs [hw8, t0, t1, t2, t6, s7, s0, s1, s2, s6, -Int.natCast_add]
    exact ⟨⟨qv3, n + 1, o3, by rw [hsucc]; exact X3, by omega, rfl⟩, by omega⟩
  | true =>
    rw [hwa, if_pos rfl] at hsucc
    simp -implicitDefEqProofs
    unfold qiZZ
    simp -implicitDefEqProofs [t0, s7, ia_arr hn8, cqn, lqn, cq0]
    refine ⟨fun hfull => ?_, fun hroom => ?_⟩
    · obtain ⟨o', ho', oo, X'⟩ := X3.qlost (f' := f1.tell1 c seq (n + 1)) o3.wf gn hn8 (by rw [hsucc]; unfold Ring.put; rw [if_pos (by rw [rm3 n hn8]; omega)])
      unfold qhHZ
      simp -implicitDefEqProofs [t0, s7, ia_arr hn8]
      rw [stm_at cq (by simp) (by rw [rfd_size]; omega) (by simp)]
      simp -implicitDefEqProofs [hw8, t0, t1, t2, t6, s7, s0, s1, s2, s6, -Int.natCast_add]
      rw [← ho']
      exact ⟨⟨qv3, n + 1, o3.trans oo, X', by omega, rfl⟩, by omega⟩
    · obtain ⟨ev, hev⟩ : ∃ ev : Evt, ev = ⟨c.user, c.old, c.new, seq⟩ := ⟨_, rfl⟩
      have hput : f1.tell1 c seq (n + 1) = { f3 with qs := qset f3.qs n { f3.qs n with l := (f3.qs n).l ++ [ev] } } := by
        rw [hsucc]; unfold Ring.put; rw [if_neg (by rw [rm3 n hn8]; omega), hev]
      have reads : ∀ {h'}, Ext h3 h' → cel h' q (2 + n) = some (qv3 n) ∧ cel h' b p = some (.string c.user) ∧ ldV (some (some 3)) (.pointer (some ⟨b, p + 1, none⟩)) h' = some (.agg (presC c.old).toArray) ∧ ldV (some (some 3)) (.pointer (some ⟨b, p + 4, none⟩)) h' = some (.agg (presC c.new).toArray) := fun {h'} e => by
        have ic' := i2 _ (e3.trans e)
        refine ⟨by rw [cel_of (e _ _ cq)]; exact rfd_q hn8, (cels_get ic').2 0 (by simp [chgC]), ?_, ?_⟩
        · have := cels_sub ic' (j := 1) (m := 3) (by omega)
          simpa [chgC, presC] using ldV_n this
        · have := cels_sub ic' (j := 4) (m := 3) (by omega)
          simpa [chgC, presC] using ldV_n this
      have evA : Value.agg #[.string c.user, .int .i64 c.old.st, .int .i64 c.old.pr, .int .i64 c.old.lv, .int .i64 c.new.st, .int .i64 c.new.pr, .int .i64 c.new.lv, .int .u64 seq] = .agg (evC ev).toArray := by rw [hev]; rfl
      have evs : (Value.agg (evC ev).toArray).cells.size = 8 := by simp [evC, presC]
      have onel : ∀ (l : List Evt) (u : Value), u ∈ l.flatMap evC → u.oneCell' = true := fun l u hu => by
        obtain ⟨y, _, hy⟩ := List.mem_flatMap.1 hu
        exact evC_one y u hy
      have hfl : ((f3.qs n).l ++ [ev]).flatMap evC = (f3.qs n).l.flatMap evC ++ evC ev := by simp
      have g16 := gqn.2.2
      have app : ∀ {h1 : Heap} {v1 : Value} {K' : KTy}, Rf 8 qsZ h3 h1 v1 0 [] → (∀ v2 h2, Rf 8 qsZ h3 h2 v2 (f3.qs n).l.length ((f3.qs n).l.flatMap evC) → (∀ b o, h1 b = some o → rowOf v1 ≠ some b → h2 b = some o) → K' v2 h2) → vvM P (Builtin.append_ #[qeZ, qeZ] qeZ #[v1, qv3 n]) h1 K' := fun {h1 v1 K'} r1 hK => by
        refine Rf.app2 unSlEv apEv (by omega) r1 (ev_els (xqn.ext (@EvR.ext) r1.ex)) (onel _) (by unfold maxLen; omega) (by omega) fun v2 h2 r2 kp2 _ => ?_
        refine hK v2 h2 ?_ kp2
        simpa using r2
      have app1 : ∀ {h1 : Heap} {v1 : Value} {be : Nat} {K' : KTy}, Rf 8 qsZ h3 h1 v1 (f3.qs n).l.length ((f3.qs n).l.flatMap evC) → h1 be = some (.cells (evC ev).toArray qsZ (0, 0)) → (∀ v2 h2, Rf 8 qsZ h3 h2 v2 ((f3.qs n).l ++ [ev]).length (((f3.qs n).l ++ [ev]).flatMap evC) → K' v2 h2) →
          vvM P (Builtin.append_ #[qeZ, qeZ] qeZ #[v1, .slice (some ⟨be, 0, none⟩) 1 1]) h1 K' := fun {h1 v1 be K'} r1 cb hK => by
        refine Rf.app2 (m := 1) (news := evC ev) unSlEv apEv (by omega) r1 (.inr ⟨be, 0, 1, rfl, cels_one (x := .agg (evC ev).toArray) cb (by simp [evC, presC])⟩) (evC_one ev) (by unfold maxLen; omega) (by omega) fun v2 h2 r2 _ _ => ?_
        refine hK v2 h2 ?_
        rw [hfl]; simpa using r2
      have fin : ∀ {h' : Heap} {v' : Value}, Rf 8 qsZ h3 h' v' ((f3.qs n).l ++ [ev]).length (((f3.qs n).l ++ [ev]).flatMap evC) → ∀ {Q : Post} (ss : Env) (m : List Nat), (∀ h'', RtIn T h g q room pv ps f1 c seq (.int .i64 (n + 1 : Nat)) h'' → Q .normal m ss h'') → stM (some 1) (.pointer (some ⟨q, 2 + n, none⟩)) v' h' fun h'' => Q .normal m ss h'' := by
        intro h' v' r Q ss m hQ
        obtain ⟨o', hq', ho', oo, X'⟩ := X3.qput o3.wf gn hn8 hput r
        have ro := r.row.one
        rw [stm_at hq' (by simp [ro.2]) (by rw [rfd_size]; omega) (by simp [ro.1, ro.2])]
        simp -implicitDefEqProofs only [ro.2]
        rw [← ho']
        exact hQ _ ⟨_, n + 1, o3.trans oo, X', by omega, rfl⟩
      unfold qhOZ
      obtain ⟨z1, z2, z3, z4⟩ := reads (Ext.refl h3)
      simp -implicitDefEqProofs only [presC] at z3 z4
      simp -implicitDefEqProofs [t0, t1, t2, t6, s7, ia_arr hn8, i1, z1, z2, z3, z4, bdEv]
      rw [evA]
      refine ⟨?_, ?_⟩
      · unfold qhLZ
        refine bs_none bsEv fun v1 h4 e4 row4 hr4 new4 => ?_
        have r4 : Rf 8 qsZ h3 h4 v1 0 [] := ⟨e4, row4, new4, by simp⟩
        obtain ⟨z1, z2, z3, z4⟩ := reads e4
        refine ⟨z1, z2, z3, z4, ?_, ?_⟩
        · refine app r4 fun v5 h5 r5 _ => ?_
          obtain ⟨z1, z2, z3, z4⟩ := reads r5.ex
          unfold qhJZ
          refine ⟨z2, z3, z4, ?_⟩
          refine bs_one bsEv evs (by omega) fun be h6 n6 e6 c6 => ?_
          refine app1 (r5.ext e6) c6 fun v7 h7 r7 => ?_
          unfold qhIZ
          simp -implicitDefEqProofs only [s7, ia_arr hn8, ov_s]
          refine fin r7 _ _ fun h'' J => ?_
          simp -implicitDefEqProofs [hw8, t0, t1, t2, t6, s7, s0, s1, s2, s6, -Int.natCast_add]
          exact ⟨J, by omega⟩
        · refine bs_one bsEv evs (by omega) fun be h5 n5 e5 c5 => ?_
          obtain ⟨z1, z2, z3, z4⟩ := reads (e4.trans e5)
          refine ⟨z1, ?_⟩
          refine app (r4.ext e5) fun v6 h6 r6 kp6 => ?_
          have c6 := kp6 be _ c5 fun hh => by
            obtain ⟨o, ho⟩ := row4.lt be hh
            rw [n5] at ho; cases ho
          refine app1 r6 c6 fun v7 h7 r7 => ?_
          unfold qhKZ
          simp -implicitDefEqProofs only [s7, ia_arr hn8, ov_s]
          refine fin r7 _ _ fun h'' J => ?_
          simp -implicitDefEqProofs [hw8, t0, t1, t2, t6, s7, s0, s1, s2, s6, -Int.natCast_add]
          exact ⟨J, by omega⟩
      · unfold qhNZ
        refine bs_one bsEv evs (by omega) fun be h4 n4 e4 c4 => ?_
        obtain ⟨z1, z2, z3, z4⟩ := reads e4
        refine ⟨z1, ?_⟩
        refine bs_none bsEv fun v1 h5 e5 row5 hr5 new5 => ?_
        have r5 : Rf 8 qsZ h3 h5 v1 0 [] := ⟨e4.trans e5, row5, fun g hg => fresh_of e4 (new5 g hg), by simp⟩
        obtain ⟨z1, z2, z3, z4⟩ := reads (e4.trans e5)
        refine ⟨z1, ?_⟩
        refine app r5 fun v6 h6 r6 kp6 => ?_
        have c6 := kp6 be _ (e5 _ _ c4) fun hh => by
          have := new5 be hh
          rw [c4] at this; cases this
        refine app1 r6 c6 fun v7 h7 r7 => ?_
        unfold qhMZ
        simp -implicitDefEqProofs only [s7, ia_arr hn8, ov_s]
        refine fin r7 _ _ fun h'' J => ?_
        simp -implicitDefEqProofs [hw8, t0, t1, t2, t6, s7, s0, s1, s2, s6, -Int.natCast_add]
        exact ⟨J, by omega⟩
end Go.Proofs.YtmbningljbcpkaaGreat
namespace Go.Proofs.YtmbningljbcpkaaGreat
open Go Go.Den Go.MapKept
set_option linter.unusedSimpArgs false
set_option linter.unusedVariables false
set_option maxRecDepth 20000
variable {K:KTy}
theorem radd_ok (a b:Int)(ha:U64 a)(hb:U64 b){h:Heap}(hk:K (.int .u64 (addU a b)) h):callM P qbhZ #[.int .u64 a,.int .u64 b] h K:=by
 apply qryZ
 unfold qgsZ
 unfold U64 at ha hb
 have w1:IntKind.u64.wrap (18446744073709551615-a)=18446744073709551615-a:=wrapU_id (by omega) (by omega)
 unfold addU at hk
 by_cases hc:18446744073709551615-a<b
 ·rw[if_pos hc] at hk
  simp -implicitDefEqProofs[w1,hc]; exact hk
 ·rw[if_neg hc] at hk
  have w2:IntKind.u64.wrap (a+b)=a+b:=wrapU_id (by omega) (by omega)
  simp -implicitDefEqProofs[w1,hc,w2]; exact hk
theorem lc_V03 {g:Tag}(gg:Gd g):¬ V03 g lc:=by rintro (h | h)<;>exact lc_ne g gg _ h
theorem RhR.lst {T:Tags}{h:Heap}{g:Tag}{p:Nat}{H:Hall}(x:RhR T h g p H)(gg:Gd g){b:Nat}{o o':Obj}(w:Wf T h)(e:h b=some o∧T b=lc):RhR T (upd h b o') g p H:=x.kp (Only.lst w e).k gg.off (by simp)
theorem RhX.tst {T:Tags}{h:Heap}{g:Tag}{p:Nat}{H:Hall}{sv av:Value}{Y:Nat→RSx}(x:RhX T h g p H sv av Y)(w:Wf T h)(t:Tm) :
  Only (fun u=>u=g++[0]) T h T (upd h p (.cells (rhC { H with t:=t } sv av).toArray qzZ (0,0)))∧RhX T (upd h p (.cells (rhC { H with t:=t } sv av).toArray qzZ (0,0))) g p { H with t:=t } sv av Y:=by
 have o:Only (fun u=>u=g++[0]) T h T (upd h p (.cells (rhC { H with t:=t } sv av).toArray qzZ (0,0))):=Only.upd w x.hp x.tp
 exact⟨o,upd_same' _ _ _,x.tp,x.st.kp o.k (ne_tag (by simp)),x.ac.kp o.k (ne_tag (by simp)),fun i hi=>(x.sr i hi).kp o.k (ne_tag (by simp)) (ne_tag (by simp)) (by simp)⟩
theorem rz_look (who:Int){T:Tags}{h:Heap}{g:Tag}{p:Nat}{H:Hall}(w:Wf T h)(gg:Gd g)(x:RhR T h g p H)(hl:H.acts.length<1000000)
  (hk:∀ T' h',Only (pre g) T h T' h'→RhR T' h' g p (H.look who)→K (.agg (tmC H.t).toArray) h'):callM P qezZ #[ptr p,.int .i64 who] h K:=by
 apply qspZ
 unfold qfbZ
 rw[zcTime]
 refine nw_tag w lc fun v1 T1 h1 n1 o1 t1 c1=>?_
 obtain⟨sv,av,Y,x1⟩:=x.kp o1.k (Off.non _) (not_non _)
 have b1:h1 v1=_∧T1 v1=lc:=⟨c1,t1⟩
 refine rz_did who 3 0 o1.wf x1 hl fun T2 h2 av2 o2 x2=>?_
 have b1:=o2.see b1 (lc_V03 gg)
 have c1:=b1.1
 have cp:=x2.hp
 simp -implicitDefEqProofs only[rhC] at cp
 unfold qiQZ
 simp -implicitDefEqProofs[ld_at c1,cel_of c1,stm_at c1,ld_at cp,cel_of cp,stm_at cp,stm_upd,ld_same,cel_same,over]
 exact hk T2 _ (((o1.mono fun _=>non_up _).up o2 fun _=>V03.pre).own n1 b1.1) (RhR.lst ⟨sv,av2,Y,x2⟩ gg o2.wf b1)
theorem rz_pass (who by_:Int)(hb:U64 by_){T:Tags}{h:Heap}{g:Tag}{p:Nat}{H:Hall}(w:Wf T h)(x:RhR T h g p H)(ht:U64 H.t.now)(hl:H.acts.length<1000000)
  (hk:∀ T' h',Only (pre g) T h T' h'→RhR T' h' g p (H.pass who by_)→K (.tuple #[]) h'):callM P qeyZ #[ptr p,.int .i64 who,.int .u64 by_] h K:=by
 apply qsnZ
 unfold qfaZ
 obtain⟨sv,av,Y,x⟩:=x
 refine rz_did who 4 0 w x hl fun T2 h2 av2 o2 x2=>?_
 have cp:=x2.hp
 simp -implicitDefEqProofs only[rhC] at cp
 unfold qiPZ
 simp -implicitDefEqProofs[ld_at cp,cel_of cp,stm_at cp,stm_upd,ld_same,cel_same,over,Hall.did]
 refine radd_ok _ _ ht hb ?_
 obtain⟨o4,x4⟩:=x2.tst o2.wf { H.t with now:=addU H.t.now by_ }
 simp -implicitDefEqProofs[ld_at cp,cel_of cp,stm_at cp,stm_upd,ld_same,cel_same,over]
 exact hk T2 _ ((o2.mono fun _=>V03.pre).up o4 fun t=>eq_pre) ⟨sv,av2,Y,x4⟩
theorem rz_shut (who:Int){T:Tags}{h:Heap}{g:Tag}{p:Nat}{H:Hall}(w:Wf T h)(x:RhR T h g p H)(hl:H.acts.length<1000000)
  (hk:∀ T' h',Only (pre g) T h T' h'→RhR T' h' g p (H.shut who)→K (.bool (!H.t.closed)) h'):callM P qeBZ #[ptr p,.int .i64 who] h K:=by
 apply qsrZ
 unfold qfdZ
 obtain⟨sv,av,Y,x⟩:=x
 refine rz_did who 4 0 w x hl fun T2 h2 av2 o2 x2=>?_
 have cp:=x2.hp
 simp -implicitDefEqProofs only[rhC] at cp
 unfold qiTZ
 obtain⟨o4,x4⟩:=x2.tst o2.wf { H.t with closed:=true }
 simp -implicitDefEqProofs[ld_at cp,cel_of cp,stm_at cp,stm_upd,ld_same,cel_same,over,Hall.did]
 exact hk T2 _ ((o2.mono fun _=>V03.pre).up o4 fun t=>eq_pre) ⟨sv,av2,Y,x4⟩
theorem rz_take (who:Int){T:Tags}{h:Heap}{g:Tag}{p:Nat}{H:Hall}(w:Wf T h)(gg:Gd g)(x:RhR T h g p H)(ht:U64 H.t.seq)(hl:H.acts.length<1000000)
  (hk:∀ T' h',Only (pre g) T h T' h'→RhR T' h' g p (H.take who)→K (.agg (tmC { H.t with seq:=addU H.t.seq 1 }).toArray) h'):callM P qeAZ #[ptr p,.int .i64 who] h K:=by
 apply qsqZ
 unfold qfcZ
 rw[zcTime]
 refine nw_tag w lc fun v1 T1 h1 n1 o1 t1 c1=>?_
 obtain⟨sv,av,Y,x1⟩:=x.kp o1.k (Off.non _) (not_non _)
 have b1:h1 v1=_∧T1 v1=lc:=⟨c1,t1⟩
 refine rz_did who 4 0 o1.wf x1 hl fun T2 h2 av2 o2 x2=>?_
 have b1:=o2.see b1 (lc_V03 gg)
 have cp:=x2.hp
 simp -implicitDefEqProofs only[rhC] at cp
 unfold qiSZ
 simp -implicitDefEqProofs[ld_at cp,cel_of cp,stm_at cp,stm_upd,ld_same,cel_same,over,Hall.did]
 refine radd_ok _ _ ht (by simp[U64]) ?_
 obtain⟨o4,x4⟩:=x2.tst o2.wf { H.t with seq:=addU H.t.seq 1 }
 have b1:=o4.see b1 (lc_ne g gg _)
 have c1:=b1.1
 have cp4:=x4.hp
 have oo:Only (pre g) T h T2 _:=((o1.mono fun _=>non_up _).up o2 fun _=>V03.pre).up o4 fun t=>eq_pre
 unfold qiRZ
 simp -implicitDefEqProofs[ld_at cp,cel_of cp,stm_at cp,stm_upd,ld_same,cel_same,over,Hall.did]
 simp -implicitDefEqProofs only[rhC,Hall.did] at c1 cp4 x4 oo b1
 generalize upd h2 p _=h4 at *
 simp -implicitDefEqProofs[ld_at cp4,cel_of cp4,stm_at cp4,ld_at c1,cel_of c1,stm_at c1,stm_upd,ld_same,cel_same,over]
 exact hk T2 _ (oo.own n1 c1) (RhR.lst ⟨sv,av2,Y,x4⟩ gg oo.wf b1)
theorem put_self (H:Hall)(s:Nat):H.put s (H.ss s)=H:=by
 have:sput H.ss s (H.ss s)=H.ss:=by
  funext k
  simp -implicitDefEqProofs only[sput]
  split
  ·rename_i h; rw[h]
  ·rfl
 unfold Hall.put
 rw[this]
theorem pl4 {s:Nat}(hs:s<8):IntKind.i64.wrap (4*(s:Int))=4*s∧(∀ k:Int,0≤k→k≤4→IntKind.i64.wrap (4*(s:Int)+k)=4*s+k):=⟨wrap64_id (by omega) (by omega),fun k h1 h2=>wrap64_id (by omega) (by omega)⟩
section
variable {s:Nat}{T:Tags}{h:Heap}{g:Tag}{p:Nat}{H:Hall}{K:KTy}
theorem rz_epoch (who:Int)(w:Wf T h)(x:RhR T h g p H)(hs:s<H.n)(h8:H.n≤8)(hl:H.acts.length<1000000)
  (hk:∀ T' h',Only (pre g) T h T' h'→RhR T' h' g p (H.epoch who s)→K (.int .u64 (H.ss s).v) h'):callM P qasZ #[ptr p,.int .i64 who,.int .i64 s] h K:=by
 apply qrXZ
 unfold qeEZ
 obtain⟨sv,av,Y,x⟩:=x
 obtain⟨w4,w5⟩:=pl4 (show s<8 by omega)
 simp -implicitDefEqProofs[w4,w5 2 (by omega) (by omega)]
 refine rz_did who 3 _ w x hl fun T2 h2 av2 o2 x2=>?_
 have cp:=x2.hp
 simp -implicitDefEqProofs only[rhC] at cp
 obtain⟨b,ia,cb⟩:=x2.at_ (k:=.i64) (s:=s) hs
 have cs:=(x2.sr s hs).hp
 simp -implicitDefEqProofs only[rstC] at cs
 unfold qhtZ
 simp -implicitDefEqProofs[ld_at cp,cel_of cp,stm_at cp,ld_at cs,cel_of cs,stm_at cs,stm_upd,ld_same,cel_same,over,ia,cb]
 exact hk T2 _ (o2.mono fun _=>V03.pre) ⟨sv,av2,Y,x2⟩
theorem rz_snap (who:Int)(w:Wf T h)(x:RhR T h g p H)(hs:s<H.n)(h8:H.n≤8)(hl:H.acts.length<1000000)
  (hk:∀ T' h' v,Only (pre g) T h T' h'→RhR T' h' g p (H.snap who s)→Sl 5 UsrR (fz T' h') v (H.ss s).snap→K v h'):callM P qaBZ #[ptr p,.int .i64 who,.int .i64 s] h K:=by
 apply qsmZ
 unfold qeZZ
 obtain⟨sv,av,Y,x⟩:=x
 obtain⟨w4,w5⟩:=pl4 (show s<8 by omega)
 simp -implicitDefEqProofs[w4,w5 3 (by omega) (by omega)]
 refine rz_did who 3 _ w x hl fun T2 h2 av2 o2 x2=>?_
 have cp:=x2.hp
 simp -implicitDefEqProofs only[rhC] at cp
 obtain⟨b,ia,cb⟩:=x2.at_ (k:=.i64) (s:=s) hs
 have cs:=(x2.sr s hs).hp
 simp -implicitDefEqProofs only[rstC] at cs
 unfold qiOZ
 simp -implicitDefEqProofs[ld_at cp,cel_of cp,stm_at cp,ld_at cs,cel_of cs,stm_at cs,stm_upd,ld_same,cel_same,over,ia,cb]
 exact hk T2 _ _ (o2.mono fun _=>V03.pre) ⟨sv,av2,Y,x2⟩ (x2.sr s hs).sn
theorem RhX.stw {sv av:Value}{Y:Nat→RSx}(x:RhX T h g p H sv av Y)(w:Wf T h)(hs:s<H.n)(X':Strp)(sn' bk':Value)(h1:Sl 5 UsrR (fz T h) sn' X'.snap)(h2:Sl 5 UsrR (fz T h) bk' X'.book)(hf:X'.feed=(H.ss s).feed)(hb:X'.bound=(H.ss s).bound) :
  Only (V12 g s) T h T (upd h (Y s).bp (.cells (rstC X' { Y s with sn:=sn',bk:=bk' }).toArray qHZ (0,0))) ∧
  RhX T (upd h (Y s).bp (.cells (rstC X' { Y s with sn:=sn',bk:=bk' }).toArray qHZ (0,0))) g p (H.put s X') sv av (fun k=>if k=s then { Y s with sn:=sn',bk:=bk' } else Y k):=by
 have r:=x.sr s hs
 have o1:Only (fun t=>t=g++[1,s]) T h T (upd h (Y s).bp (.cells (rstC X' { Y s with sn:=sn',bk:=bk' }).toArray qHZ (0,0))):=Only.upd w r.hp r.tp
 have o2:=o1.mono (V:=V12 g s) fun t e=>.inl e
 have e:=o1.ext (by simp)
 refine⟨o2,x.sett o2 ⟨upd_same' _ _ _,r.tp,h1.ext (@UsrR.ext) e,h2.ext (@UsrR.ext) e,?_,by rw[hf]; exact r.pp,by rw[hf]; exact r.rm,by rw[hb]; exact r.bd⟩ rfl⟩
 rw[hf]
 exact r.fd.kp o1.k (ne_tag (by simp)) (by simp)
theorem rz_begin (who:Int)(w:Wf T h)(x:RhR T h g p H)(hs:s<H.n)(h8:H.n≤8)(hl:H.acts.length<1000000)(hv:U64 (H.ss s).v)(he:U64 H.c.epochs)
  (hk:∀ T' h',Only (pre g) T h T' h'→RhR T' h' g p (H.begin who s)→K (.tuple #[]) h'):callM P qecZ #[ptr p,.int .i64 who,.int .i64 s] h K:=by
 apply qrYZ
 unfold qeFZ
 obtain⟨sv,av,Y,x⟩:=x
 obtain⟨w4,w5⟩:=pl4 (show s<8 by omega)
 simp -implicitDefEqProofs[w4,w5 2 (by omega) (by omega)]
 refine rz_did who 4 _ w x hl fun T2 h2 av2 o2 x2=>?_
 have cp:=x2.hp
 simp -implicitDefEqProofs only[rhC] at cp
 obtain⟨b,ia,cb⟩:=x2.at_ (k:=.i64) (s:=s) hs
 have r:=x2.sr s hs
 have cs:=r.hp
 simp -implicitDefEqProofs only[rstC] at cs
 unfold qhvZ
 simp -implicitDefEqProofs[ld_at cp,cel_of cp,stm_at cp,ld_at cs,cel_of cs,stm_at cs,stm_upd,ld_same,cel_same,over,ia,cb]
 refine rbegin05_ok _ _ hv he ?_
 unfold qhuZ
 simp -implicitDefEqProofs[ld_at cp,cel_of cp,stm_at cp,ld_at cs,cel_of cs,stm_at cs,stm_upd,ld_same,cel_same,over,ia,cb]
 obtain⟨o4,x4⟩:=x2.stw o2.wf hs { (H.did who 4 (4*s+2)).ss s with v:=bgn (H.ss s).v (H.ss s).bound } (Y s).sn (Y s).bk r.sn r.bk rfl rfl
 have hb:=r.bd
 rw[show (H.did who 4 (4*(s:Int)+2)).ss s=H.ss s from rfl,show (H.did who 4 (4*(s:Int)+2)).c=H.c from rfl] at *
 rw[← hb]
 exact hk T2 _ ((o2.mono fun _=>V03.pre).up o4 fun t=>V12.pre) ⟨sv,av2,_,x4⟩
theorem rz_end (who:Int)(w:Wf T h)(x:RhR T h g p H)(hs:s<H.n)(h8:H.n≤8)(hl:H.acts.length<1000000)(hv:0≤(H.ss s).v∧(H.ss s).v<18446744073709551615)
  (hk:∀ T' h',Only (pre g) T h T' h'→RhR T' h' g p (H.end_ who s)→K (.tuple #[]) h'):callM P qeXZ #[ptr p,.int .i64 who,.int .i64 s] h K:=by
 apply qsFZ
 unfold qglZ
 obtain⟨sv,av,Y,x⟩:=x
 obtain⟨w4,w5⟩:=pl4 (show s<8 by omega)
 simp -implicitDefEqProofs[w4,w5 2 (by omega) (by omega)]
 refine rz_did who 4 _ w x hl fun T2 h2 av2 o2 x2=>?_
 have cp:=x2.hp
 simp -implicitDefEqProofs only[rhC] at cp
 obtain⟨b,ia,cb⟩:=x2.at_ (k:=.i64) (s:=s) hs
 have r:=x2.sr s hs
 have cs:=r.hp
 simp -implicitDefEqProofs only[rstC] at cs
 unfold qjYZ
 simp -implicitDefEqProofs[ld_at cp,cel_of cp,stm_at cp,ld_at cs,cel_of cs,stm_at cs,stm_upd,ld_same,cel_same,over,ia,cb]
 refine rend05_ok _ hv ?_
 unfold qjXZ
 simp -implicitDefEqProofs[ld_at cp,cel_of cp,stm_at cp,ld_at cs,cel_of cs,stm_at cs,stm_upd,ld_same,cel_same,over,ia,cb]
 obtain⟨o4,x4⟩:=x2.stw o2.wf hs { (H.did who 4 (4*s+2)).ss s with v:=endV (H.ss s).v } (Y s).sn (Y s).bk r.sn r.bk rfl rfl
 exact hk T2 _ ((o2.mono fun _=>V03.pre).up o4 fun t=>V12.pre) ⟨sv,av2,_,x4⟩
theorem rz_pub (who:Int)(w:Wf T h)(x:RhR T h g p H)(hs:s<H.n)(h8:H.n≤8)(hl:H.acts.length<999999)
  (hk:∀ T' h',Only (pre g) T h T' h'→RhR T' h' g p (H.pub who s)→K (.tuple #[]) h'):callM P qcLZ #[ptr p,.int .i64 who,.int .i64 s] h K:=by
 apply qrxZ
 unfold qdmZ
 obtain⟨sv,av,Y,x⟩:=x
 obtain⟨w4,w5⟩:=pl4 (show s<8 by omega)
 simp -implicitDefEqProofs[w4,w5 4 (by omega) (by omega)]
 refine rz_did who 1 _ w x (by omega) fun T1 h1 av1 o1 x1=>?_
 unfold qgNZ
 simp -implicitDefEqProofs[w4,w5 3 (by omega) (by omega)]
 refine rz_did who 4 _ o1.wf x1 (by simp[Hall.did]; omega) fun T2 h2 av2 o2 x2=>?_
 have cp:=x2.hp
 simp -implicitDefEqProofs only[rhC] at cp
 obtain⟨b,ia,cb⟩:=x2.at_ (k:=.i64) (s:=s) hs
 have r:=x2.sr s hs
 have cs:=r.hp
 simp -implicitDefEqProofs only[rstC] at cs
 have ob:=r.bk.one
 unfold qgMZ
 simp -implicitDefEqProofs[ld_at cp,cel_of cp,stm_at cp,ld_at cs,cel_of cs,stm_at cs,stm_upd,ld_same,cel_same,over,ia,cb,ob.1,ob.2]
 obtain⟨o4,x4⟩:=x2.stw o2.wf hs { H.ss s with snap:=(H.ss s).book } (Y s).bk (Y s).bk r.bk r.bk rfl rfl
 exact hk T2 _ (((o1.mono fun _=>V03.pre).up o2 fun _=>V03.pre).up o4 fun t=>V12.pre) ⟨sv,av2,_,x4⟩
end
end Go.Proofs.YtmbningljbcpkaaGreat
namespace Go.Proofs.YtmbningljbcpkaaGreat
open Go Go.Den Go.MapKept
set_option linter.unusedSimpArgs false
set_option linter.unusedVariables false
set_option maxRecDepth 20000
section
variable {s:Nat}{T:Tags}{h:Heap}{g:Tag}{p:Nat}{H:Hall}{K:KTy}
set_option maxHeartbeats 1000000 in
theorem rz_lock (who:Int)(w:Wf T h)(x:RhR T h g p H)(hs:s<H.n)(h8:H.n≤8)(hl:H.acts.length<1000000)(hw:0≤(H.ss s).who)
  (hk:∀ T' h',Only (pre g) T h T' h'→RhR T' h' g p (H.lock who s)→K (.bool (canTake (H.ss s).who who)) h'):callM P qeCZ #[ptr p,.int .i64 who,.int .i64 s] h K:=by
 apply qssZ
 unfold qfeZ
 obtain⟨sv,av,Y,x⟩:=x
 obtain⟨w4,w5⟩:=pl4 (show s<8 by omega)
 have cp:=x.hp
 simp -implicitDefEqProofs only[rhC] at cp
 obtain⟨b,ia,cb⟩:=x.at_ (k:=.i64) (s:=s) hs
 have r:=x.sr s hs
 have cs:=r.hp
 simp -implicitDefEqProofs only[rstC] at cs
 simp -implicitDefEqProofs[ld_at cp,cel_of cp,stm_at cp,ld_at cs,cel_of cs,stm_at cs,stm_upd,ld_same,cel_same,over,ia,cb]
 refine rtake13_ok _ _ ?_
 unfold qiXZ
 by_cases hc:canTake (H.ss s).who who=true
 ·have hc':0≤who∧(H.ss s).who=0:=by simpa [canTake] using hc
  rw[if_pos ⟨by omega,hc'.1⟩,if_pos ⟨by omega,hc'.1⟩]
  simp -implicitDefEqProofs
  rw[seqM_eq]
  unfold qelZ
  simp -implicitDefEqProofs
  unfold qiVZ
  simp -implicitDefEqProofs[w4,w5 1 (by omega) (by omega)]
  refine rz_did who 5 _ w x hl fun T2 h2 av2 o2 x2=>?_
  have cp:=x2.hp
  simp -implicitDefEqProofs only[rhC] at cp
  obtain⟨b,ia,cb⟩:=x2.at_ (k:=.i64) (s:=s) hs
  have r:=x2.sr s hs
  have cs:=r.hp
  simp -implicitDefEqProofs only[rstC] at cs
  obtain⟨o4,x4⟩:=x2.stw o2.wf hs { H.ss s with who:=who+1 } (Y s).sn (Y s).bk r.sn r.bk rfl rfl
  have e1:who+1-1=who:=by omega
  simp -implicitDefEqProofs only[rstC,e1] at o4 x4
  have hk:=hk T2 _ ((o2.mono fun _=>V03.pre).up o4 fun t=>V12.pre) ⟨sv,av2,_,by unfold Hall.lock; rw[if_pos hc]; exact x4⟩
  rw[hc] at hk
  unfold qiUZ
  simp -implicitDefEqProofs
  unfold qemZ
  simp -implicitDefEqProofs[ld_at cp,cel_of cp,stm_at cp,ld_at cs,cel_of cs,stm_at cs,stm_upd,ld_same,cel_same,over,ia,cb]
  exact hk
 ·have hc':¬ (0≤who∧(H.ss s).who=0):=by simpa [canTake] using hc
  rw[if_neg (by omega),if_neg (by omega)]
  simp -implicitDefEqProofs
  rw[seqM_eq]
  unfold qelZ
  simp -implicitDefEqProofs
  unfold qiWZ
  simp -implicitDefEqProofs
  have hcf:canTake (H.ss s).who who=false:=by simpa using hc
  obtain⟨o4,x4⟩:=x.stw w hs (H.ss s) (Y s).sn (Y s).bk r.sn r.bk rfl rfl
  rw[put_self] at x4
  simp -implicitDefEqProofs only[rstC] at o4 x4
  have hk:=hk T _ (o4.mono fun t=>V12.pre) ⟨sv,av,_,by unfold Hall.lock; rw[if_neg hc]; exact x4⟩
  rw[hcf] at hk
  unfold qemZ
  simp -implicitDefEqProofs[ld_at cp,cel_of cp,stm_at cp,ld_at cs,cel_of cs,stm_at cs,stm_upd,ld_same,cel_same,over,ia,cb]
  exact hk
set_option maxHeartbeats 1000000 in
theorem rz_unlock (who:Int)(w:Wf T h)(x:RhR T h g p H)(hs:s<H.n)(h8:H.n≤8)(hl:H.acts.length<1000000)(hw:0≤(H.ss s).who)
  (hk:∀ T' h',Only (pre g) T h T' h'→RhR T' h' g p (H.unlock who s)→K (.bool (canGive (H.ss s).who who)) h'):callM P qdlZ #[ptr p,.int .i64 who,.int .i64 s] h K:=by
 apply qrNZ
 unfold qenZ
 obtain⟨sv,av,Y,x⟩:=x
 obtain⟨w4,w5⟩:=pl4 (show s<8 by omega)
 have cp:=x.hp
 simp -implicitDefEqProofs only[rhC] at cp
 obtain⟨b,ia,cb⟩:=x.at_ (k:=.i64) (s:=s) hs
 have r:=x.sr s hs
 have cs:=r.hp
 simp -implicitDefEqProofs only[rstC] at cs
 simp -implicitDefEqProofs[ld_at cp,cel_of cp,stm_at cp,ld_at cs,cel_of cs,stm_at cs,stm_upd,ld_same,cel_same,over,ia,cb]
 refine rgive13_ok _ _ ?_
 unfold qhlZ
 by_cases hc:canGive (H.ss s).who who=true
 ·have hc':¬ (H.ss s).who=0∧(H.ss s).who-1=who:=by simpa [canGive] using hc
  rw[if_pos ⟨by omega,hc'.2⟩,if_pos ⟨by omega,hc'.2⟩]
  simp -implicitDefEqProofs
  rw[seqM_eq]
  unfold qcOZ
  simp -implicitDefEqProofs
  unfold qhjZ
  simp -implicitDefEqProofs[w4,w5 1 (by omega) (by omega)]
  refine rz_did who 6 _ w x hl fun T2 h2 av2 o2 x2=>?_
  have cp:=x2.hp
  simp -implicitDefEqProofs only[rhC] at cp
  obtain⟨b,ia,cb⟩:=x2.at_ (k:=.i64) (s:=s) hs
  have r:=x2.sr s hs
  have cs:=r.hp
  simp -implicitDefEqProofs only[rstC] at cs
  obtain⟨o4,x4⟩:=x2.stw o2.wf hs { H.ss s with who:=0 } (Y s).sn (Y s).bk r.sn r.bk rfl rfl
  have e1:(0:Int)-1 = -1:=by omega
  simp -implicitDefEqProofs only[rstC,e1] at o4 x4
  have hk:=hk T2 _ ((o2.mono fun _=>V03.pre).up o4 fun t=>V12.pre) ⟨sv,av2,_,by unfold Hall.unlock; rw[if_pos hc]; exact x4⟩
  rw[hc] at hk
  unfold qhiZ
  simp -implicitDefEqProofs
  unfold qcPZ
  simp -implicitDefEqProofs[ld_at cp,cel_of cp,stm_at cp,ld_at cs,cel_of cs,stm_at cs,stm_upd,ld_same,cel_same,over,ia,cb]
  exact hk
 ·have hc':¬ (H.ss s).who=0→¬ (H.ss s).who-1=who:=by simpa [canGive] using hc
  rw[if_neg (by omega),if_neg (by omega)]
  simp -implicitDefEqProofs
  rw[seqM_eq]
  unfold qcOZ
  simp -implicitDefEqProofs
  unfold qhkZ
  simp -implicitDefEqProofs
  have hcf:canGive (H.ss s).who who=false:=by simpa using hc
  obtain⟨o4,x4⟩:=x.stw w hs (H.ss s) (Y s).sn (Y s).bk r.sn r.bk rfl rfl
  rw[put_self] at x4
  simp -implicitDefEqProofs only[rstC] at o4 x4
  have hk:=hk T _ (o4.mono fun t=>V12.pre) ⟨sv,av,_,by unfold Hall.unlock; rw[if_neg hc]; exact x4⟩
  rw[hcf] at hk
  unfold qcPZ
  simp -implicitDefEqProofs[ld_at cp,cel_of cp,stm_at cp,ld_at cs,cel_of cs,stm_at cs,stm_upd,ld_same,cel_same,over,ia,cb]
  exact hk
theorem RhX.stf {sv av:Value}{Y:Nat→RSx}(x:RhX T h g p H sv av Y)(hs:s<H.n){T':Tags}{h':Heap}(o:Only (fun t=>t=g++[2,s]) T h T' h'){pv':Value}{qv':Nat→Value}{ps':List PairD}{f':Feed}(r':RfB T' h' (g++[2,s]) (Y s).fp H.c.queue pv' qv' ps' f')(pp:FdP f' ps')(rm:RmE f' H.c.queue) :
  ∃ Y',RhX T' h' g p (H.put s { H.ss s with feed:=f' }) sv av Y':=by
 have r:=x.sr s hs
 have o2:=o.mono (V:=V12 g s) fun t e=>.inr e
 have e:=o.ext (by simp)
 have b:=o.k.at r.hp r.tp (ne_tag (by simp))
 exact⟨_,x.sett o2 (y':={ Y s with pv:=pv',qv:=qv',ps:=ps' }) ⟨b.1,b.2,r.sn.ext (@UsrR.ext) e,r.bk.ext (@UsrR.ext) e,r',pp,rm,r.bd⟩ rfl⟩
theorem rz_count {m:Nat}(who:Int)(u:ByteArray)(w:Wf T h)(x:RhR T h g p H)(hs:s<H.n)(hh:HS m H)(hm:m<100000)
  (hk:∀ T' h',Only (pre g) T h T' h'→RhR T' h' g p (H.read who s)→K (.tuple #[.int .i64 ((H.ss s).feed.count who),.bool ((H.ss s).feed.watching who u)]) h'):callM P qefZ #[ptr p,.int .i64 who,.int .i64 s,.string u] h K:=by
 apply qsbZ
 unfold qeIZ
 obtain⟨sv,av,Y,x⟩:=x
 have h8:=hh.n8
 obtain⟨w4,w5⟩:=pl4 (show s<8 by omega)
 simp -implicitDefEqProofs[w4,w5 4 (by omega) (by omega)]
 refine rz_did who 1 _ w x (by have:=hh.ac; omega) fun T2 h2 av2 o2 x2=>?_
 have cp:=x2.hp
 simp -implicitDefEqProofs only[rhC] at cp
 obtain⟨b,ia,cb⟩:=x2.at_ (k:=.i64) (s:=s) hs
 have r:=x2.sr s hs
 have cs:=r.hp
 simp -implicitDefEqProofs only[rstC] at cs
 have hps:=x.cnt hh hs
 unfold qhCZ
 simp -implicitDefEqProofs[ld_at cp,cel_of cp,stm_at cp,ld_at cs,cel_of cs,stm_at cs,stm_upd,ld_same,cel_same,over,ia,cb]
 refine rfcount_ok r.fd.hp (r.fd.pr.ext (@PairR.ext) (fz_ext T2 h2)) (by omega) who ?_
 unfold qhBZ
 simp -implicitDefEqProofs[ld_at cp,cel_of cp,stm_at cp,ld_at cs,cel_of cs,stm_at cs,stm_upd,ld_same,cel_same,over,ia,cb]
 refine rfwatching_ok r.fd.hp (r.fd.pr.ext (@PairR.ext) (fz_ext T2 h2)) (by omega) who u ?_
 have hf:(H.did who 1 (4*(s:Int)+4)).ss s=H.ss s:=rfl
 have pp:=r.pp
 rw[hf] at pp
 rw[pp.count who,pp.watching ((hh.st s hs).fd.g (by omega)) who u]
 exact hk T2 _ (o2.mono fun _=>V03.pre) ⟨sv,av2,Y,x2⟩
theorem RmE.watch {f:Feed}{room:Int}(x:RmE f room)(who:Int)(u:ByteArray):RmE (f.watch who u) room:=by unfold Feed.watch; split<;>exact x
theorem RmE.unwatch {f:Feed}{room:Int}(x:RmE f room)(who:Int)(u:ByteArray):RmE (f.unwatch who u) room:=by
 unfold Feed.unwatch
 split
 ·split<;>exact x
 ·exact x
theorem rz_watch {m : Nat} (who : Int) (u : ByteArray) (on : Bool) (w : Wf T h) (x : RhR T h g p H) (hs : s < H.n) (hh : HS m H) (hm : m < 100000)
    (hk : ∀ T' h', Only (pre g) T h T' h' → RhR T' h' g p (H.watch who s u on) → K (.tuple #[]) h') : callM P qegZ #[ptr p, .int .i64 who, .int .i64 s, .string u, .bool on] h K := by
  apply qscZ
  unfold qeJZ
  obtain ⟨sv, av, Y, x⟩ := x
  have h8 := hh.n8
  obtain ⟨w4, w5⟩ := pl4 (show s < 8 by omega)
  simp -implicitDefEqProofs [w4, w5 4 (by omega) (by omega)]
  refine rz_did who 2 _ w x (by have := hh.ac; omega) fun T2 h2 av2 o2 x2 => ?_
  have cp := x2.hp
  simp -implicitDefEqProofs only [rhC] at cp
  obtain ⟨b, ia, cb⟩ := x2.at_ (k := .i64) (s := s) hs
  have r := x2.sr s hs
  have cs := r.hp
  simp -implicitDefEqProofs only [rstC] at cs
  have hps := x.cnt hh hs
  have fg := (hh.st s hs).fd.g (by omega)
  have hf : (H.did who 2 (4 * (s : Int) + 4)).ss s = H.ss s := rfl
  have pp := r.pp
  have rm := r.rm
  rw [hf] at pp rm
  have e2 : ∀ f', (H.wr who s).put s { H.ss s with feed := f' } = (H.did who 2 (4 * (s : Int) + 4)).put s { (H.did who 2 (4 * (s : Int) + 4)).ss s with feed := f' } := fun _ => rfl
  unfold qhFZ
  cases on with
  | true =>
    simp -implicitDefEqProofs
    unfold qhDZ
    simp -implicitDefEqProofs [ld_at cp, cel_of cp, stm_at cp, ld_at cs, cel_of cs, stm_at cs, stm_upd, ld_same, cel_same, over, ia, cb]
    refine rfwatch_ok o2.wf (by simp) r.fd (by omega) who u (f' := (H.ss s).feed.watch who u) (by unfold Feed.watch; split <;> rfl) fun h3 pv' o3 r3 => ?_
    obtain ⟨Y', x3⟩ := x2.stf hs o3 r3 (pp.watch fg who u) (RmE.watch rm who u)
    exact hk T2 h3 ((o2.mono fun _ => V03.pre).up o3 fun t e => e ▸ pre_app _ _) ⟨sv, av2, Y', x3⟩
  | false =>
    simp -implicitDefEqProofs
    unfold qhEZ
    simp -implicitDefEqProofs [ld_at cp, cel_of cp, stm_at cp, ld_at cs, cel_of cs, stm_at cs, stm_upd, ld_same, cel_same, over, ia, cb]
    refine runwatch_ok o2.wf (by simp) r.fd (by omega) who u (f' := (H.ss s).feed.unwatch who u) (by unfold Feed.unwatch; split; · split <;> rfl
                                                                                                     · rfl) fun h3 pv' o3 r3 => ?_
    obtain ⟨Y', x3⟩ := x2.stf hs o3 r3 (pp.unwatch fg who u) (RmE.unwatch rm who u)
    exact hk T2 h3 ((o2.mono fun _ => V03.pre).up o3 fun t e => e ▸ pre_app _ _) ⟨sv, av2, Y', x3⟩
theorem rfdrain0_ok {q:Nat}{who:Int}(hw:¬ (0≤who∧who<8))(hk:K (.tuple #[.slice none 0 0,.bool false]) h):callM P qbuZ #[ptr q,.int .i64 who] h K:=by
 apply qjZZ
 unfold qbEZ
 by_cases h0:who<0
 ·simp -implicitDefEqProofs[h0]; exact hk
 ·have h7:7<who:=by omega
  simp -implicitDefEqProofs[h0,h7]; exact hk
theorem rz_drain {m:Nat}(who:Int)(w:Wf T h)(x:RhR T h g p H)(hs:s<H.n)(hh:HS m H)(hm:m<100000)
  (hk:∀ T' h' v,Only (pre g) T h T' h'→RhR T' h' g p (H.drain who s)→Sl 8 EvR (fz T' h') v ((H.ss s).feed.told who)→K (.tuple #[v,.bool ((H.ss s).feed.lost who)]) h'):callM P qehZ #[ptr p,.int .i64 who,.int .i64 s] h K:=by
 apply qsdZ
 unfold qeKZ
 obtain⟨sv,av,Y,x⟩:=x
 have h8:=hh.n8
 obtain⟨w4,w5⟩:=pl4 (show s<8 by omega)
 simp -implicitDefEqProofs[w4,w5 4 (by omega) (by omega)]
 refine rz_did who 2 _ w x (by have:=hh.ac; omega) fun T2 h2 av2 o2 x2=>?_
 have cp:=x2.hp
 simp -implicitDefEqProofs only[rhC] at cp
 obtain⟨b,ia,cb⟩:=x2.at_ (k:=.i64) (s:=s) hs
 have r:=x2.sr s hs
 have cs:=r.hp
 simp -implicitDefEqProofs only[rstC] at cs
 have hf:(H.did who 2 (4*(s:Int)+4)).ss s=H.ss s:=rfl
 have pp:=r.pp
 have rm:=r.rm
 rw[hf] at pp rm
 unfold qhGZ
 simp -implicitDefEqProofs[ld_at cp,cel_of cp,stm_at cp,ld_at cs,cel_of cs,stm_at cs,stm_upd,ld_same,cel_same,over,ia,cb]
 by_cases hc:0≤who∧who<8
 ·have hcb:clientB who=true:=by simpa [clientB] using hc
  obtain⟨j,rfl⟩:∃ j:Nat,who=j:=⟨who.toNat,by omega⟩
  refine rfdrain_ok o2.wf (by simp) r.fd j (by omega) fun h3 qv' o3 r3 hev=>?_
  have ed:(H.ss s).feed.drain (j:Int)={ (H.ss s).feed with qs:=qset (H.ss s).feed.qs j { (H.ss s).feed.qs j with l:=[],lost:=false } }:=by simp[Feed.drain,hcb]
  obtain⟨Y',x3⟩:=x2.stf hs o3 (f':=(H.ss s).feed.drain (j:Int)) (by rw[ed]; exact r3) (pp.of_ws (by rw[ed])) (fun k hk8=>by
   rw[ed]
   simp -implicitDefEqProofs only[qset]
   split
   ·rename_i hkj; subst hkj; exact rm _ hk8
   ·exact rm _ hk8)
  have hev:Sl 8 EvR (fz T2 h3) ((Y s).qv j) ((H.ss s).feed.qs j).l:=hev
  have hk:=hk T2 h3 _ ((o2.mono fun _=>V03.pre).up o3 fun t e=>e▸pre_app _ _) ⟨sv,av2,Y',x3⟩ (by simpa [Feed.told,hcb] using hev)
  simp -implicitDefEqProofs[Feed.lost,hcb] at hk
  simp -implicitDefEqProofs
  exact hk
 ·have hcb:clientB who=false:=by simp[clientB]; omega
  refine rfdrain0_ok hc ?_
  have ed:(H.ss s).feed.drain who=(H.ss s).feed:=by simp[Feed.drain,hcb]
  have hk:=hk T2 h2 (.slice none 0 0) (o2.mono fun _=>V03.pre) ⟨sv,av2,Y,by
   have:H.drain who s=H.did who 2 (4*(s:Int)+4):=by
    unfold Hall.drain Hall.fed
    rw[ed]
    exact put_self (H.did who 2 (4*(s:Int)+4)) s
   rw[this]; exact x2⟩ (by simp[Feed.told,hcb]; exact .inl ⟨rfl,_,_,rfl⟩)
  simp -implicitDefEqProofs[Feed.lost,hcb] at hk
  simp -implicitDefEqProofs
  exact hk
end
end Go.Proofs.YtmbningljbcpkaaGreat
namespace Go.Proofs.YtmbningljbcpkaaGreat
open Go Go.Den Go.MapKept
set_option linter.unusedSimpArgs false
set_option linter.unusedVariables false
set_option maxRecDepth 20000
theorem tag_ne {T:Tags}{a b:Nat}{s t:Tag}(h1:T a=s)(h2:T b=t)(n:s≠t):a≠b:=fun e=>n (by rw[← h1,← h2,e])
section
variable {s:Nat}{T:Tags}{h:Heap}{g:Tag}{p:Nat}{H:Hall}{K:KTy}
theorem RhX.ata {sv av:Value}{Y:Nat→RSx}(x:RhX T h g p H sv av Y){s:Nat}(hs:s<H.n){k:IntKind}:∃ b,iaV (some (none,1)) sv (.int k s)=some (.pointer (some ⟨b,s,none⟩))∧cel h b s=some (ptr (Y s).bp)∧b≠(Y s).bp∧p≠(Y s).bp:=by
 obtain⟨b,h1,h2⟩:=x.at_ (k:=k) hs
 obtain⟨b',h3,h4⟩:=x.st.1.ia (k:=k) hs
 have hbb:b'=b:=by rw[h1] at h4; simp at h4; exact h4.symm
 subst hbb
 exact⟨b',h1,h2,tag_ne (x.st.2 b' h3) (x.sr s hs).tp (ne_tag (by simp)),tag_ne x.tp (x.sr s hs).tp (ne_tag (by simp))⟩
theorem RhX.told {sv av:Value}{Y:Nat→RSx}(x:RhX T h g p H sv av Y)(w:Wf T h)(hs:s<H.n)(fg:FdG (H.ss s).feed)(hps:(Y s).ps.length<1000000){B:Book}{l:List Chg}{v cv:Value}(xb:Sl 5 UsrR (fz T h) v B)(xc:Sl 7 ChgR (fz T h) cv l)(hl:l.length<1000000)(seq:Int)
  (hk:∀ h',Only (V12 g s) T h T h'→RhR T h' g p (H.put s { H.ss s with book:=B,feed:=(H.ss s).feed.tell l seq })→K (.tuple #[]) h') :
  callM P qaCZ #[ptr (Y s).fp,cv,.int .u64 seq] (upd h (Y s).bp (.cells (rstC (H.ss s) { Y s with bk:=v }).toArray qHZ (0,0))) K:=by
 have r:=x.sr s hs
 obtain⟨o1,x1⟩:=x.stw w hs { H.ss s with book:=B } (Y s).sn v r.sn xb rfl rfl
 have o1':Only (fun t=>t=g++[1,s]) T h T (upd h (Y s).bp (.cells (rstC { H.ss s with book:=B } { Y s with sn:=(Y s).sn,bk:=v }).toArray qHZ (0,0))):=Only.upd w r.hp r.tp
 have r1:=x1.sr s hs
 rw[put_at] at r1
 simp -implicitDefEqProofs only[if_true] at r1
 refine rftell_ok l seq o1'.wf (by simp) r1.fd r1.pp fg r1.rm hps (xc.ext (R:=ChgR) (@ChgR.ext) (o1'.ext (by simp))) hl fun h2 qv' o2 r2=>?_
 obtain⟨Y',x2⟩:=x1.stf (s:=s) hs (by exact o2) (by simpa using r2) (r1.pp.tell l seq) (RmE.tell r1.rm seq l)
 rw[put_at,put_put] at x2
 exact hk h2 (o1.trans (o2.mono fun t e=>.inr e)) ⟨sv,av,Y',x2⟩
theorem rz_sweep {m:Nat}(who:Int)(t:Tm)(w:Wf T h)(x:RhR T h g p H)(hs:s<H.n)(hh:HS m H)(hm:m<90000)
  (hk:∀ T' h',Only (pre g) T h T' h'→RhR T' h' g p (H.sweep who s t)→K (.tuple #[]) h'):callM P qeeZ #[ptr p,.int .i64 who,.int .i64 s,.agg (tmC t).toArray] h K:=by
 apply qsaZ
 unfold qeHZ
 have h8:=hh.n8
 obtain⟨w4,w5⟩:=pl4 (show s<8 by omega)
 refine nw_agg fun v1 h1 n1 e1 c1=>?_
 simp -implicitDefEqProofs only[tmC] at c1
 have o1:Only non T h T h1:=Only.of_ext w e1
 have t1:T v1=[]:=w v1 n1
 obtain⟨sv,av,Y,x1⟩:=x.kp o1.k (Off.non _) (not_non _)
 simp -implicitDefEqProofs[w4,w5 4 (by omega) (by omega)]
 refine rz_did who 2 _ o1.wf x1 (by have:=hh.ac; omega) fun T2 h2 av2 o2 x2=>?_
 have b1:=o2.k.at c1 t1 (V03.nil g)
 have c1:=b1.1
 have cp:=x2.hp
 simp -implicitDefEqProofs only[rhC] at cp
 obtain⟨b,ia,cb,nb,np⟩:=x2.ata (k:=.i64) (s:=s) hs
 have r:=x2.sr s hs
 have cs:=r.hp
 simp -implicitDefEqProofs only[rstC] at cs
 have hf:(H.did who 2 (4*(s:Int)+4)).ss s=H.ss s:=rfl
 have st:=hh.st s hs
 have hps:=x1.cnt hh hs
 unfold qhAZ
 simp -implicitDefEqProofs[ld_at cp,cel_of cp,stm_at cp,ld_at cs,cel_of cs,stm_at cs,ld_at c1,cel_of c1,stm_at c1,stm_upd,ld_same,cel_same,over,ia,cb]
 refine rsweep_ok _ st.bk hm t.now o2.wf r.bk fun h5 v' cv e5 xb xc=>?_
 have o5:Only non T2 h2 T2 h5:=Only.of_ext o2.wf e5
 have x5:=x2.own o5.k
 have cp:=e5 _ _ cp
 have cs:=e5 _ _ cs
 have c1:=e5 _ _ c1
 obtain⟨b',ia',cb',nb',np'⟩:=x5.ata (k:=.i64) (s:=s) hs
 have n1:v1≠(Y s).bp:=tag_ne b1.2 (x5.sr s hs).tp (by simp)
 have ob:=xb.one
 unfold qhzZ
 simp -implicitDefEqProofs[ld_at cp,cel_of cp,stm_at cp,ld_at cs,cel_of cs,stm_at cs,ld_at c1,cel_of c1,stm_at c1,stm_skip nb',stm_skip (Ne.symm nb'),ld_skip nb',ld_skip (Ne.symm nb'),cel_skip nb',cel_skip (Ne.symm nb'),stm_skip np',stm_skip (Ne.symm np'),ld_skip np',ld_skip (Ne.symm np'),cel_skip np',cel_skip (Ne.symm np'),stm_skip n1,stm_skip (Ne.symm n1),ld_skip n1,ld_skip (Ne.symm n1),cel_skip n1,cel_skip (Ne.symm n1),stm_upd,ld_same,cel_same,over,ia',cb',ob.1,ob.2]
 refine x5.told o5.wf hs (st.fd.g (by omega)) (by omega) xb xc (Nat.lt_of_le_of_lt (sweep_chg (H.ss s).book t.now (H.ss s).book.length) (by have:=st.bk.bl; omega)) t.seq fun h6 o6 x6=>?_
 exact hk T2 h6 ((((o1.mono non_up).up o2 fun _=>V03.pre).up o5 non_up).up o6 fun t=>V12.pre) x6
theorem rz_write {m:Nat}(who:Int)(o:OpD)(ow:OpW o){uv:Value}(ou:One uv)(t:Tm)(ht:U64 t.now)(w:Wf T h)(x:RhR T h g p H)(hs:s<H.n)(hh:HS m H)(hm:m<90000)
  (hk:∀ T' h',Only (pre g) T h T' h'→RhR T' h' g p (H.write who s o t).1→K (.int .i64 (H.write who s o t).2) h'):callM P qedZ #[ptr p,.int .i64 who,.int .i64 s,.agg (opC o uv).toArray,.agg (tmC t).toArray] h K:=by
 apply qrZZ
 unfold qeGZ
 have h8:=hh.n8
 obtain⟨w4,w5⟩:=pl4 (show s<8 by omega)
 refine nw_agg fun v1 h0 n0 e0 c0=>?_
 refine nw_agg fun v3 h1 n1 e1 c3=>?_
 simp -implicitDefEqProofs only[tmC] at c3
 have o1:Only non T h T h1:=Only.of_ext w (e0.trans e1)
 have c0:=e1 _ _ c0
 have t1:T v1=[]:=w v1 n0
 have t3:T v3=[]:=w v3 (fresh_of e0 n1)
 obtain⟨sv,av,Y,x1⟩:=x.kp o1.k (Off.non _) (not_non _)
 simp -implicitDefEqProofs[w4,w5 4 (by omega) (by omega)]
 refine rz_did who 2 _ o1.wf x1 (by have:=hh.ac; omega) fun T2 h2 av2 o2 x2=>?_
 have b1:=o2.k.at c0 t1 (V03.nil g)
 have b3:=o2.k.at c3 t3 (V03.nil g)
 have c1:=b1.1
 have c3:=b3.1
 have oh:Only (pre g) T h T2 h2:=(o1.mono non_up).up o2 fun _=>V03.pre
 unfold qhyZ
 cases htc:t.closed with
 | true =>
  rw[htc] at c3
  have e:H.write who s o t=(H.wr who s,5):=by simp[Hall.write,htc]
  rw[e] at hk
  simp -implicitDefEqProofs[ld_at c3,cel_of c3,stm_at c3,stm_upd,ld_same,cel_same,over]
  exact hk T2 h2 oh ⟨sv,av2,Y,x2⟩
 | false =>
 rw[htc] at c3
 have hagO:ldV (some (some 7)) (ptr v1) h2=some (.agg (opC o uv).toArray):=by simp only[opC] at c1; simp[ld_at c1,opC]
 obtain⟨rr,hr⟩:∃ rr,writeB (H.ss s).book o t.now H.c.sessions=rr:=⟨_,rfl⟩
 have e:H.write who s o t=((H.wr who s).put s { H.ss s with book:=rr.1,feed:=(H.ss s).feed.tell rr.2.1 t.seq },rr.2.2):=by simp[Hall.write,htc,hr]
 rw[e] at hk
 have cp:=x2.hp
 simp -implicitDefEqProofs only[rhC] at cp
 obtain⟨b,ia,cb,nb,np⟩:=x2.ata (k:=.i64) (s:=s) hs
 have r:=x2.sr s hs
 have cs:=r.hp
 simp -implicitDefEqProofs only[rstC] at cs
 have hf:(H.did who 2 (4*(s:Int)+4)).ss s=H.ss s:=rfl
 have hfc:(H.did who 2 (4*(s:Int)+4)).c=H.c:=rfl
 have st:=hh.st s hs
 have hps:=x1.cnt hh hs
 simp -implicitDefEqProofs[ld_at c3,cel_of c3,stm_at c3,stm_upd,ld_same,cel_same,over]
 unfold qhxZ
 simp -implicitDefEqProofs[ld_at cp,cel_of cp,stm_at cp,ld_at cs,cel_of cs,stm_at cs,ld_at c3,cel_of c3,stm_at c3,stm_upd,ld_same,cel_same,over,ia,cb,hagO]
 refine rwrite_ok _ st.bk hm o ow t.now ht H.c.sessions ou o2.wf r.bk fun h5 v' cv e5 xb xc=>?_
 rw[hr] at xb xc
 try rw[hr]
 have hlen:rr.2.1.length≤1:=by rw[← hr]; exact settle_chg _ _ _ _
 have o5:Only non T2 h2 T2 h5:=Only.of_ext o2.wf e5
 have x5:=x2.own o5.k
 have cp:=e5 _ _ cp
 have cs:=e5 _ _ cs
 have c3:=e5 _ _ c3
 obtain⟨b',ia',cb',nb',np'⟩:=x5.ata (k:=.i64) (s:=s) hs
 have n3:v3≠(Y s).bp:=tag_ne b3.2 (x5.sr s hs).tp (by simp)
 have ob:=xb.one
 unfold qhwZ
 simp -implicitDefEqProofs[ld_at cp,cel_of cp,stm_at cp,ld_at cs,cel_of cs,stm_at cs,ld_at c3,cel_of c3,stm_at c3,stm_skip nb',stm_skip (Ne.symm nb'),ld_skip nb',ld_skip (Ne.symm nb'),cel_skip nb',cel_skip (Ne.symm nb'),stm_skip np',stm_skip (Ne.symm np'),ld_skip np',ld_skip (Ne.symm np'),cel_skip np',cel_skip (Ne.symm np'),stm_skip n3,stm_skip (Ne.symm n3),ld_skip n3,ld_skip (Ne.symm n3),cel_skip n3,cel_skip (Ne.symm n3),stm_upd,ld_same,cel_same,over,ia',cb',ob.1,ob.2]
 refine x5.told o5.wf hs (st.fd.g (by omega)) (by omega) xb xc (by omega) t.seq fun h6 o6 x6=>?_
 exact hk T2 h6 ((oh.up o5 non_up).up o6 fun t=>V12.pre) x6
end
end Go.Proofs.YtmbningljbcpkaaGreat
namespace Go.Proofs.YtmbningljbcpkaaGreat
open Go Go.Den Go.MapKept
set_option linter.unusedSimpArgs false
set_option linter.unusedVariables false
set_option maxRecDepth 20000
theorem g4:Gd [4]:=⟨3,[],rfl⟩
end Go.Proofs.YtmbningljbcpkaaGreat
namespace Go.Proofs.YtmbningljbcpkaaGreat
open Go Go.Den Go.MapKept
set_option linter.unusedSimpArgs false
set_option linter.unusedVariables false
set_option maxRecDepth 20000
theorem u32_id {a:Int}(h0:0≤a)(h1:a<4294967296):IntKind.u32.wrap a=a:=by
 unfold IntKind.wrap
 simp -implicitDefEqProofs[IntKind.bits,IntKind.signed]
 omega
theorem pow8 {w:Nat}(hw:w<8):(2:Int) ^ w≤128∧0<(2:Int) ^ w:=by
 have:w=0∨w=1∨w=2∨w=3∨w=4∨w=5∨w=6∨w=7:=by omega
 rcases this with rfl | rfl | rfl | rfl | rfl | rfl | rfl | rfl<;>decide
theorem b_shl {w:Nat}(hw:w<8):binV .shl 2 true (.int .u32 1) (.int .i64 w)=some (.int .u32 (2 ^ w)):=by
 have h:=pow8 hw
 have h0:¬ (w:Int)<0:=by omega
 have hm:min w 32=w:=by omega
 simp -implicitDefEqProofs only[binV,intV,if_neg h0,Int.toNat_natCast,IntKind.bits,hm,Int.one_mul]
 rw[u32_id (by omega) (by omega)]
theorem b_or {m:Int}{w:Nat}(hw:w<8):binV .or 2 false (.int .u32 m) (.int .u32 (2 ^ w))=some (.int .u32 (mor m w)):=by
 have:=mor_rng m w
 simp -implicitDefEqProofs only[binV,intV,if_true,bitV,IntKind.bits]
 show some (Value.int .u32 (IntKind.u32.wrap ((BitVec.ofInt 32 m ||| BitVec.ofInt 32 (2 ^ w)).toNat:Int)))=_
 have e:((BitVec.ofInt 32 m ||| BitVec.ofInt 32 (2 ^ w)).toNat:Int)=mor m w:=by simp[mor]
 rw[e,u32_id this.1 this.2]
theorem b_clr {m:Int}{w:Nat}(hw:w<8):binV .andNot 2 false (.int .u32 m) (.int .u32 (2 ^ w))=some (.int .u32 (mclr m w)):=by
 have:=mclr_rng m w
 simp -implicitDefEqProofs only[binV,intV,if_true,bitV,IntKind.bits]
 show some (Value.int .u32 (IntKind.u32.wrap ((BitVec.ofInt 32 m &&& ~~~BitVec.ofInt 32 (2 ^ w)).toNat:Int)))=_
 have e:((BitVec.ofInt 32 m &&& ~~~BitVec.ofInt 32 (2 ^ w)).toNat:Int)=mclr m w:=by simp[mclr]
 rw[e,u32_id this.1 this.2]
theorem FeedX.stw {T:Tags}{h:Heap}{g:Tag}{p:Nat}{f:Feed}{kw vw k v:Value}{q:Nat→Nat}(x:FeedX T h g p f kw vw q)(w:Wf T h)(gg:Gd g){ws:List (ByteArray × Int)}(y:WsR (fz T h) k v ws){c:Array Value}(hc:c=(feedC k v fun j=>ptr (q j)).toArray) :
  Only (fun t=>t=g++[0]) T h T (upd h p (.cells c qauZ (0,0)))∧FeedX T (upd h p (.cells c qauZ (0,0))) g p { f with ws:=ws } k v q:=by
 have o:Only (fun t=>t=g++[0]) T h T (upd h p (.cells c qauZ (0,0))):=Only.upd w x.hp x.tp
 have e:=o.ext (by simp)
 exact⟨o,by rw[upd_same',hc],x.tp,y.1.ext (@StrR.ext) e,y.2.1.ext (@MaskR.ext) e,fun j hj=>(x.xq j hj).kp o.k (off_eq (by simp)),y.2.2.1,y.2.2.2⟩
variable {K:KTy}
theorem fwatch_ok (who:Int)(u:ByteArray)(hu:u.size≤maxLen){T:Tags}{h:Heap}{g:Tag}{p:Nat}{f:Feed}(w:Wf T h)(gg:Gd g)(x:FeedR T h g p f)(fg:FdG f)(hl:f.ws.length<999999)
  (hk:∀ T' h',Only (pre g) T h T' h'→FeedR T' h' g p (f.watch who u)→K (.tuple #[]) h'):callM P qkkZ #[ptr p,.int .i64 who,.string u] h K:=by
 apply qvmZ
 unfold qluZ
 refine client_ok who ?_
 unfold qqDZ
 cases hc:clientB who with
 | false =>
  simp -implicitDefEqProofs
  have e:f.watch who u=f:=by simp[Feed.watch,hc]
  rw[e] at hk
  exact hk T h (Only.refl w) x
 | true =>
 have e:f.watch who u={ f with ws:=putB f.ws u (mor (valL 0 f.ws u) who) }:=by simp[Feed.watch,hc]
 rw[e] at hk
 obtain⟨n,rfl⟩:∃ n:Nat,who=n:=⟨who.toNat,by simp[clientB] at hc; omega⟩
 have hn:n<8:=by simp[clientB] at hc; omega
 simp -implicitDefEqProofs
 unfold qqCZ
 obtain⟨kw,vw,q,x⟩:∃ kw vw q,FeedX T h g p f kw vw q:=by
  obtain⟨kw,vw,q,a1,a2,a3,a4,a5,a6,a7⟩:=x
  exact⟨kw,vw,q,a1,a2,a3,a4,a5,a6,a7⟩
 have cp:=x.hp
 have hws:WsR (fz T h) kw vw f.ws:=⟨x.x1,x.x2,x.s1,x.s2⟩
 have ldw:∀ h',h' p=some (.cells (feedC kw vw fun j=>ptr (q j)).toArray qauZ (0,0))→ldV (some (some 2)) (.pointer (some ⟨p,0,none⟩)) h'=some (.agg #[kw,vw]):=fun h' c=>by simp[ld_at c,feedC,feedG,List.range_succ]
 simp -implicitDefEqProofs[ldw _ cp]
 refine mget_ok f.ws fg.so u (fz_ext T h) hws (by omega) fun h1 e1=>?_
 have o1:Only non T h T h1:=Only.of_ext w e1
 have x1:=x.kp o1.k (Off.non _) (not_non _)
 unfold qqBZ
 simp -implicitDefEqProofs[ldw _ x1.hp,b_shl hn,b_or hn]
 refine mwith_ok f.ws fg.so u hu _ o1.wf ⟨x1.x1,x1.x2,x1.s1,x1.s2⟩ (by omega) fun h2 k v e2 y2=>?_
 have o2:Only non T h1 T h2:=Only.of_ext o1.wf e2
 have x2:=x1.kp o2.k (Off.non _) (not_non _)
 have cp2:=x2.hp
 have p1:=y2.1.one
 have p2:=y2.2.1.one
 obtain⟨o3,x3⟩:=x2.stw o2.wf gg y2 (c:=(feedC k v fun j=>ptr (q j)).toArray) rfl
 simp -implicitDefEqProofs only[feedC,feedG,List.range_succ] at cp2 o3 x3
 simp at cp2 o3 x3
 simp -implicitDefEqProofs[ld_at cp2,cel_of cp2,stm_at cp2,stm_upd,ld_same,cel_same,over,p1.1,p1.2,p2.1,p2.2]
 exact hk T _ (((o1.trans o2).mono fun _=>non_up _).up o3 fun t=>eq_pre) x3.r
theorem funwatch_ok (who:Int)(u:ByteArray)(hu:u.size≤maxLen){T:Tags}{h:Heap}{g:Tag}{p:Nat}{f:Feed}(w:Wf T h)(gg:Gd g)(x:FeedR T h g p f)(fg:FdG f)(hl:f.ws.length<999999)
  (hk:∀ T' h',Only (pre g) T h T' h'→FeedR T' h' g p (f.unwatch who u)→K (.tuple #[]) h'):callM P qivZ #[ptr p,.int .i64 who,.string u] h K:=by
 apply qurZ
 unfold qjJZ
 obtain⟨kw,vw,q,x⟩:∃ kw vw q,FeedX T h g p f kw vw q:=by
  obtain⟨kw,vw,q,a1,a2,a3,a4,a5,a6,a7⟩:=x
  exact⟨kw,vw,q,a1,a2,a3,a4,a5,a6,a7⟩
 have cp:=x.hp
 have hws:WsR (fz T h) kw vw f.ws:=⟨x.x1,x.x2,x.s1,x.s2⟩
 have ldw:∀ h',h' p=some (.cells (feedC kw vw fun j=>ptr (q j)).toArray qauZ (0,0))→ldV (some (some 2)) (.pointer (some ⟨p,0,none⟩)) h'=some (.agg #[kw,vw]):=fun h' c=>by simp[ld_at c,feedC,feedG,List.range_succ]
 simp -implicitDefEqProofs[ldw _ cp]
 refine mget_ok f.ws fg.so u (fz_ext T h) hws (by omega) fun h1 e1=>?_
 have o1:Only non T h T h1:=Only.of_ext w e1
 have x1:=x.kp o1.k (Off.non _) (not_non _)
 have p1':Only (pre g) T h T h1:=o1.mono fun _=>non_up _
 unfold qoGZ
 simp -implicitDefEqProofs
 refine client_ok who ?_
 unfold qoFZ
 cases hc:clientB who with
 | false =>
  have e:f.unwatch who u=f:=by simp[Feed.unwatch,hc]
  rw[e] at hk
  simp -implicitDefEqProofs
  exact hk T h1 p1' x1.r
 | true =>
 obtain⟨n,rfl⟩:∃ n:Nat,who=n:=⟨who.toNat,by simp[clientB] at hc; omega⟩
 have hn:n<8:=by simp[clientB] at hc; omega
 by_cases hm:valL 0 f.ws u=0
 ·have e:f.unwatch n u=f:=by simp[Feed.unwatch,hm]
  rw[e] at hk
  simp -implicitDefEqProofs[hm]
  exact hk T h1 p1' x1.r
 simp -implicitDefEqProofs[hm]
 unfold qoEZ
 simp -implicitDefEqProofs[b_shl hn,b_clr hn]
 by_cases hz:mclr (valL 0 f.ws u) n=0
 ·have e:f.unwatch n u={ f with ws:=delB f.ws u }:=by simp[Feed.unwatch,hc,hm,hz]
  rw[e] at hk
  simp -implicitDefEqProofs[hz]
  unfold qoCZ
  simp -implicitDefEqProofs[ldw _ x1.hp]
  refine mwithout_ok f.ws fg.so u o1.wf ⟨x1.x1,x1.x2,x1.s1,x1.s2⟩ (by omega) fun h2 k v e2 y2=>?_
  have o2:Only non T h1 T h2:=Only.of_ext o1.wf e2
  have x2:=x1.kp o2.k (Off.non _) (not_non _)
  have cp2:=x2.hp
  have p1:=y2.1.one
  have p2:=y2.2.1.one
  obtain⟨o3,x3⟩:=x2.stw o2.wf gg y2 (c:=(feedC k v fun j=>ptr (q j)).toArray) rfl
  simp -implicitDefEqProofs only[feedC,feedG,List.range_succ] at cp2 o3 x3
  simp at cp2 o3 x3
  simp -implicitDefEqProofs[ld_at cp2,cel_of cp2,stm_at cp2,stm_upd,ld_same,cel_same,over,p1.1,p1.2,p2.1,p2.2]
  exact hk T _ (((o1.trans o2).mono fun _=>non_up _).up o3 fun t=>eq_pre) x3.r
 ·have e:f.unwatch n u={ f with ws:=putB f.ws u (mclr (valL 0 f.ws u) n) }:=by simp[Feed.unwatch,hc,hm,hz]
  rw[e] at hk
  simp -implicitDefEqProofs[hz]
  unfold qoDZ
  simp -implicitDefEqProofs[ldw _ x1.hp]
  refine mwith_ok f.ws fg.so u hu _ o1.wf ⟨x1.x1,x1.x2,x1.s1,x1.s2⟩ (by omega) fun h2 k v e2 y2=>?_
  have o2:Only non T h1 T h2:=Only.of_ext o1.wf e2
  have x2:=x1.kp o2.k (Off.non _) (not_non _)
  have cp2:=x2.hp
  have p1:=y2.1.one
  have p2:=y2.2.1.one
  obtain⟨o3,x3⟩:=x2.stw o2.wf gg y2 (c:=(feedC k v fun j=>ptr (q j)).toArray) rfl
  simp -implicitDefEqProofs only[feedC,feedG,List.range_succ] at cp2 o3 x3
  simp at cp2 o3 x3
  simp -implicitDefEqProofs[ld_at cp2,cel_of cp2,stm_at cp2,stm_upd,ld_same,cel_same,over,p1.1,p1.2,p2.1,p2.2]
  exact hk T _ (((o1.trans o2).mono fun _=>non_up _).up o3 fun t=>eq_pre) x3.r
theorem hwatch_ok (who:Int){s:Nat}(u:ByteArray)(hu:u.size≤maxLen)(on:Bool){T:Tags}{h:Heap}{g:Tag}{p m:Nat}{H:Hall}(w:Wf T h)(gg:Gd g)(x:HallR T h g p H)(hs:s<H.n)(hh:HS m H)(hm:m<100000)
  (hk:∀ T' h',Only (pre g) T h T' h'→HallR T' h' g p (H.watch who s u on)→K (.tuple #[]) h'):callM P qkgZ #[ptr p,.int .i64 who,.int .i64 s,.string u,.bool on] h K:=by
 apply qvgZ
 unfold qloZ
 obtain⟨sv,av,Y,x⟩:=x
 refine hwr_ok who w gg x hs hh.n8.2 (by have:=hh.ac; omega) fun T2 h2 av2 b o2 x2 rb=>?_
 obtain⟨b',ob,rb',hb1,tb,ia,l1,l2,l3,l4,l5,l6⟩:=x2.lds (s:=s) (k:=.i64) hs
 have hbb:b'=b:=by rw[rb] at rb'; cases rb'; rfl
 subst hbb
 have hf:=(x2.sr s hs).2.2
 have fd:=(hh.st s hs).fd
 have fg:=fd.g hm
 have hl:((H.wr who s).ss s).feed.ws.length<999999:=by have:=fd.len; show (H.ss s).feed.ws.length<_; omega
 have oh:Only (pre g) T h T2 h2:=o2.mono fun _=>U02.pre
 unfold qqtZ
 simp -implicitDefEqProofs[l5]
 cases on with
 | true =>
  simp -implicitDefEqProofs
  refine fwatch_ok who u hu o2.wf (gg.app [3,s]) hf fg hl fun T4 h4 o4 r4=>?_
  exact hk T4 h4 (oh.up o4 fun t=>pre_trans) ⟨sv,av2,_,x2.fed hs o4 gg r4⟩
 | false =>
  simp -implicitDefEqProofs
  refine funwatch_ok who u hu o2.wf (gg.app [3,s]) hf fg hl fun T4 h4 o4 r4=>?_
  exact hk T4 h4 (oh.up o4 fun t=>pre_trans) ⟨sv,av2,_,x2.fed hs o4 gg r4⟩
end Go.Proofs.YtmbningljbcpkaaGreat
namespace Go.Proofs.YtmbningljbcpkaaGreat
open Go Go.Den Go.MapKept
set_option linter.unusedSimpArgs false
set_option linter.unusedVariables false
set_option maxRecDepth 20000
def evX (l:List Evt):List (Array Value):=l.map fun e=>#[.agg (evC e).toArray]
theorem zcEv:zc P qsZ=some #[.string ⟨#[]⟩,.int .i64 0,.int .i64 0,.int .i64 0,.int .i64 0,.int .i64 0,.int .i64 0,.int .u64 0]:=by kernel_rfl
theorem rall_it (r : Ring) {hA : Heap} {b p : Nat} {lv : Value} (cb : hA b = some (.cells #[ptr p] qaeZ (0, 0))) (cp : hA p = some (.cells (ringC r lv).toArray qEZ (0, 0))) (x : Sl 8 EvR hA lv r.l) (hl : r.l.length < 1000000) :
    It P qcvZ #[ptr b] (evX r.l) hA := by
  intro yv I S h K hx hs h0 hround hK1 hK2
  apply qrgZ
  unfold qcWZ
  have cb0 := hx _ _ h0 _ _ cb
  have cp0 := hx _ _ h0 _ _ cp
  simp -implicitDefEqProofs only [ringC] at cp0
  have hlen := x.len
  simp -implicitDefEqProofs [ld_at cb0, cel_of cb0, stm_at cb0, ld_at cp0, cel_of cp0, stm_at cp0, stm_upd, ld_same, cel_same, over, hlen]
  refine loop_on [0, 8, 9] (fun s h' => ∃ k : Nat, k ≤ r.l.length ∧ s 10 = .int .i64 k ∧ I k h') (fun s _ => (r.l.length - num (s 10)).toNat) ⟨0, by omega, rfl, h0⟩ ?_
  rintro s h1 hf ⟨k, hk, s10, hI⟩
  have s0 : s 0 = yv := by simpa using hf 0 (by simp)
  have s8 : s 8 = lv := by simpa using hf 8 (by simp)
  have s9 : s 9 = .int .i64 r.l.length := by simpa using hf 9 (by simp)
  unfold qgJZ
  simp -implicitDefEqProofs only [s9, s10, bin_lss, ov_s, cd_b]
  refine ⟨fun hc => ?_, fun hc => ?_⟩
  rotate_left
  · have : k = r.l.length := by have : ¬ ((k : Int) < r.l.length) := by simpa using hc
                                omega
    subst this
    simp -implicitDefEqProofs
    exact hK1 _ _ (by simpa [evX] using hI)
  have hlt : k < r.l.length := by have : ((k : Int) < r.l.length) := by simpa using hc
                                  omega
  have hw : IntKind.i64.wrap ((k : Int) + 1) = k + 1 := wrap64_id (by omega) (by omega)
  have eA := hx _ _ hI
  obtain ⟨eb, eo, i1, i2⟩ := ev_ld x (k := .i64) hlt
  unfold qgIZ
  simp -implicitDefEqProofs only [s8, s10, i1, ov_s, ldV_n (i2 _ eA), zcEv]
  refine nw_st rfl (by simp [evC, presC]) (by simp [evC, presC]) fun vb h3 n3 e3 c3 => ?_
  have c3 : h3 vb = some (.cells (evC r.l[k]).toArray qsZ (0, 0)) := by simpa using c3
  have hld : ldV (some (some 8)) (ptr vb) h3 = some (.agg (evC r.l[k]).toArray) := by simp [ld_at c3, evC, presC]
  simp -implicitDefEqProofs only [hld, ov_s, s0]
  have hj : k < (evX r.l).length := by simpa [evX] using hlt
  have hr := hround k hj h3
  have hx' : (evX r.l)[k] = #[.agg (evC r.l[k]).toArray] := by simp [evX]
  rw [hx'] at hr
  refine hr _ (hs _ _ _ hI e3) (fun h4 hI4 => ?_) (fun h4 hS => ?_)
  · unfold qcfZ qgHZ
    simp -implicitDefEqProofs [s10, hw, s0, s8, s9]
    exact ⟨⟨k + 1, by omega, by simp, hI4⟩, by omega⟩
  · unfold qcfZ
    simp -implicitDefEqProofs
    exact hK2 _ _ hS
def DrJ (hB:Heap)(v1:Nat)(l:List Evt)(q b' i:Nat)(h':Heap):Prop :=
 ∃ ov,h' v1=some (.cells #[ov] qeZ (0,0))∧Row 8 qsZ h' ov i ((l.take i).flatMap evC)∧Ext (wo hB [v1]) h'∧∀ r,rowOf ov=some r→r≠v1∧r≠q∧r≠b'∧hB r=none
def DrC (hB:Heap)(v1:Nat)(l:List Evt)(q b' i:Nat)(s2:Env)(h':Heap):Prop:=DrJ hB v1 l q b' i h'∧s2 4=ptr v1∧∃ (hi:i<l.length) (xb:Nat),s2 5=ptr xb∧xb≠q∧xb≠v1∧h' xb=some (.cells (evC l[i]).toArray qsZ (0,0))
theorem DrJ.keep {hB:Heap}{v1:Nat}{l:List Evt}{q b' i:Nat}{h' h'':Heap}(J:DrJ hB v1 l q b' i h')(hl':hB q=none)(h3:hB v1≠none)(k:Keep (some q) h' h''):DrJ hB v1 l q b' i h'':=by
 obtain⟨ov,c,r,e,n⟩:=J
 refine⟨ov,k _ _ c (fun hh=>by cases hh; exact h3 hl'),r.of_at fun g hg=>?_,wo_keep e hl' k,n⟩
 obtain⟨o,ho⟩:=r.lt g hg
 rw[ho]; exact k _ _ ho (fun hh=>(n g hg).2.1 (by cases hh; rfl))
theorem zcSlEv:zc P qeZ=some #[.slice none 0 0]:=by kernel_rfl
variable {K:KTy}
set_option maxHeartbeats 2000000 in
theorem rdrain_ok {T:Tags}{h:Heap}{g:Tag}{p:Nat}{r:Ring}(w:Wf T h)(gg:Gd g)(x:RingR T h g p r)(hl:r.l.length<1000000)
  (hk:∀ T' h' v,Only (pre g) T h T' h'→RingR T' h' g p ⟨r.room,[],false⟩→Sl 8 EvR (fz T' h') v r.l→K (.tuple #[v,.bool r.lost]) h'):callM P qGZ #[ptr p] h K:=by
 apply qrJZ
 unfold qdqZ
 rw[zcSlEv]
 refine nw_intro fun v1 h1 n1 e1 c1=>?_
 obtain⟨lv,cp,tp,rl⟩:=x
 have cp1:=e1 _ _ cp
 have xs:Sl 8 EvR h lv r.l:=Row.slE (enc:=evC) (R:=EvR) (fun e=>by simp[evC,presC]) (fun _=>rfl) rl.1
 have n1p:p≠v1:=fun hh=>by subst hh; rw[cp] at n1; cases n1
 rw[seqM_eq]
 unfold qgWZ
 apply qshZ
 unfold qeRZ
 simp -implicitDefEqProofs only[nwM_s,Value.cells]
 intro bA nA
 have eA:Ext h1 (upd h1 bA _):=Ext.upd nA (.cells #[ptr p] qaeZ (0,0))
 have cA:=upd_same' h1 bA (.cells #[ptr p] qaeZ (0,0))
 generalize upd h1 bA _=hB at *
 have nA1:v1≠bA:=ne_fresh c1 nA
 have c1:=eA _ _ c1
 have cp2:=eA _ _ cp1
 have e0B:=e1.trans eA
 have h1B:hB v1≠none:=by rw[c1]; simp
 have F1:Ext h (wo hB [v1]):=wo_ext e0B (by simpa using n1)
 have hlx:(evX r.l).length=r.l.length:=by simp[evX]
 simp -implicitDefEqProofs only[ov_s]
 unfold qgVZ
 refine rf_go good mixed rfl (by kernel_rfl) (rall_it r (hA:=wo hB [v1]) (b:=bA) (p:=p) (lv:=lv) (by rw[wo_out (by simpa using Ne.symm nA1)]; exact cA) (by rw[wo_out (by simpa using n1p)]; exact cp2) (xs.ext (@EvR.ext) F1) hl)
  (fun q b' i h'=>DrJ hB v1 r.l q b' i h') (fun _ _ _ _=>False) (fun q b' i s2 h'=>DrC hB v1 r.l q b' i s2 h') ?_ ?_ ?_ (fun _ _ _ _ _ _ _ h _=>h) ?_ ?_ ?_ ?_ ?_ (fun _ _ _ _ _ _ _ h=>h.elim) (fun _ _ _ _ _ _ _ _ h=>h.elim)
 ·intro q b' hq hb'
  exact⟨_,c1,by simpa using (Rf.nil (sz:=8) (e:=qsZ) (Ext.refl hB)).row,fun k o hk=>(wo_get hk).2,fun k hk=>by simp[rowOf] at hk⟩
 ·intro q b' i h' J; obtain⟨ov,_,_,e,_⟩:=J; exact e
 ·intro q b' hq hb' i h' h'' J k
  exact J.keep hq h1B k
 ·rintro q b' i s2 ha hb hq hb' ⟨J,s4,hi,xb,s5,nx,nx1,cx⟩ k
  exact⟨J.keep hq h1B k,s4,hi,xb,s5,nx,nx1,k _ _ cx (fun hh=>nx (by cases hh; rfl))⟩
 ·intro i hi; simp[evX]
 ·rintro i hi q b' h2 hq hb' ⟨ol,hol⟩ ⟨ob,hob⟩ J
  rw[qpLZ]
  unfold qgFZ
  rw[zcEv]
  have hib:i<r.l.length:=by omega
  have hxi:(evX r.l)[i]=#[.agg (evC r.l[i]).toArray]:=by simp[evX]
  rw[hxi]
  simp -implicitDefEqProofs
  refine nw_st rfl (by simp[evC,presC]) (by simp[evC,presC]) fun xb h4 n4 e4 c4=>?_
  have nx:xb≠q:=fun hh=>by subst hh; rw[hol] at n4; cases n4
  obtain⟨ov,cv,rr,e,nr⟩:=J
  refine⟨⟨⟨ov,e4 _ _ cv,rr.ext e4,e.trans e4,nr⟩,by simp,hib,xb,by simp,nx,fun hh=>(by subst hh; rw[cv] at n4; cases n4),by simpa using c4⟩,by rw[hol,e4 _ _ hol],by rw[hob,e4 _ _ hob]⟩
 ·rintro i hi q b' s2 h3 hq hb' ⟨ol,hol⟩ ⟨ob,hob⟩ ⟨⟨ov,cv,rr,e,nr⟩,s4,hib,xb,s5,nx,nx1,cx⟩
  rw[qpMZ]
  unfold qgGZ
  have hld:ldV (some (some 8)) (ptr xb) h3=some (.agg (evC r.l[i]).toArray):=by simp[ld_at cx,evC,presC]
  simp -implicitDefEqProofs[s4,s5,ld_at cv,cel_of cv,stm_at cv,stm_upd,ld_same,cel_same,over,hld]
  refine app_one (x:=.agg (evC r.l[i]).toArray) bsEv unSlEv apEv (by omega) (by simp[evC,presC]) (by simp[evC,presC]) rr (by unfold maxLen; omega) (by omega) (by omega) fun a ov' h4 r4 k4 ha=>?_
  have hl3:q≠v1:=fun hh=>by subst hh; rw[hq] at c1; cases c1
  have hb3:b'≠v1:=fun hh=>by subst hh; rw[hb'] at c1; cases c1
  have cv4:h4 v1=some (.cells #[ov] qeZ (0,0)):=k4 _ _ cv (fun hh=>(nr v1 hh.symm).1 rfl)
  have hol4:h4 q=some ol:=k4 _ _ hol (fun hh=>(nr q hh.symm).2.1 rfl)
  have hob4:h4 b'=some ob:=k4 _ _ hob (fun hh=>(nr b' hh.symm).2.2.1 rfl)
  have nr':∀ k,rowOf ov'=some k→k≠v1∧k≠q∧k≠b'∧hB k=none:=fun k hk=>by
   rcases ha with ha | ⟨j,ha,hj⟩
   ·exact nr k (by rw[← ha]; exact hk)
   ·rw[ha] at hk; cases hk
    refine⟨fun hh=>?_,fun hh=>?_,fun hh=>?_,?_⟩
    ·subst hh; rw[cv] at hj; cases hj
    ·subst hh; rw[hol] at hj; cases hj
    ·subst hh; rw[hob] at hj; cases hj
    ·by_cases hg3:k=v1
     ·subst hg3; rw[cv] at hj; cases hj
     ·cases hh:hB k with
      | none=>rfl
      | some o =>
       have:=e k o (by rw[wo_out (by simpa using hg3)]; exact hh)
       rw[this] at hj; cases hj
  have okv:ov'.cells=#[ov']:=r4.one.2
  simp -implicitDefEqProofs[ld_at cv4,cel_of cv4,stm_at cv4,stm_upd,ld_same,cel_same,over,okv,r4.one.1]
  refine⟨by rw[upd_ne hl3,hol4,hol],by rw[upd_ne hb3,hob4,hob],ov',upd_same' _ _ _,?_,wo_upd ?_ (by simp),nr'⟩
  ·have:r.l.take (i+1)=r.l.take i++[r.l[i]]:=by rw[List.take_succ_eq_append_getElem hib]
   rw[this,List.flatMap_append]
   exact (by simpa using r4:Row 8 qsZ h4 ov' (i+1) _).of_at fun k hk=>upd_ne (nr' k hk).1
  ·intro k o hk
   have hkB:=wo_get hk
   have:=e k o hk
   exact k4 k o this fun hh=>by rw[(nr k hh.symm).2.2.2] at hkB; cases hkB.2
 ·intro q b' h' hq hne hb' hd J
  rw[hlx] at J
  obtain⟨ov,cv,rr,e,nr⟩:=J
  rw[List.take_of_length_le (Nat.le_refl _)] at rr
  have cp3:=e _ _ (show wo hB [v1] p=_ by rw[wo_out (by simpa using n1p)]; exact cp2)
  have nb1:v1≠b':=fun hh=>by subst hh; rw[hb'] at c1; cases c1
  have nbp:p≠b':=fun hh=>by subst hh; rw[hb'] at cp2; cases cp2
  simp -implicitDefEqProofs only[ringC] at cp3
  simp -implicitDefEqProofs only[blkM_n,thenM_n]
  unfold qgXZ
  simp -implicitDefEqProofs[ld_at cp3,cel_of cp3,stm_at cp3,ld_at cv,cel_of cv,stm_at cv,stm_skip n1p,stm_skip (Ne.symm n1p),ld_skip n1p,ld_skip (Ne.symm n1p),cel_skip n1p,cel_skip (Ne.symm n1p),stm_upd,ld_same,cel_same,over,hd,ld_skip nb1,cel_skip nb1,upd_ne (Ne.symm nbp)]
  obtain⟨X,hX⟩:∃ X,X=Obj.cells #[Value.int .i64 r.room,.slice none 0 0,.bool false] qEZ (0,0):=⟨_,rfl⟩
  rw[← hX]
  have ec:upd (upd h' p X) b' (.deferred none)=upd (upd h' b' (.deferred none)) p X:=by
   funext k
   by_cases h1:k=b'
   ·subst h1; rw[upd_same',upd_ne (Ne.symm nbp),upd_same']
   ·rw[upd_ne h1]
    by_cases h2:k=p
    ·subst h2; rw[upd_same',upd_same']
    ·rw[upd_ne h2,upd_ne h2,upd_ne h1]
  rw[ec]
  have E1:Ext h (upd h' b' (.deferred none)):=ext_upd (fresh_of e0B hb') (ext_wo e0B (by simpa using n1) e)
  have o1:Only non T h T (upd h' b' (.deferred none)):=Only.of_ext w E1
  have o2:Only (fun t=>t=g++[0]) T (upd h' b' (.deferred none)) T (upd (upd h' b' (.deferred none)) p X):=Only.upd o1.wf (E1 _ _ cp) tp
  have nrh:∀ k,rowOf ov=some k→h k=none:=fun k hk=>fresh_of e0B (nr k hk).2.2.2
  refine hk T _ ov ((o1.mono fun _=>non_up _).up o2 fun t=>eq_pre) ⟨.slice none 0 0,by rw[upd_same',hX]; rfl,tp,Rw.nil _ _ _ _ _⟩ ?_
  have r2:Row 8 qsZ (upd (upd h' b' (.deferred none)) p X) ov r.l.length (r.l.flatMap evC):=rr.of_at fun j hj=>by
   have hjp:j≠p:=fun hh=>by have:=nrh j hj; rw[hh,cp] at this; cases this
   rw[upd_ne hjp,upd_ne (nr j hj).2.2.1]
  exact Row.slE (enc:=evC) (R:=EvR) (fun e=>by simp[evC,presC]) (fun _=>rfl) (r2.fz w nrh)
end Go.Proofs.YtmbningljbcpkaaGreat
namespace Go.Proofs.YtmbningljbcpkaaGreat
open Go Go.Den Go.MapKept
set_option linter.unusedSimpArgs false
set_option linter.unusedVariables false
set_option maxRecDepth 20000
variable {K:KTy}
theorem fdrain_ok (who:Int){T:Tags}{h:Heap}{g:Tag}{p:Nat}{f:Feed}(w:Wf T h)(gg:Gd g)(x:FeedR T h g p f)(hl:∀ j,j<8→(f.qs j).l.length<1000000)
  (hk:∀ T' h' v,Only (pre g) T h T' h'→FeedR T' h' g p (f.drain who)→Sl 8 EvR (fz T' h') v (f.told who)→K (.tuple #[v,.bool (f.lost who)]) h'):callM P qklZ #[ptr p,.int .i64 who] h K:=by
 apply qvnZ
 unfold qlvZ
 refine client_ok who ?_
 unfold qqFZ
 cases hc:clientB who with
 | false =>
  simp -implicitDefEqProofs
  have e1:f.drain who=f:=by simp[Feed.drain,hc]
  have e2:f.told who=[]:=by simp[Feed.told,hc]
  have e3:f.lost who=false:=by simp[Feed.lost,hc]
  rw[e1,e2,e3] at hk
  exact hk T h _ (Only.refl w) x (.inl ⟨rfl,_,_,rfl⟩)
 | true =>
 obtain⟨n,rfl⟩:∃ n:Nat,who=n:=⟨who.toNat,by simp[clientB] at hc; omega⟩
 have hn:n<8:=by simp[clientB] at hc; omega
 have e1:f.drain n={ f with qs:=qset f.qs n ⟨(f.qs n).room,[],false⟩ }:=by simp[Feed.drain,hc]
 have e2:f.told n=(f.qs n).l:=by simp[Feed.told,hc]
 have e3:f.lost n=(f.qs n).lost:=by simp[Feed.lost,hc]
 rw[e1,e2,e3] at hk
 obtain⟨kw,vw,q,cp,tp,a3,a4,a5,a6,a7⟩:=x
 simp -implicitDefEqProofs
 unfold qqEZ
 have hcel:cel h p (2+n)=some (ptr (q n)):=by
  rw[cel_of cp]
  have:n=0∨n=1∨n=2∨n=3∨n=4∨n=5∨n=6∨n=7:=by omega
  rcases this with rfl | rfl | rfl | rfl | rfl | rfl | rfl | rfl<;>simp[feedC,feedG,List.range_succ]
 simp -implicitDefEqProofs[ia_arr hn,hcel]
 refine rdrain_ok w (gg.app [1,n]) (a5 n hn) (hl n hn) fun T2 h2 v o2 r2 s2=>?_
 simp -implicitDefEqProofs
 have b:=o2.k.at cp tp (not_pre (by simp))
 have nn:¬ pre (g++[1,n]) []:=(gg.app _).nil
 refine hk T2 h2 v (o2.mono fun t=>pre_trans) ⟨kw,vw,q,b.1,b.2,a3.ext (@StrR.ext) (o2.ext nn),a4.ext (@MaskR.ext) (o2.ext nn),fun j hj=>?_,a6,a7⟩ s2
 show RingR T2 h2 _ _ (qset f.qs n _ j)
 by_cases hjn:j=n
 ·subst hjn; simp[qset]; exact r2
 ·simp -implicitDefEqProofs[qset,hjn]; exact (a5 j hj).kp o2.k (off_pre (by simp; omega) (by simp; omega))
theorem hdrain_ok (who:Int){s:Nat}{T:Tags}{h:Heap}{g:Tag}{p m:Nat}{H:Hall}(w:Wf T h)(gg:Gd g)(x:HallR T h g p H)(hs:s<H.n)(hh:HS m H)(hm:m<100000)(hl:∀ j,j<8→((H.ss s).feed.qs j).l.length<1000000)
  (hk:∀ T' h' v,Only (pre g) T h T' h'→HallR T' h' g p (H.drain who s)→Sl 8 EvR (fz T' h') v ((H.ss s).feed.told who)→K (.tuple #[v,.bool ((H.ss s).feed.lost who)]) h'):callM P qkhZ #[ptr p,.int .i64 who,.int .i64 s] h K:=by
 apply qvhZ
 unfold qlpZ
 obtain⟨sv,av,Y,x⟩:=x
 refine hwr_ok who w gg x hs hh.n8.2 (by have:=hh.ac; omega) fun T2 h2 av2 b o2 x2 rb=>?_
 obtain⟨b',ob,rb',hb1,tb,ia,l1,l2,l3,l4,l5,l6⟩:=x2.lds (s:=s) (k:=.i64) hs
 have hbb:b'=b:=by rw[rb] at rb'; cases rb'; rfl
 subst hbb
 have hf:=(x2.sr s hs).2.2
 have oh:Only (pre g) T h T2 h2:=o2.mono fun _=>U02.pre
 unfold qquZ
 simp -implicitDefEqProofs[l5]
 refine fdrain_ok who o2.wf (gg.app [3,s]) hf hl fun T4 h4 v o4 r4 s4=>?_
 simp -implicitDefEqProofs
 exact hk T4 h4 v (oh.up o4 fun t=>pre_trans) ⟨sv,av2,_,x2.fed hs o4 gg r4⟩ s4
end Go.Proofs.YtmbningljbcpkaaGreat
namespace Go.Proofs.YtmbningljbcpkaaGreat
open Go Go.Den Go.MapKept
set_option linter.unusedSimpArgs false
set_option linter.unusedVariables false
set_option maxRecDepth 20000
theorem mallX_at {b:List (ByteArray × Int)}{Lv:List (List Value)}{F:Heap}(l2:El 1 MaskR F Lv (b.map (·.2))){i:Nat}(hi:i<(mallX b Lv).length):∃ (hb:i<b.length),(mallX b Lv)[i]=#[.string b[i].1,.int .u32 b[i].2]:=by
 have hb:i<b.length:=by simpa [mallX] using hi
 have hL:i<Lv.length:=by rw[l2.len]; simpa using hb
 have he:Lv[i]=[.int .u32 b[i].2]:=by have:=l2.el i hL (by simpa using hb); simpa [MaskR] using this
 refine⟨hb,?_⟩
 simp -implicitDefEqProofs only[mallX,List.getElem_map,List.getElem_range]
 have e1:b.getD i (⟨#[]⟩,0)=b[i]:=by rw[List.getD_eq_getElem?_getD,List.getElem?_eq_getElem hb]; rfl
 have e2:Lv.getD i []=Lv[i]:=by rw[List.getD_eq_getElem?_getD,List.getElem?_eq_getElem hL]; rfl
 rw[e1,e2,he]; rfl
def cntTo (ws:List (ByteArray × Int))(who:Int)(i:Nat):Nat:=((ws.take i).filter fun x=>clientB who && mbit x.2 who).length
theorem cntTo_s {ws:List (ByteArray × Int)}{who:Int}{i:Nat}(hi:i<ws.length):cntTo ws who (i+1)=cntTo ws who i+if (clientB who && mbit ws[i].2 who)=true then 1 else 0:=by
 unfold cntTo
 rw[List.take_succ_eq_append_getElem hi,List.filter_append,List.length_append]
 by_cases h:(clientB who && mbit ws[i].2 who)=true<;>simp[List.filter_cons,h]
theorem cntTo_le (ws:List (ByteArray × Int))(who:Int)(i:Nat):cntTo ws who i≤ws.length:=Nat.le_trans (List.length_filter_le _ _) (by simp; omega)
def CnJ (hB:Heap)(v3:Nat)(ws:List (ByteArray × Int))(who:Int)(i:Nat)(h':Heap):Prop:=Ext (wo hB [v3]) h'∧h' v3=some (.cells #[.int .i64 (cntTo ws who i)] qAZ (0,0))
def CnC (hB:Heap)(v1 v3:Nat)(ws:List (ByteArray × Int))(who:Int)(i:Nat)(s2:Env)(h':Heap):Prop:=CnJ hB v3 ws who i h'∧s2 3=ptr v1∧s2 5=ptr v3∧∃ (hi:i<ws.length),s2 7 = .int .u32 ws[i].2
variable {K:KTy}
theorem fcount_ok (who:Int){T:Tags}{h:Heap}{g:Tag}{p:Nat}{f:Feed}(x:FeedR T h g p f)(fg:FdG f)(hk:∀ h',Ext h h'→K (.int .i64 (f.count who)) h'):callM P qaKZ #[ptr p,.int .i64 who] h K:=by
 apply qvlZ
 unfold qltZ
 refine nw_intro fun v1 h1 n1 e1 c1=>?_
 rw[zcInt]
 refine nw_st rfl rfl (by simp) fun v3 h3 n3 e3 c3=>?_
 have c1:=e3 _ _ c1
 have e0:=e1.trans e3
 have n3':h v3=none:=fresh_of e1 n3
 have ne13:v1≠v3:=ne_fresh ‹h1 v1=_› n3
 obtain⟨kw,vw,q,cp,tp,x1,x2,xq,s1,s2⟩:=x
 have cp:=e0 _ _ cp
 have hag:ldV (some (some 2)) (ptr p) h3=some (.agg #[kw,vw]):=by simp[ld_at cp,feedC,feedG,List.range_succ]
 rw[seqM_eq]
 unfold qqAZ
 simp -implicitDefEqProofs[hag]
 have xW:WsR (fz T h) kw vw f.ws:=⟨x1,x2,s1,s2⟩
 have eF:=(fz_ext T h).trans e0
 refine mall_ok f.ws eF xW fun pA hB nA eA cA=>?_
 have nA3:v3≠pA:=ne_fresh c3 nA
 have c3:=eA _ _ c3
 have c1:=eA _ _ c1
 have e0B:=e0.trans eA
 obtain⟨Lv,l1,l2⟩:=x2.els MaskR.one
 simp -implicitDefEqProofs only[List.length_map] at l1
 have hF3:(fz T h) v3=none:=by
  cases hh:(fz T h) v3 with
  | none=>rfl
  | some o=>rw[fz_ext T h _ _ hh] at n3'; cases n3'
 have F1:Ext (fz T h) (wo hB [v3]):=wo_ext ((fz_ext T h).trans e0B) (by simpa using hF3)
 have hlen:=fg.len
 unfold qqzZ
 refine rf_go good mixed rfl (by kernel_rfl) (mall_it f.ws (hA:=wo hB [v3]) (p:=pA) (kw:=kw) (vw:=vw) (Lv:=Lv) (by rw[wo_out (by simpa using Ne.symm nA3)]; exact cA) (xW.ext F1) (l1.ext F1) l2.size (by simpa using l2.len))
  (fun l b' i h'=>CnJ hB v3 f.ws who i h') (fun _ _ _ _=>False) (fun l b' i s2 h'=>CnC hB v1 v3 f.ws who i s2 h') ?_ ?_ ?_ (fun _ _ _ _ _ _ _ h _=>h) ?_ ?_ ?_ ?_ ?_ (fun _ _ _ _ _ _ _ h=>h.elim) (fun _ _ _ _ _ _ _ _ h=>h.elim)
 ·intro l b' hl' hb'
  exact⟨fun q o hq=>(wo_get hq).2,by simpa [cntTo] using c3⟩
 ·intro l b' i h' J; exact J.1
 ·intro l b' hl' hb' i h' h'' J k
  exact⟨wo_keep J.1 hl' k,k _ _ J.2 (fun hh=>by cases hh; rw[hl'] at c3; cases c3)⟩
 ·rintro l b' i s2 ha hb hl' hb' ⟨J,s3,s5,hi,s7⟩ k
  exact⟨⟨wo_keep J.1 hl' k,k _ _ J.2 (fun hh=>by cases hh; rw[hl'] at c3; cases c3)⟩,s3,s5,hi,s7⟩
 ·intro i hi; simp[mallX]
 ·rintro i hi l b' h2 hl' hb' ⟨ol,hol⟩ ⟨ob,hob⟩ J
  rw[qtQZ]
  unfold qpvZ
  obtain⟨hib,hx⟩:=mallX_at l2 hi
  rw[hx]
  simp -implicitDefEqProofs
  exact⟨J,by simp,by simp,hib,by simp⟩
 ·rintro i hi l b' s2 h3 hl' hb' ⟨ol,hol⟩ ⟨ob,hob⟩ ⟨J,s3,s5,hib,s7⟩
  rw[qtRZ]
  unfold qpwZ
  have cv:=J.2
  have cw:h3 v1=some (.cells #[.int .i64 who] qAZ (0,0)):=J.1 _ _ (by rw[wo_out (by simpa using ne13)]; exact c1)
  obtain⟨m0,m1⟩:=fg.ms _ (List.getElem_mem hib)
  have hle:=cntTo_le f.ws who i
  have hw:IntKind.i64.wrap ((cntTo f.ws who i:Int)+1)=(cntTo f.ws who i+1:Nat):=by rw[wrap64_id (by omega) (by omega)]; omega
  have hl3:l≠v3:=fun hh=>by subst hh; rw[hl'] at c3; cases c3
  have hb3:b'≠v3:=fun hh=>by subst hh; rw[hb'] at c3; cases c3
  have hs:=cntTo_s (who:=who) hib
  simp -implicitDefEqProofs[s3,ld_at cw,cel_of cw,stm_at cw,stm_upd,ld_same,cel_same,over]
  refine client_ok who ?_
  cases hc:clientB who with
  | false =>
   rw[hc] at hs
   simp -implicitDefEqProofs only[Bool.false_and,Bool.false_eq_true,if_false,Nat.add_zero] at hs
   simp -implicitDefEqProofs
   exact⟨J.1,by rw[hs]; exact cv⟩
  | true =>
   rw[hc] at hs
   have hc':0≤who∧who<8:=by simpa [clientB] using hc
   have m2:0≤f.ws[i].2 / 2 ^ who.toNat:=Int.ediv_nonneg m0 (Int.pow_nonneg (by omega))
   have m3:f.ws[i].2 / 2 ^ who.toNat<4294967296:=Int.lt_of_le_of_lt (Int.ediv_le_self _ m0) m1
   by_cases hm:f.ws[i].2 / 2 ^ who.toNat % 2=1
   ·have hmb:mbit f.ws[i].2 who=true:=by simp[mbit,hm]
    rw[hmb] at hs
    simp -implicitDefEqProofs only[Bool.and_self,if_true] at hs
    simp -implicitDefEqProofs[s3,s5,s7,ld_at cw,cel_of cw,stm_at cw,ld_at cv,cel_of cv,stm_at cv,stm_upd,ld_same,cel_same,over,bin_shr32 _ _ hc'.1 hc'.2 m0,bin_and32 _ _ m2 m3,hm,hw,-Int.natCast_add]
    exact⟨by rw[upd_ne hl3,hol],by rw[upd_ne hb3,hob],wo_upd J.1 (by simp),by rw[upd_same',hs]⟩
   ·have hmb:mbit f.ws[i].2 who=false:=by simp[mbit,hm]
    rw[hmb] at hs
    simp -implicitDefEqProofs only[Bool.and_false,Bool.false_eq_true,if_false,Nat.add_zero] at hs
    simp -implicitDefEqProofs[s3,s5,s7,ld_at cw,cel_of cw,stm_at cw,ld_at cv,cel_of cv,stm_at cv,stm_upd,ld_same,cel_same,over,bin_shr32 _ _ hc'.1 hc'.2 m0,bin_and32 _ _ m2 m3,hm]
    exact⟨J.1,by rw[hs]; exact cv⟩
 ·intro l b' h' hl' hlb hb' hd J
  have hlx:(mallX f.ws Lv).length=f.ws.length:=by simp[mallX]
  rw[hlx] at J
  have cv:=J.2
  have nb3:v3≠b':=fun hh=>by subst hh; rw[hb'] at c3; cases c3
  simp -implicitDefEqProofs only[blkM_n,thenM_n]
  simp -implicitDefEqProofs[ld_at cv,cel_of cv,stm_at cv,stm_upd,ld_same,cel_same,over,hd,ld_skip nb3,cel_skip nb3]
  have hct:cntTo f.ws who f.ws.length=f.count who:=by simp[cntTo,Feed.count]
  rw[hct]
  refine hk _ ?_
  exact ext_upd (o:=.deferred none) (fresh_of e0B hb') (ext_wo e0B (by simpa using n3') J.1)
theorem hcount_ok (who:Int){s:Nat}(u:ByteArray){T:Tags}{h:Heap}{g:Tag}{p m:Nat}{H:Hall}(w:Wf T h)(gg:Gd g)(x:HallR T h g p H)(hs:s<H.n)(hh:HS m H)(hm:m<100000)
  (hk:∀ T' h',Only (pre g) T h T' h'→HallR T' h' g p (H.read who s)→K (.tuple #[.int .i64 ((H.ss s).feed.count who),.bool ((H.ss s).feed.watching who u)]) h'):callM P qkfZ #[ptr p,.int .i64 who,.int .i64 s,.string u] h K:=by
 apply qvfZ
 unfold qlnZ
 obtain⟨sv,av,Y,x⟩:=x
 refine place_ok s 4 (by have:=hh.n8; omega) ?_
 unfold qqsZ
 refine did_ok who 1 _ w gg x (by have:=hh.ac; omega) fun T2 h2 av2 o2 x2=>?_
 have cp:=x2.hp
 simp -implicitDefEqProofs only[hallC] at cp
 obtain⟨b,ob,rb,hb,tb,ia,l1,l2,l3,l4,l5,l6⟩:=x2.lds (s:=s) (k:=.i64) hs
 have hf:=(x2.sr s hs).2.2
 have fg:=(hh.st s hs).fd.g hm
 unfold qqrZ
 simp -implicitDefEqProofs[ld_at cp,cel_of cp,stm_at cp,stm_upd,ld_same,cel_same,over,ia,l5]
 refine fcount_ok who hf fg fun h3 e3=>?_
 have o3:Only non T2 h2 T2 h3:=Only.of_ext o2.wf e3
 have x3:=x2.own o3.k
 have cp:=x3.hp
 simp -implicitDefEqProofs only[hallC] at cp
 obtain⟨b',ob',rb',hb',tb',ia',l1',l2',l3',l4',l5',l6'⟩:=x3.lds (s:=s) (k:=.i64) hs
 have hbb:b'=b:=by rw[rb] at rb'; cases rb'; rfl
 subst hbb
 have hf3:=(x3.sr s hs).2.2
 unfold qqqZ
 simp -implicitDefEqProofs[ld_at cp,cel_of cp,stm_at cp,stm_upd,ld_same,cel_same,over,l5']
 refine watching_ok who u hf3 fg fun h4 e4=>?_
 have o4:Only non T2 h3 T2 h4:=Only.of_ext o3.wf e4
 exact hk T2 h4 (((o2.mono fun _=>U02.pre).up o3 non_up).up o4 non_up) ⟨sv,av2,Y,x3.own o4.k⟩
end Go.Proofs.YtmbningljbcpkaaGreat
namespace Go.Den
open Go
set_option linter.unusedVariables false
set_option linter.unusedSimpArgs false
instance actDec:DecidableEq ActD:=fun a b=>decidable_of_iff (a.who=b.who∧a.kind=b.kind∧a.place=b.place) (by cases a; cases b; simp)
structure StepD where
 k:Int
 who:Int
 s:Int
 op:OpD
 t:Tm
 by_:Int
structure StepW (x:StepD):Prop where
 k:0≤x.k∧x.k≤255
 w:0≤x.who∧x.who≤255
 s:0≤x.s∧x.s≤255
 o:OpW x.op
 t:U64 x.t.now∧U64 x.t.seq
 b:U64 x.by_
def StepD.w (x:StepD):Int:=x.who % 10
def Hall.at_ (H:Hall)(x:StepD):Nat:=(x.s % H.n).toNat
def Hall.does (H:Hall)(x:StepD):Hall :=
 if x.k % 16=0 then H.look x.w
 else if x.k % 16=1 then H.take x.w
 else if x.k % 16=2 then H.pass x.w x.by_
 else if x.k % 16=3 then H.shut x.w
 else if x.k % 16=4 then H.lock x.w (H.at_ x)
 else if x.k % 16=5 then H.unlock x.w (H.at_ x)
 else if x.k % 16=6 then H.epoch x.w (H.at_ x)
 else if x.k % 16=7 then H.begin x.w (H.at_ x)
 else if x.k % 16=8 then H.end_ x.w (H.at_ x)
 else if x.k % 16=9 then H.snap x.w (H.at_ x)
 else if x.k % 16=10 then H.pub x.w (H.at_ x)
 else if x.k % 16=11 then (H.write x.w (H.at_ x) x.op x.t).1
 else if x.k % 16=12 then H.sweep x.w (H.at_ x) x.t
 else if x.k % 16=13 then H.read x.w (H.at_ x)
 else if x.k % 16=14 then H.watch x.w (H.at_ x) x.op.user (decide (x.by_ % 2=0))
 else H.drain x.w (H.at_ x)
theorem does_cases {P:Hall→Prop}{H:Hall}{x:StepD}(h0:x.k % 16=0→P (H.look x.w))(h1:x.k % 16=1→P (H.take x.w))(h2:x.k % 16=2→P (H.pass x.w x.by_))(h3:x.k % 16=3→P (H.shut x.w))
  (h4:x.k % 16=4→P (H.lock x.w (H.at_ x))) (h5:x.k % 16=5→P (H.unlock x.w (H.at_ x))) (h6:x.k % 16=6→P (H.epoch x.w (H.at_ x))) (h7:x.k % 16=7→P (H.begin x.w (H.at_ x))) (h8:x.k % 16=8→P (H.end_ x.w (H.at_ x)))
  (h9:x.k % 16=9→P (H.snap x.w (H.at_ x))) (h10:x.k % 16=10→P (H.pub x.w (H.at_ x))) (h11:x.k % 16=11→P (H.write x.w (H.at_ x) x.op x.t).1) (h12:x.k % 16=12→P (H.sweep x.w (H.at_ x) x.t)) (h13:x.k % 16=13→P (H.read x.w (H.at_ x)))
  (h14:x.k % 16=14→P (H.watch x.w (H.at_ x) x.op.user (decide (x.by_ % 2=0)))) (h15:x.k % 16=15→P (H.drain x.w (H.at_ x))):P (H.does x):=by
 unfold Hall.does
 by_cases c0:x.k % 16=0
 ·rw[if_pos c0]; exact h0 c0
 rw[if_neg c0]
 by_cases c1:x.k % 16=1
 ·rw[if_pos c1]; exact h1 c1
 rw[if_neg c1]
 by_cases c2:x.k % 16=2
 ·rw[if_pos c2]; exact h2 c2
 rw[if_neg c2]
 by_cases c3:x.k % 16=3
 ·rw[if_pos c3]; exact h3 c3
 rw[if_neg c3]
 by_cases c4:x.k % 16=4
 ·rw[if_pos c4]; exact h4 c4
 rw[if_neg c4]
 by_cases c5:x.k % 16=5
 ·rw[if_pos c5]; exact h5 c5
 rw[if_neg c5]
 by_cases c6:x.k % 16=6
 ·rw[if_pos c6]; exact h6 c6
 rw[if_neg c6]
 by_cases c7:x.k % 16=7
 ·rw[if_pos c7]; exact h7 c7
 rw[if_neg c7]
 by_cases c8:x.k % 16=8
 ·rw[if_pos c8]; exact h8 c8
 rw[if_neg c8]
 by_cases c9:x.k % 16=9
 ·rw[if_pos c9]; exact h9 c9
 rw[if_neg c9]
 by_cases c10:x.k % 16=10
 ·rw[if_pos c10]; exact h10 c10
 rw[if_neg c10]
 by_cases c11:x.k % 16=11
 ·rw[if_pos c11]; exact h11 c11
 rw[if_neg c11]
 by_cases c12:x.k % 16=12
 ·rw[if_pos c12]; exact h12 c12
 rw[if_neg c12]
 by_cases c13:x.k % 16=13
 ·rw[if_pos c13]; exact h13 c13
 rw[if_neg c13]
 by_cases c14:x.k % 16=14
 ·rw[if_pos c14]; exact h14 c14
 rw[if_neg c14]
 exact h15 (by omega)
theorem at_lt {H:Hall}(x:StepD)(h:0<H.n):H.at_ x<H.n:=by
 unfold Hall.at_
 have h1:=Int.emod_nonneg x.s (show (H.n:Int)≠0 by omega)
 have h2:=Int.emod_lt_of_pos x.s (show (0:Int)<H.n by omega)
 omega
theorem w_rng (x:StepD):0≤x.w∧x.w≤9:=by unfold StepD.w; omega
theorem HS.does {m:Nat}{H:Hall}(y:HS m H){x:StepD}(w:StepW x):HS (m+1) (H.does x):=by
 have hs:=at_lt x (show 0<H.n by have:=y.n8; omega)
 have hw:=w_rng x
 exact does_cases (fun _=>y.look _) (fun _=>y.take _) (fun _=>y.pass _ _ w.b) (fun _=>y.shut _) (fun _=>y.lock hs (by omega)) (fun _=>y.unlock hs) (fun _=>y.epoch _ _) (fun _=>y.begin hs) (fun _=>y.end_ hs) (fun _=>y.snap _ _)
  (fun _=>y.pub hs) (fun _=>y.write w.o _ w.t.1 hs) (fun _=>y.sweep _ hs) (fun _=>y.read _ _) (fun _=>y.watch hs w.o.s1 _) (fun _=>y.drain hs)
theorem write_nc (H:Hall)(w:Int)(s:Nat)(o:OpD)(t:Tm):(H.write w s o t).1.n=H.n∧(H.write w s o t).1.c=H.c:=by unfold Hall.write; split<;>exact⟨rfl,rfl⟩
theorem does_nc (H:Hall)(x:StepD):(H.does x).n=H.n∧(H.does x).c=H.c:=by
 have h1:=lock_n H x.w (H.at_ x)
 have h2:=unlock_n H x.w (H.at_ x)
 exact does_cases (P:=fun G=>G.n=H.n∧G.c=H.c) (fun _=>⟨rfl,rfl⟩) (fun _=>⟨rfl,rfl⟩) (fun _=>⟨rfl,rfl⟩) (fun _=>⟨rfl,rfl⟩) (fun _=>⟨h1.1,h1.2.1⟩) (fun _=>⟨h2.1,h2.2.1⟩) (fun _=>⟨rfl,rfl⟩) (fun _=>⟨rfl,rfl⟩) (fun _=>⟨rfl,rfl⟩)
  (fun _=>⟨rfl,rfl⟩) (fun _=>⟨rfl,rfl⟩) (fun _=>write_nc _ _ _ _ _) (fun _=>⟨rfl,rfl⟩) (fun _=>⟨rfl,rfl⟩) (fun _=>⟨rfl,rfl⟩) (fun _=>⟨rfl,rfl⟩)
theorem put_ne {H:Hall}{s o:Nat}{y:Strp}(h:o≠s):(H.put s y).ss o=H.ss o:=by simp only[Hall.put,sput,if_neg h]
theorem does_other {H:Hall}{x:StepD}{o:Nat}(h:o≠H.at_ x):(H.does x).ss o=H.ss o:=by
 refine does_cases (P:=fun G=>G.ss o=H.ss o) (fun _=>rfl) (fun _=>rfl) (fun _=>rfl) (fun _=>rfl) (fun _=>?_) (fun _=>?_) (fun _=>rfl) (fun _=>put_ne h) (fun _=>put_ne h) (fun _=>rfl) (fun _=>put_ne h) (fun _=>?_) (fun _=>put_ne h) (fun _=>rfl) (fun _=>put_ne h) (fun _=>put_ne h)
 ·unfold Hall.lock; split
  ·exact put_ne h
  ·rfl
 ·unfold Hall.unlock; split
  ·exact put_ne h
  ·rfl
 ·unfold Hall.write; split
  ·rfl
  ·exact put_ne h
def Hall.wa (H:Hall)(A:List ActD):Hall:={ H with acts:=A }
theorem wa_does (H:Hall)(A:List ActD)(x:StepD):∃ B,(H.wa A).does x=(H.does x).wa B:=by
 have ha:(H.wa A).at_ x=H.at_ x:=rfl
 unfold Hall.does
 rw[ha]
 by_cases c0:x.k % 16=0
 ·rw[if_pos c0,if_pos c0]; exact⟨_,rfl⟩
 rw[if_neg c0,if_neg c0]
 by_cases c1:x.k % 16=1
 ·rw[if_pos c1,if_pos c1]; exact⟨_,rfl⟩
 rw[if_neg c1,if_neg c1]
 by_cases c2:x.k % 16=2
 ·rw[if_pos c2,if_pos c2]; exact⟨_,rfl⟩
 rw[if_neg c2,if_neg c2]
 by_cases c3:x.k % 16=3
 ·rw[if_pos c3,if_pos c3]; exact⟨_,rfl⟩
 rw[if_neg c3,if_neg c3]
 by_cases c4:x.k % 16=4
 ·rw[if_pos c4,if_pos c4]
  unfold Hall.lock
  show ∃ B,(if canTake (H.ss (H.at_ x)).who x.w then _ else _)=_
  split<;>exact⟨_,rfl⟩
 rw[if_neg c4,if_neg c4]
 by_cases c5:x.k % 16=5
 ·rw[if_pos c5,if_pos c5]
  unfold Hall.unlock
  show ∃ B,(if canGive (H.ss (H.at_ x)).who x.w then _ else _)=_
  split<;>exact⟨_,rfl⟩
 rw[if_neg c5,if_neg c5]
 by_cases c6:x.k % 16=6
 ·rw[if_pos c6,if_pos c6]; exact⟨_,rfl⟩
 rw[if_neg c6,if_neg c6]
 by_cases c7:x.k % 16=7
 ·rw[if_pos c7,if_pos c7]; exact⟨_,rfl⟩
 rw[if_neg c7,if_neg c7]
 by_cases c8:x.k % 16=8
 ·rw[if_pos c8,if_pos c8]; exact⟨_,rfl⟩
 rw[if_neg c8,if_neg c8]
 by_cases c9:x.k % 16=9
 ·rw[if_pos c9,if_pos c9]; exact⟨_,rfl⟩
 rw[if_neg c9,if_neg c9]
 by_cases c10:x.k % 16=10
 ·rw[if_pos c10,if_pos c10]; exact⟨_,rfl⟩
 rw[if_neg c10,if_neg c10]
 by_cases c11:x.k % 16=11
 ·rw[if_pos c11,if_pos c11]
  unfold Hall.write
  split<;>exact⟨_,rfl⟩
 rw[if_neg c11,if_neg c11]
 by_cases c12:x.k % 16=12
 ·rw[if_pos c12,if_pos c12]; exact⟨_,rfl⟩
 rw[if_neg c12,if_neg c12]
 by_cases c13:x.k % 16=13
 ·rw[if_pos c13,if_pos c13]; exact⟨_,rfl⟩
 rw[if_neg c13,if_neg c13]
 by_cases c14:x.k % 16=14
 ·rw[if_pos c14,if_pos c14]; exact⟨_,rfl⟩
 rw[if_neg c14,if_neg c14]
 exact⟨_,rfl⟩
theorem HS.wa {m:Nat}{H:Hall}(x:HS m H){A:List ActD}(h:A.length≤2*m):HS m (H.wa A):=⟨x.rt,x.cw,x.nn,h,x.st,x.tn,x.ts⟩
theorem wa_self (H:Hall):H.wa H.acts=H:=rfl
end Go.Den
namespace Go.Proofs.YtmbningljbcpkaaGreat
open Go Go.Den Go.MapKept
set_option linter.unusedSimpArgs false
set_option linter.unusedVariables false
set_option maxRecDepth 20000
theorem actNe (p q:ActD){x y:Operand}{K:Value→Prop}:pvM P (do eqGuard .neq qQZ x y (.agg #[.int .i64 p.who,.int .i64 p.kind,.int .i64 p.place]) (.agg #[.int .i64 q.who,.int .i64 q.kind,.int .i64 q.place]); binOp .neq qQZ (.agg #[.int .i64 p.who,.int .i64 p.kind,.int .i64 p.place]) (.agg #[.int .i64 q.who,.int .i64 q.kind,.int .i64 q.place])) K=K (.bool (!decide (p=q))):=by
 rw[pv_neq (d:=5) (b:=(p.who == q.who) && ((p.kind == q.kind) && ((p.place == q.place) && true))) (by kernel_rfl) (by omega) (by kernel_rfl)]
 have:((p.who == q.who) && ((p.kind == q.kind) && ((p.place == q.place) && true)))=decide (p=q):=by
  rw[Bool.eq_iff_iff]; cases p; cases q; simp
 rw[this]
theorem act_ld {F:Heap}{v:Value}{l:List ActD}(x:Sl 3 ActR F v l){i:Nat}(hi:i<l.length):∃ b p,iaV (some (none,3)) v (.int .i64 i)=some (.pointer (some ⟨b,p,none⟩))∧∀ h',Ext F h'→cels h' b p 3=some [.int .i64 l[i].who,.int .i64 l[i].kind,.int .i64 l[i].place]:=by
 obtain⟨b,p,c,h1,h2,h3⟩:=x.at (k:=.i64) (i:=i) (by omega) (by omega)
 refine⟨b,p,h1,fun h' e=>?_⟩
 have hc:c=actC l[i]:=h3
 subst hc
 exact cels_ext e h2
variable {K:KTy}
theorem sameActs_ok (xs ys : List ActD) {h : Heap} {v u : Value} (x : Sl 3 ActR h v xs) (y : Sl 3 ActR h u ys) (hl : xs.length < 1000000) (hk : K (.bool (decide (xs = ys))) h) : callM P qeWZ #[v, u] h K := by
  apply qsEZ
  unfold qgkZ
  have lx := x.len
  have ly := y.len
  by_cases hlen : xs.length = ys.length
  rotate_left
  · have hne : xs ≠ ys := fun e => hlen (by rw [e])
    have hi : ¬ (xs.length : Int) = ys.length := by omega
    simp -implicitDefEqProofs [lx, ly, hi]
    rw [decide_eq_false hne] at hk; exact hk
  · have hi : (xs.length : Int) = ys.length := by omega
    simp -implicitDefEqProofs [lx, ly, hi]
    unfold qjWZ
    rw [seqM_eq]
    unfold qjVZ
    refine loop_on [0, 1, 4] (fun s h' => h' = h ∧ ∃ i : Nat, i ≤ xs.length ∧ s 5 = .int .i64 i ∧ xs.take i = ys.take i) (fun s _ => (xs.length - num (s 5)).toNat) ⟨rfl, 0, by omega, rfl, by simp⟩ ?_
    rintro s h1 hf ⟨rfl, i, hi, s5, hT⟩
    have s0 : s 0 = v := by simpa using hf 0 (by simp)
    have s1 : s 1 = u := by simpa using hf 1 (by simp)
    have s4 : s 4 = .bool false := by simpa using hf 4 (by simp)
    unfold qjUZ
    simp -implicitDefEqProofs only [s5, s0, lx, bin_lss, ov_s, cd_b]
    refine ⟨fun hc => ?_, fun hc => ?_⟩
    · have hlt : i < xs.length := by have : ((i : Int) < xs.length) := by simpa using hc
                                     omega
      have hly : i < ys.length := by omega
      have hw : IntKind.i64.wrap ((i : Int) + 1) = (i + 1 : Nat) := by rw [wrap64_id (by omega) (by omega)]; omega
      obtain ⟨b, p, i1, i2⟩ := act_ld x hlt
      obtain ⟨b', p', j1, j2⟩ := act_ld y hly
      unfold qjTZ
      simp -implicitDefEqProofs only [s0, s1, s5, i1, j1, ov_s, ldV_n (i2 _ (Ext.refl _)), ldV_n (j2 _ (Ext.refl _)), actNe, cd_b]
      refine ⟨fun hd => ?_, fun hd => ?_⟩
      · have hne : xs[i] ≠ ys[i] := by simpa using hd
        have hne' : xs ≠ ys := fun e => hne (by subst e; rfl)
        unfold qjRZ
        simp -implicitDefEqProofs [s4]
        rw [decide_eq_false hne'] at hk; exact hk
      · have he : xs[i] = ys[i] := by simpa using hd
        unfold qjSZ
        simp -implicitDefEqProofs [s0, s1, s4, s5, hw, -Int.natCast_add]
        exact ⟨⟨i + 1, by omega, rfl, take_eq_succ hT hlt hly he⟩, by omega⟩
    · have hT : xs = ys := by
        have hie : i = xs.length := by have : ¬ ((i : Int) < xs.length) := by simpa using hc
                                       omega
        subst hie
        rw [List.take_of_length_le (Nat.le_refl _), List.take_of_length_le (by omega)] at hT
        exact hT
      rw [decide_eq_true hT] at hk
      simp -implicitDefEqProofs
      exact hk
theorem bdRHall (a b c d e f g:Int):bdV (binf P qzZ) [(0,.agg #[.int .i64 a,.int .i64 b,.int .i64 c,.int .i64 d,.int .i64 e,.int .u64 f,.int .u64 g])]=some (.agg #[.int .i64 a,.int .i64 b,.int .i64 c,.int .i64 d,.int .i64 e,.int .u64 f,.int .u64 g,.int .u64 0,.int .u64 0,.bool false,.slice none 0 0,.slice none 0 0]):=by kernel_rfl
theorem bdRFeed (n:Int):bdV (binf P qtZ) [(0,.int .i64 n)]=some (.agg (rfdC n (.slice none 0 0) (fun _=>.slice none 0 0) fun _=>false).toArray):=by kernel_rfl
theorem bdRStripe (n:Int)(fp:Option Addr):bdV (binf P qHZ) [(0,.int .i64 n),(4,.pointer fp)]=some (.agg #[.int .i64 n,.int .u64 0,.slice none 0 0,.slice none 0 0,.pointer fp]):=by kernel_rfl
theorem bsRS:bsI P qMZ=some (qbvZ,1,#[.pointer none]):=by kernel_rfl
theorem unSlRS:P.underlying qMZ=some (.slice qbvZ):=by kernel_rfl
theorem apRS:apC P qbvZ=some (1,8,1):=by kernel_rfl
def RhNewI (T:Tags)(h:Heap)(g:Tag)(p:Nat)(c:Cfg)(v:Value)(h':Heap):Prop :=
 ∃ (T':Tags) (i:Nat),Only (pre g) T h T' h'∧RhR T' h' g p (hall0 c i)∧i≤c.stripes.toNat∧v = .int .i64 i
set_option maxHeartbeats 1000000 in
theorem rz_new (c:Cfg)(hr:rightB c=true){T:Tags}{h:Heap}(w:Wf T h){g:Tag}(gg:Gd g)
  (hk:∀ T' h' p,Only (pre g) T h T' h'→RhR T' h' g p (hall0 c c.stripes.toNat)→K (ptr p) h'):callM P qjsZ #[.agg (cfgC c).toArray] h K:=by
 apply quCZ
 unfold qkrZ
 have hn:1≤c.stripes∧c.stripes≤8∧1≤c.queue:=by simp[rightB] at hr; omega
 refine nw_agg fun v1 h1 n1 e1 c1=>?_
 have w1:=w.ext e1
 have t1:T v1=[]:=w v1 n1
 simp -implicitDefEqProofs only[cfgC] at c1
 simp -implicitDefEqProofs[ld_at c1,cel_of c1,stm_at c1,stm_upd,ld_same,cel_same,over,bdRHall]
 refine nw_tag w1 (g++[0]) fun p T3 h3 n3 o3 t3 c3=>?_
 have b1:=o3.see ⟨c1,t1⟩ (not_non _)
 have c1:=b1.1
 have u4:=Only.upd (U:=fun t=>t=g++[0]) (o':=.cells (rhC (hall0 c 0) (.slice none 0 0) (.slice none 0 0)).toArray qzZ (0,0)) o3.wf c3 t3
 simp -implicitDefEqProofs[ld_at c1,cel_of c1,stm_at c1,ld_at c3,cel_of c3,stm_at c3,stm_upd,ld_same,cel_same,over]
 rw[seqM_eq]
 unfold qpeZ
 have o0:Only (pre g) T h T3 _:=((Only.of_ext w e1).up o3 non_up).up u4 fun t=>eq_pre
 have x0:RhR T3 (upd h3 p (.cells (rhC (hall0 c 0) (.slice none 0 0) (.slice none 0 0)).toArray qzZ (0,0))) g p (hall0 c 0):=⟨.slice none 0 0,.slice none 0 0,fun _=>⟨0,.slice none 0 0,.slice none 0 0,0,.slice none 0 0,fun _=>.slice none 0 0,[]⟩,upd_same' _ _ _,t3,Rw.nil _ _ _ _ _,Rw.nil _ _ _ _ _,fun i hi=>by simp[hall0] at hi⟩
 have b1:=u4.see b1 (by simp)
 obtain⟨h4,hh4⟩:∃ h4,upd h3 p (.cells (rhC (hall0 c 0) (.slice none 0 0) (.slice none 0 0)).toArray qzZ (0,0))=h4:=⟨_,rfl⟩
 have hh4':upd h3 p (.cells #[.int .i64 c.stripes,.int .i64 c.sessions,.int .i64 c.queue,.int .i64 c.watches,.int .i64 c.retries,.int .u64 c.epochs,.int .u64 c.start,.int .u64 c.start,.int .u64 0,.bool false,.slice none 0 0,.slice none 0 0] qzZ (0,0))=h4:=hh4
 rw[hh4] at o0 x0 b1
 rw[hh4']
 refine loop_on [1,3] (fun s h'=>RhNewI T3 h4 g p c (s 4) h') (fun s _=>(c.stripes.toNat-num (s 4)).toNat) ⟨T3,0,Only.refl o0.wf,x0,by omega,rfl⟩ ?_
 rintro s h5 hf ⟨T5,i,o5,⟨sv,av,Y,x⟩,hi,s4⟩
 have s1:s 1=ptr v1:=by simpa using hf 1 (by simp)
 have s3:s 3=ptr p:=by simpa using hf 3 (by simp)
 have b1:=o5.see b1 gg.nil
 have c1:=b1.1
 unfold qpdZ
 simp -implicitDefEqProofs[s1,s4,ld_at c1,cel_of c1,stm_at c1,stm_upd,ld_same,cel_same,over]
 refine⟨fun hc=>?_,fun hc=>?_⟩
 rotate_left
 ·have:i=c.stripes.toNat:=by omega
  subst this
  simp -implicitDefEqProofs[s3]
  exact hk T5 h5 p (o0.trans o5) ⟨sv,av,Y,x⟩
 have hlt:i<c.stripes.toNat:=by omega
 have hw:IntKind.i64.wrap ((i:Int)+1)=(i+1:Nat):=by rw[wrap64_id (by omega) (by omega)]; omega
 have bp:h5 p=_∧T5 p=_:=⟨x.hp,x.tp⟩
 simp -implicitDefEqProofs only[rhC] at bp
 have cp:=bp.1
 unfold qpcZ
 simp -implicitDefEqProofs[s1,s3,ld_at c1,cel_of c1,stm_at c1,ld_at cp,cel_of cp,stm_at cp,stm_upd,ld_same,cel_same,over,bdRFeed]
 refine nw_tag o5.wf (g++[2,i]) fun fp T6 h6 n6 o6 t6 c6=>?_
 have bp:=o6.see bp (not_non _)
 have cp:=bp.1
 simp -implicitDefEqProofs[ld_at cp,cel_of cp,stm_at cp,stm_upd,ld_same,cel_same,over,bdRStripe]
 refine nw_tag o6.wf (g++[1,i]) fun sp T7 h7 n7 o7 t7 c7=>?_
 have b6:=o7.see ⟨c6,t6⟩ (not_non _)
 have bp:=o7.see bp (not_non _)
 have cp:=bp.1
 have x7:=(x.own o6.k).own o7.k
 simp -implicitDefEqProofs[ld_at cp,cel_of cp,stm_at cp,stm_upd,ld_same,cel_same,over]
 refine bs_one bsRS (by simp) (by omega) fun rb h8 n8 e8 c8=>?_
 have o8:Only non T7 h7 T7 h8:=Only.of_ext o7.wf e8
 have bp:=o8.see bp (not_non _)
 have cp:=bp.1
 have b6:=o8.see b6 (not_non _)
 have b7:=o8.see ⟨c7,t7⟩ (not_non _)
 have x8:=x7.own o8.k
 refine⟨by simp[ld_at cp,cel_of cp,stm_at cp,stm_upd,ld_same,cel_same,over],?_⟩
 have st8:=x8.st
 refine Rw.app1 (m:=1) (news:=[ptr sp]) unSlRS apRS (by omega) o8.wf st8 (cels_one (x:=ptr sp) c8 (by simp)) (by simp) (by unfold maxLen; simp[hall0]; omega) (by simp[hall0]; omega) fun sv' T9 h9 o9 st9=>?_
 have bp:=o9.see bp (ne_tag (by simp))
 have cp:=bp.1
 have b6:=o9.see b6 (ne_tag (by simp))
 have b7:=o9.see b7 (ne_tag (by simp))
 have ho:=st9.one
 simp -implicitDefEqProofs[ld_at cp,cel_of cp,stm_at cp,stm_upd,ld_same,cel_same,over,ho.1,ho.2,s1,s3,s4,hw,-Int.natCast_add]
 refine⟨?_,by omega⟩
 have o10:=Only.upd (U:=fun t=>t=g++[0]) (o':=.cells (rhC (hall0 c (i+1)) sv' av).toArray qzZ (0,0)) o9.wf bp.1 bp.2
 have b6:=o10.see b6 (ne_tag (by simp))
 have b7:=o10.see b7 (ne_tag (by simp))
 refine⟨T9,i+1,((((o5.up o6 non_up).up o7 non_up).up o8 non_up).up o9 fun t=>eq_pre).up o10 fun t=>eq_pre,
  ⟨sv',av,fun k=>if k=i then ⟨sp,.slice none 0 0,.slice none 0 0,fp,.slice none 0 0,fun _=>.slice none 0 0,[]⟩ else Y k,upd_same' _ _ _,bp.2,?_,?_,fun k hk=>?_⟩,by omega,rfl⟩
 ·have:=st9.kp o10.k (ne_tag (by simp))
  simp -implicitDefEqProofs only[hall0]
  rw[seqF_succ]
  have e1:seqF i (fun k=>[ptr (if k=i then (⟨sp,.slice none 0 0,.slice none 0 0,fp,.slice none 0 0,fun _=>.slice none 0 0,[]⟩:RSx) else Y k).bp])=seqF i fun k=>[ptr (Y k).bp]:=seqF_congr fun k hk=>by rw[if_neg (by omega)]
  rw[e1]
  simpa [hall0,rhC] using this
 ·exact (x8.ac.kp o9.k (ne_tag (by simp))).kp o10.k (ne_tag (by simp))
 ·by_cases hki:k=i
  ·subst hki
   simp -implicitDefEqProofs only[if_true]
   refine⟨b7.1,b7.2,.inl ⟨rfl,_,_,rfl⟩,.inl ⟨rfl,_,_,rfl⟩,⟨b6.1,b6.2,.inl ⟨rfl,_,_,rfl⟩,fun j hj=>.inl ⟨rfl,_,_,rfl⟩⟩,⟨fun j hj=>by simp[psOf,wsOf,hall0,strp0,feed0],by simp⟩,fun j hj=>?_,rfl⟩
   simp -implicitDefEqProofs[hall0,strp0,feed0,ring0]; omega
  ·simp -implicitDefEqProofs only[if_neg hki]
   have hki':k<i:=by simp[hall0] at hk; omega
   exact ((x8.sr k hki').kp o9.k (ne_tag (by simp)) (ne_tag (by simp)) (by simp)).kp o10.k (ne_tag (by simp)) (ne_tag (by simp)) (by simp)
end Go.Proofs.YtmbningljbcpkaaGreat
namespace Go.Proofs.YtmbningljbcpkaaGreat
open Go Go.Den Go.MapKept
set_option linter.unusedSimpArgs false
set_option linter.unusedVariables false
set_option maxRecDepth 20000
def U13 (t:Tag):Prop:=pre [1] t∨pre [3] t
theorem U13.nil:¬ U13 []:=by rintro (h | h)<;>simp[pre] at h
theorem told16 {m:Nat}{f:Feed}(x:FdM m f)(who:Int):(f.told who).length≤16:=by
 unfold Feed.told
 split
 ·rename_i h
  have:0≤who∧who<8:=by simpa [clientB] using h
  exact (x.qs who.toNat (by omega)).2.2
 ·simp -implicitDefEqProofs
theorem odd_lt {v:Int}(h:U64 v)(hw:wrt v=true→v<18446744073709551615):0≤v∧v<18446744073709551615:=by
 unfold U64 at h
 refine⟨h.1,?_⟩
 by_cases e:v=18446744073709551615
 ·subst e; exact hw (by decide)
 ·omega
theorem off13:Off (pre [1]) [3]:=off_pre (g:=[]) (x:=[1]) (y:=[3]) (by simp) (by simp)
theorem off31:Off (pre [3]) [1]:=off_pre (g:=[]) (x:=[3]) (y:=[1]) (by simp) (by simp)
def stpC (x:StepD)(v:Value):List Value:=[.int .u8 x.k,.int .u8 x.who,.int .u8 x.s,.int .i64 x.op.kind,.string x.op.user,.int .i64 x.op.id,.int .i64 x.op.status,.int .i64 x.op.prio,.int .u64 x.op.ttl,v,.int .u64 x.t.now,.int .u64 x.t.seq,.bool x.t.closed,.int .u64 x.by_]
theorem tmEq (p q:Tm){x y:Operand}{K:Value→Prop}:pvM P (do eqGuard .eql qwZ x y (.agg (tmC p).toArray) (.agg (tmC q).toArray); binOp .eql qwZ (.agg (tmC p).toArray) (.agg (tmC q).toArray)) K=K (.bool (decide (p=q))):=by
 simp -implicitDefEqProofs only[tmC]
 rw[pv_eql (d:=5) (b:=(p.now == q.now) && ((p.seq == q.seq) && ((p.closed == q.closed) && true))) (by kernel_rfl) (by omega) (by kernel_rfl)]
 have:((p.now == q.now) && ((p.seq == q.seq) && ((p.closed == q.closed) && true)))=decide (p=q):=by
  rw[Bool.eq_iff_iff]; cases p; cases q; simp
 rw[this]
variable {K:KTy}
set_option maxHeartbeats 40000000 in
theorem does14_ok (x:StepD)(xw:StepW x){v:Value}(xv:One v){T:Tags}{h:Heap}{p q m:Nat}{H:Hall}(w:Wf T h)(y:HallR T h [1] p H){A:List ActD}(z:RhR T h [3] q (H.wa A))(hs:HS m H)(hA:HS m (H.wa A))(hm:m<90000)
  (hk:∀ T' h',Only U13 T h T' h'→HallR T' h' [1] p (H.does x)→RhR T' h' [3] q ((H.wa A).does x)→K (.bool true) h'):callM P qioZ #[ptr p,ptr q,.agg (stpC x v).toArray] h K:=by
 apply qujZ
 unfold qjzZ
 refine nw_agg fun v1 h0 n0 e0 c1=>?_
 have t1:T v1=[]:=w v1 n0
 have o0:Only non T h T h0:=Only.of_ext w e0
 have w0:=o0.wf
 have y0:=y.up o0 (Off.non _) (not_non _)
 have z0:=z.kp o0.k (Off.non _) (not_non _)
 have n8:=hs.n8
 have h8:=n8.2
 have hl:H.acts.length<999999:=by have:=hs.ac; omega
 have hlt:=at_lt x (show 0<H.n by omega)
 have hw:=w_rng x
 have rk:=xw.k
 have rw_:=xw.w
 have rs:=xw.s
 have st:=hs.st (H.at_ x) hlt
 have stw:=st.wr
 obtain⟨G,hG⟩:∃ G,G=H.wa A:=⟨_,rfl⟩
 have gss:G.ss=H.ss:=by rw[hG]; rfl
 have gt:G.t=H.t:=by rw[hG]; rfl
 have gn:G.n=H.n:=by rw[hG]; rfl
 have gc:G.c=H.c:=by rw[hG]; rfl
 have ga:G.at_ x=H.at_ x:=by rw[hG]; rfl
 have gw:∀ w s o t,(G.write w s o t).2=(H.write w s o t).2:=fun w s o t=>by rw[hG]; unfold Hall.write; split<;>rfl
 rw[← hG] at z0 hA hk
 have hlg:G.acts.length<999999:=by have:=hA.ac; omega
 have hltg:H.at_ x<G.n:=by rw[gn]; exact hlt
 have h8g:G.n≤8:=by rw[gn]; exact h8
 have stg:=hA.st (H.at_ x) hltg
 have stwg:=stg.wr
 have hlen:∃ sv av Y,RhX T h0 [3] q G sv av Y:=z0
 obtain⟨sv,av,Y,zx⟩:=hlen
 have cq:=zx.hp
 simp -implicitDefEqProofs only[rhC] at cq
 have ln:lnV 7 sv=some (.int .i64 H.n):=by rw[← gn]; exact zx.st.len
 simp -implicitDefEqProofs only[stpC] at c1
 have cv1:cvV (some .i64) (.int .u8 x.who)=some (.int .i64 x.who):=by simp[cvV,wrap64_id (n:=x.who) (by omega) (by omega)]
 have cv2:cvV (some .i64) (.int .u8 x.s)=some (.int .i64 x.s):=by simp[cvV,wrap64_id (n:=x.s) (by omega) (by omega)]
 have m1:x.who.tmod 10=x.w:=Int.tmod_eq_emod_of_nonneg rw_.1
 have m2:x.s.tmod H.n=H.at_ x:=by
  rw[Int.tmod_eq_emod_of_nonneg rs.1]
  unfold Hall.at_
  have h1:=Int.emod_nonneg x.s (show (H.n:Int)≠0 by omega)
  omega
 have hn0:¬ (H.n:Int)=0:=by omega
 have hn0':¬ H.n=0:=by omega
 have q1:IntKind.i64.wrap x.w=x.w:=wrap64_id (by omega) (by omega)
 have q2:IntKind.i64.wrap (H.at_ x:Int)=(H.at_ x:Int):=wrap64_id (by omega) (by omega)
 simp -implicitDefEqProofs[ld_at c1,cel_of c1,stm_at c1,ld_at cq,cel_of cq,stm_at cq,stm_upd,ld_same,cel_same,over,ln,cv1,cv2,m1,m2,hn0,hn0',q1,q2]
 rw[seqM_eq]
 unfold qogZ
 have m3:x.k.tmod 16=x.k % 16:=Int.tmod_eq_emod_of_nonneg rk.1
 have m4:IntKind.u8.wrap (x.k % 16)=x.k % 16:=by simp only[IntKind.wrap,IntKind.bits,IntKind.signed]; simp; omega
 obtain⟨kk,hkk⟩:∃ kk,x.k % 16=kk:=⟨_,rfl⟩
 have kr:0≤kk∧kk≤15:=by omega
 rw[hkk] at m4 m3
 have fin:∀ G1 G2,H.does x=G1→G.does x=G2→∀ T2 h2,Only U13 T h T2 h2→HallR T2 h2 [1] p G1→RhR T2 h2 [3] q G2→K (.bool true) h2:=fun G1 G2 e e2 T2 h2 o y z=>by subst e; subst e2; exact hk T2 h2 o y z
 have n1:¬ pre [1] []:=g1.nil
 have n3:¬ pre [3] []:=g3.nil
 have u1:∀ t,pre [1] t→U13 t:=fun t h=>.inl h
 have u3:∀ t,pre [3] t→U13 t:=fun t h=>.inr h
 by_cases k0:kk=0
 ·subst k0
  simp -implicitDefEqProofs[ld_at c1,cel_of c1,stm_at c1,stm_upd,ld_same,cel_same,over,m3,m4,hkk]
  unfold qoaZ
  refine look_ok x.w w0 g1 y0 (by omega) fun T1 h1 o1 y1=>?_
  have z1:=z0.kp o1.k off13 n1
  have c1:=(o1.k.at c1 t1 n1).1
  unfold qnZZ
  refine rz_look x.w o1.wf g3 z1 (by omega) fun T2 h2 o2 z2=>?_
  have y2:=y1.up o2 off31 n3
  unfold qnYZ
  simp -implicitDefEqProofs only[gt]
  rw[tmEq]
  simp -implicitDefEqProofs
  exact fin _ _ (by simp[Hall.does,hkk]) (by simp[Hall.does,hkk,ga]) T2 h2 (((o0.mono non_up).up o1 u1).up o2 u3) y2 z2
 simp -implicitDefEqProofs[ld_at c1,cel_of c1,stm_at c1,stm_upd,ld_same,cel_same,over,m3,m4,hkk,k0]
 unfold qofZ
 by_cases k1:kk=1
 ·subst k1
  simp -implicitDefEqProofs[ld_at c1,cel_of c1,stm_at c1,stm_upd,ld_same,cel_same,over,m3,m4,hkk]
  unfold qodZ
  refine htake_ok x.w w0 g1 y0 hs.ts (by omega) fun T1 h1 o1 y1=>?_
  have z1:=z0.kp o1.k off13 n1
  have c1:=(o1.k.at c1 t1 n1).1
  unfold qocZ
  refine rz_take x.w o1.wf g3 z1 hA.ts (by omega) fun T2 h2 o2 z2=>?_
  have y2:=y1.up o2 off31 n3
  unfold qobZ
  simp -implicitDefEqProofs only[gt]
  rw[tmEq]
  simp -implicitDefEqProofs
  exact fin _ _ (by simp[Hall.does,hkk]) (by simp[Hall.does,hkk,ga]) T2 h2 (((o0.mono non_up).up o1 u1).up o2 u3) y2 z2
 simp -implicitDefEqProofs[k1]
 unfold qoeZ
 by_cases k2:kk=2
 ·subst k2
  simp -implicitDefEqProofs[ld_at c1,cel_of c1,stm_at c1,stm_upd,ld_same,cel_same,over,m3,m4,hkk]
  unfold qlJZ
  simp -implicitDefEqProofs[ld_at c1,cel_of c1,stm_at c1,stm_upd,ld_same,cel_same,over]
  refine hpass_ok x.w x.by_ xw.b w0 g1 y0 hs.tn (by omega) fun T1 h1 o1 y1=>?_
  have z1:=z0.kp o1.k off13 n1
  have c1:=(o1.k.at c1 t1 n1).1
  unfold qlIZ
  simp -implicitDefEqProofs[ld_at c1,cel_of c1,stm_at c1,stm_upd,ld_same,cel_same,over]
  refine rz_pass x.w x.by_ xw.b o1.wf z1 hA.tn (by omega) fun T2 h2 o2 z2=>?_
  have y2:=y1.up o2 off31 n3
  unfold qlHZ
  simp -implicitDefEqProofs[gss,gt]
  exact fin _ _ (by simp[Hall.does,hkk]) (by simp[Hall.does,hkk,ga]) T2 h2 (((o0.mono non_up).up o1 u1).up o2 u3) y2 z2
 simp -implicitDefEqProofs[k2]
 unfold qmKZ
 by_cases k3:kk=3
 ·subst k3
  simp -implicitDefEqProofs[ld_at c1,cel_of c1,stm_at c1,stm_upd,ld_same,cel_same,over,m3,m4,hkk]
  unfold qlMZ
  refine hshut_ok x.w w0 g1 y0 (by omega) fun T1 h1 o1 y1=>?_
  have z1:=z0.kp o1.k off13 n1
  have c1:=(o1.k.at c1 t1 n1).1
  unfold qlLZ
  refine rz_shut x.w o1.wf z1 (by omega) fun T2 h2 o2 z2=>?_
  have y2:=y1.up o2 off31 n3
  unfold qlKZ
  simp -implicitDefEqProofs[gss,gt]
  exact fin _ _ (by simp[Hall.does,hkk]) (by simp[Hall.does,hkk,ga]) T2 h2 (((o0.mono non_up).up o1 u1).up o2 u3) y2 z2
 simp -implicitDefEqProofs[k3]
 unfold qmJZ
 by_cases k4:kk=4
 ·subst k4
  simp -implicitDefEqProofs[ld_at c1,cel_of c1,stm_at c1,stm_upd,ld_same,cel_same,over,m3,m4,hkk]
  unfold qlPZ
  refine lock_ok x.w w0 g1 y0 hlt h8 (by omega) (by omega) fun T1 h1 o1 y1=>?_
  have z1:=z0.kp o1.k off13 n1
  have c1:=(o1.k.at c1 t1 n1).1
  unfold qlOZ
  refine rz_lock x.w o1.wf z1 hltg h8g (by omega) stg.wh.1 fun T2 h2 o2 z2=>?_
  have y2:=y1.up o2 off31 n3
  unfold qlNZ
  simp -implicitDefEqProofs[gss,gt]
  exact fin _ _ (by simp[Hall.does,hkk]) (by simp[Hall.does,hkk,ga]) T2 h2 (((o0.mono non_up).up o1 u1).up o2 u3) y2 z2
 simp -implicitDefEqProofs[k4]
 unfold qmIZ
 by_cases k5:kk=5
 ·subst k5
  simp -implicitDefEqProofs[ld_at c1,cel_of c1,stm_at c1,stm_upd,ld_same,cel_same,over,m3,m4,hkk]
  unfold qlSZ
  refine unlock_ok x.w w0 g1 y0 hlt h8 (by omega) (by have:=st.wh; omega) fun T1 h1 o1 y1=>?_
  have z1:=z0.kp o1.k off13 n1
  have c1:=(o1.k.at c1 t1 n1).1
  unfold qlRZ
  refine rz_unlock x.w o1.wf z1 hltg h8g (by omega) stg.wh.1 fun T2 h2 o2 z2=>?_
  have y2:=y1.up o2 off31 n3
  unfold qlQZ
  simp -implicitDefEqProofs[gss,gt]
  exact fin _ _ (by simp[Hall.does,hkk]) (by simp[Hall.does,hkk,ga]) T2 h2 (((o0.mono non_up).up o1 u1).up o2 u3) y2 z2
 simp -implicitDefEqProofs[k5]
 unfold qmHZ
 by_cases k6:kk=6
 ·subst k6
  simp -implicitDefEqProofs[ld_at c1,cel_of c1,stm_at c1,stm_upd,ld_same,cel_same,over,m3,m4,hkk]
  unfold qlVZ
  refine epoch_ok x.w w0 g1 y0 hlt h8 (by omega) fun T1 h1 o1 y1=>?_
  have z1:=z0.kp o1.k off13 n1
  have c1:=(o1.k.at c1 t1 n1).1
  unfold qlUZ
  refine rz_epoch x.w o1.wf z1 hltg h8g (by omega) fun T2 h2 o2 z2=>?_
  have y2:=y1.up o2 off31 n3
  unfold qlTZ
  simp -implicitDefEqProofs[gss,gt]
  exact fin _ _ (by simp[Hall.does,hkk]) (by simp[Hall.does,hkk,ga]) T2 h2 (((o0.mono non_up).up o1 u1).up o2 u3) y2 z2
 simp -implicitDefEqProofs[k6]
 unfold qmGZ
 by_cases k7:kk=7
 ·subst k7
  simp -implicitDefEqProofs[ld_at c1,cel_of c1,stm_at c1,stm_upd,ld_same,cel_same,over,m3,m4,hkk]
  unfold qlYZ
  refine begin2_ok x.w w0 g1 y0 hlt h8 (by omega) stw.1 stw.2.1 fun T1 h1 o1 y1=>?_
  have z1:=z0.kp o1.k off13 n1
  have c1:=(o1.k.at c1 t1 n1).1
  unfold qlXZ
  refine rz_begin x.w o1.wf z1 hltg h8g (by omega) stwg.1 hA.cw.u1 fun T2 h2 o2 z2=>?_
  have y2:=y1.up o2 off31 n3
  unfold qlWZ
  simp -implicitDefEqProofs[gss,gt]
  exact fin _ _ (by simp[Hall.does,hkk]) (by simp[Hall.does,hkk,ga]) T2 h2 (((o0.mono non_up).up o1 u1).up o2 u3) y2 z2
 simp -implicitDefEqProofs[k7]
 unfold qmFZ
 by_cases k8:kk=8
 ·subst k8
  simp -implicitDefEqProofs[ld_at c1,cel_of c1,stm_at c1,stm_upd,ld_same,cel_same,over,m3,m4,hkk]
  unfold qmbZ
  refine hend_ok x.w w0 g1 y0 hlt h8 (by omega) stw.1 stw.2.2 fun T1 h1 o1 y1=>?_
  have z1:=z0.kp o1.k off13 n1
  have c1:=(o1.k.at c1 t1 n1).1
  unfold qmaZ
  refine rz_end x.w o1.wf z1 hltg h8g (by omega) (odd_lt stwg.1 stwg.2.2) fun T2 h2 o2 z2=>?_
  have y2:=y1.up o2 off31 n3
  unfold qlZZ
  simp -implicitDefEqProofs[gss,gt]
  exact fin _ _ (by simp[Hall.does,hkk]) (by simp[Hall.does,hkk,ga]) T2 h2 (((o0.mono non_up).up o1 u1).up o2 u3) y2 z2
 simp -implicitDefEqProofs[k8]
 unfold qmEZ
 by_cases k9:kk=9
 ·subst k9
  simp -implicitDefEqProofs[ld_at c1,cel_of c1,stm_at c1,stm_upd,ld_same,cel_same,over,m3,m4,hkk]
  unfold qmgZ
  refine snap_ok x.w w0 g1 y0 hlt h8 (by omega) fun T1 h1 a b o1 y1 xb=>?_
  have z1:=z0.kp o1.k off13 n1
  unfold qmfZ
  refine users08_ok _ (by have:=st.sn.bl; omega) o1.wf xb fun uv h3 e3 xu=>?_
  have o3:Only non T1 h1 T1 h3:=Only.of_ext o1.wf e3
  have z3:=z1.kp o3.k (Off.non _) (not_non _)
  have y3:=y1.up o3 (Off.non _) (not_non _)
  unfold qmeZ
  refine rz_snap x.w o3.wf z3 hltg h8g (by omega) fun T2 h2 rv o2 z2 xr=>?_
  have y2:=y3.up o2 off31 n3
  unfold qmdZ
  refine usrSame_ok _ _ ((xu.ext (@UsrR.ext) (o2.ext n3)).ext (@UsrR.ext) (fz_ext T2 h2)) (xr.ext (@UsrR.ext) (fz_ext T2 h2)) (by have:=st.sn.bl; omega) (fun z hz=>by have:=st.sn.bn z hz; omega) ?_
  unfold qmcZ
  simp -implicitDefEqProofs[gss]
  exact fin _ _ (by simp[Hall.does,hkk]) (by simp[Hall.does,hkk,ga]) T2 h2 ((((o0.mono non_up).up o1 u1).up o3 non_up).up o2 u3) y2 z2
 simp -implicitDefEqProofs[k9]
 unfold qmDZ
 by_cases k10:kk=10
 ·subst k10
  simp -implicitDefEqProofs[ld_at c1,cel_of c1,stm_at c1,stm_upd,ld_same,cel_same,over,m3,m4,hkk]
  unfold qmjZ
  refine hpub_ok x.w w0 g1 y0 hlt h8 (by omega) fun T1 h1 o1 y1=>?_
  have z1:=z0.kp o1.k off13 n1
  have c1:=(o1.k.at c1 t1 n1).1
  unfold qmiZ
  refine rz_pub x.w o1.wf z1 hltg h8g (by omega) fun T2 h2 o2 z2=>?_
  have y2:=y1.up o2 off31 n3
  unfold qmhZ
  simp -implicitDefEqProofs[gss,gt]
  exact fin _ _ (by simp[Hall.does,hkk]) (by simp[Hall.does,hkk,ga]) T2 h2 (((o0.mono non_up).up o1 u1).up o2 u3) y2 z2
 simp -implicitDefEqProofs[k10]
 unfold qmCZ
 by_cases k11:kk=11
 ·subst k11
  simp -implicitDefEqProofs[ld_at c1,cel_of c1,stm_at c1,stm_upd,ld_same,cel_same,over,m3,m4,hkk]
  unfold qmlZ
  have hagO:∀ h',h' v1=h0 v1→ldV (some (some 7)) (.pointer (some ⟨v1,3,none⟩)) h'=some (.agg (opC x.op v).toArray):=fun h' e=>by rw[ld_at (e.trans c1)]; simp[opC]
  have hagT:∀ h',h' v1=h0 v1→ldV (some (some 3)) (.pointer (some ⟨v1,10,none⟩)) h'=some (.agg (tmC x.t).toArray):=fun h' e=>by rw[ld_at (e.trans c1)]; simp[tmC]
  simp -implicitDefEqProofs[hagO _ rfl,hagT _ rfl]
  refine hwrite_ok x.w x.op xw.o xv x.t xw.t.1 w0 g1 y0 hlt h8 (by omega) (stG_of st (by omega)) fun T1 h1 o1 y1=>?_
  have z1:=z0.kp o1.k off13 n1
  have eh:h1 v1=h0 v1:=by rw[c1]; exact (o1.k.at c1 t1 n1).1
  unfold qmkZ
  simp -implicitDefEqProofs[hagO _ eh,hagT _ eh]
  refine rz_write x.w x.op xw.o xv x.t xw.t.1 o1.wf z1 hltg hA hm fun T2 h2 o2 z2=>?_
  have y2:=y1.up o2 off31 n3
  simp -implicitDefEqProofs[gw]
  exact fin _ _ (by simp[Hall.does,hkk]) (by simp[Hall.does,hkk,ga]) T2 h2 (((o0.mono non_up).up o1 u1).up o2 u3) y2 z2
 simp -implicitDefEqProofs[k11]
 unfold qmBZ
 by_cases k12:kk=12
 ·subst k12
  simp -implicitDefEqProofs[ld_at c1,cel_of c1,stm_at c1,stm_upd,ld_same,cel_same,over,m3,m4,hkk]
  unfold qmoZ
  have hagT:∀ h',h' v1=h0 v1→ldV (some (some 3)) (.pointer (some ⟨v1,10,none⟩)) h'=some (.agg (tmC x.t).toArray):=fun h' e=>by rw[ld_at (e.trans c1)]; simp[tmC]
  simp -implicitDefEqProofs[hagT _ rfl]
  refine hsweep_ok x.w x.t w0 g1 y0 hlt h8 (by omega) (stG_of st (by omega)) fun T1 h1 o1 y1=>?_
  have z1:=z0.kp o1.k off13 n1
  have eh:h1 v1=h0 v1:=by rw[c1]; exact (o1.k.at c1 t1 n1).1
  unfold qmnZ
  simp -implicitDefEqProofs[hagT _ eh]
  refine rz_sweep x.w x.t o1.wf z1 hltg hA hm fun T2 h2 o2 z2=>?_
  have y2:=y1.up o2 off31 n3
  unfold qmmZ
  simp -implicitDefEqProofs
  exact fin _ _ (by simp[Hall.does,hkk]) (by simp[Hall.does,hkk,ga]) T2 h2 (((o0.mono non_up).up o1 u1).up o2 u3) y2 z2
 simp -implicitDefEqProofs[k12]
 unfold qmAZ
 by_cases k13:kk=13
 ·subst k13
  simp -implicitDefEqProofs[ld_at c1,cel_of c1,stm_at c1,stm_upd,ld_same,cel_same,over,m3,m4,hkk]
  unfold qmrZ
  simp -implicitDefEqProofs[ld_at c1,cel_of c1,stm_at c1,stm_upd,ld_same,cel_same,over]
  refine hcount_ok x.w x.op.user w0 g1 y0 hlt hs (by omega) fun T1 h1 o1 y1=>?_
  have z1:=z0.kp o1.k off13 n1
  have c1:=(o1.k.at c1 t1 n1).1
  unfold qmqZ
  simp -implicitDefEqProofs[ld_at c1,cel_of c1,stm_at c1,stm_upd,ld_same,cel_same,over]
  refine rz_count x.w x.op.user o1.wf z1 hltg hA (by omega) fun T2 h2 o2 z2=>?_
  have y2:=y1.up o2 off31 n3
  unfold qmpZ
  simp -implicitDefEqProofs[gss,gt]
  exact fin _ _ (by simp[Hall.does,hkk]) (by simp[Hall.does,hkk,ga]) T2 h2 (((o0.mono non_up).up o1 u1).up o2 u3) y2 z2
 simp -implicitDefEqProofs[k13]
 unfold qmzZ
 by_cases k14:kk=14
 ·subst k14
  simp -implicitDefEqProofs[ld_at c1,cel_of c1,stm_at c1,stm_upd,ld_same,cel_same,over,m3,m4,hkk]
  unfold qmuZ
  have mb:x.by_.tmod 2=x.by_ % 2:=Int.tmod_eq_emod_of_nonneg xw.b.1
  have mw:IntKind.u64.wrap (x.by_ % 2)=x.by_ % 2:=wrapU_id (by omega) (by omega)
  simp -implicitDefEqProofs[ld_at c1,cel_of c1,stm_at c1,stm_upd,ld_same,cel_same,over,mb,mw]
  refine hwatch_ok x.w x.op.user xw.o.s1 _ w0 g1 y0 hlt hs (by omega) fun T1 h1 o1 y1=>?_
  have z1:=z0.kp o1.k off13 n1
  have c1:=(o1.k.at c1 t1 n1).1
  unfold qmtZ
  simp -implicitDefEqProofs[ld_at c1,cel_of c1,stm_at c1,stm_upd,ld_same,cel_same,over,mb,mw]
  refine rz_watch x.w x.op.user _ o1.wf z1 hltg hA (by omega) fun T2 h2 o2 z2=>?_
  have y2:=y1.up o2 off31 n3
  unfold qmsZ
  simp -implicitDefEqProofs[gss,gt]
  exact fin _ _ (by simp[Hall.does,hkk]) (by simp[Hall.does,hkk,ga]) T2 h2 (((o0.mono non_up).up o1 u1).up o2 u3) y2 z2
 simp -implicitDefEqProofs[k14]
 have k15:kk=15:=by omega
 subst k15
 unfold qmyZ
 refine hdrain_ok x.w w0 g1 y0 hlt hs (by omega) (fun j hj=>by have:=(st.fd.qs j hj).2.2; omega) fun T1 h1 dv o1 y1 xd=>?_
 have z1:=z0.kp o1.k off13 n1
 unfold qmxZ
 simp -implicitDefEqProofs
 refine rz_drain x.w o1.wf z1 hltg hA (by omega) fun T2 h2 rv o2 z2 xr=>?_
 have y2:=y1.up o2 off31 n3
 unfold qmwZ
 simp -implicitDefEqProofs[gss]
 refine evSame_ok _ _ ((xd.ext (@EvR.ext) (o2.ext n3)).ext (@EvR.ext) (fz_ext T2 h2)) (xr.ext (@EvR.ext) (fz_ext T2 h2)) (by have:=told16 st.fd x.w; omega) ?_
 unfold qmvZ
 simp -implicitDefEqProofs[gss]
 exact fin _ _ (by simp[Hall.does,hkk]) (by simp[Hall.does,hkk,ga]) T2 h2 (((o0.mono non_up).up o1 u1).up o2 u3) y2 z2
end Go.Proofs.YtmbningljbcpkaaGreat
namespace Go.Proofs.YtmbningljbcpkaaGreat
open Go Go.Den Go.MapKept
set_option linter.unusedSimpArgs false
set_option linter.unusedVariables false
set_option maxRecDepth 20000
theorem actEq {x y:Operand}{K:Value→Prop}:pvM P (do eqGuard .eql qQZ x y (.agg (actC ⟨3,3,0⟩).toArray) (.agg (actC ⟨3,3,0⟩).toArray); binOp .eql qQZ (.agg (actC ⟨3,3,0⟩).toArray) (.agg (actC ⟨3,3,0⟩).toArray)) K=K (.bool true):=by
 simp -implicitDefEqProofs only[actC]
 rw[pv_eql (d:=5) (b:=true) (by kernel_rfl) (by omega) (by kernel_rfl)]
theorem bdAct33:bdV (binf P qQZ) [(0,.int .i64 3),(1,.int .i64 3)]=some (.agg (actC ⟨3,3,0⟩).toArray):=by kernel_rfl
variable {K:KTy}
set_option maxHeartbeats 1000000 in
theorem awake14_ok {h:Heap}(hk:∀ h',Ext h h'→K (.bool true) h'):callM P qdMZ #[] h K:=by
 apply qtFZ
 unfold qiAZ
 refine small_ok fun h1 e1=>?_
 unfold qlGZ
 have w1:=wf_nil h1
 refine hallNew_ok small smallW w1 g1 (fun hr T2 h2 q o2 y2=>?_) (fun hr=>by simp[rightB,small] at hr)
 unfold qlFZ
 have enil:binV .eql 4 true (ptr q) (.pointer none)=some (.bool false):=rfl
 simp -implicitDefEqProofs[enil]
 unfold qlEZ
 refine look_ok 3 o2.wf g1 y2 (by simp[hall0]) fun T3 h3 o3 y3=>?_
 unfold qlDZ
 have ha:((hall0 small small.stripes.toNat).look 3).acts=[⟨3,3,0⟩]:=rfl
 refine acts_ok o3.wf y3 (by rw[ha]; simp) fun v h4 e4 x4=>?_
 rw[ha] at x4
 have l4:=x4.len
 obtain⟨b,p,c,a1,a2,a3⟩:=x4.at (k:=.i64) (i:=0) (by omega) (by simp)
 have a3:c=actC ⟨3,3,0⟩:=a3
 subst a3
 have a2:=cels_ext (fz_ext T3 h4) a2
 unfold qlCZ
 have e04:Ext h h4:=e1.trans ((ext_of_only (o2.up o3 fun _ h=>h) g1.nil).trans e4)
 simp at l4
 have a1:iaV (some (none,3)) v (.int .i64 0)=some (.pointer (some ⟨b,p,none⟩)):=a1
 simp -implicitDefEqProofs[l4,a1,ldV_n a2,bdAct33,actEq]
 refine place_ok 2 1 (by omega) ?_
 simp -implicitDefEqProofs
 exact hk _ e04
def StpR (h:Heap)(c:List Value)(x:StepD):Prop:=∃ v,c=stpC x v∧Sl 1 StrR h v x.op.users∧StepW x
theorem StpR.ext {h h':Heap}{c:List Value}{x:StepD}(e:Ext h h')(r:StpR h c x):StpR h' c x:=let ⟨v,h1,h2,h3⟩:=r; ⟨v,h1,h2.ext (@StrR.ext) e,h3⟩
theorem stAt {F:Heap}{v:Value}{xs:List StepD}(x:Sl 14 StpR F v xs){i:Nat}(hi:i<xs.length):∃ b p u,iaV (some (none,14)) v (.int .i64 i)=some (.pointer (some ⟨b,p,none⟩))∧(∀ h',Ext F h'→cels h' b p 14=some (stpC xs[i] u))∧Sl 1 StrR F u xs[i].op.users∧StepW xs[i]:=by
 obtain⟨b,o,c,i1,i2,i3⟩:=x.at (k:=.i64) (i:=i) (by omega) (by omega)
 obtain⟨u,h1,h2,h3⟩:=i3
 simp -implicitDefEqProofs only[Int.toNat_natCast] at h1 h2 h3
 exact⟨b,o,u,i1,fun h' e=>by rw[cels_ext e i2,h1],h2,h3⟩
theorem long14_ok (xs : List StepD) {h : Heap} {v : Value} (x : Sl 14 StpR h v xs) (hk0 : xs.length ≤ 150 → (∀ y ∈ xs, shortB y.op = true) → ∀ h', Ext h h' → K (.bool false) h') (hk1 : ∀ h', Ext h h' → K (.bool true) h') : callM P qinZ #[v] h K := by
  apply quiZ
  unfold qjyZ
  have hlen := x.len
  by_cases h3 : xs.length ≤ 150
  rotate_left
  · have h3' : (150 : Int) < xs.length := by omega
    simp -implicitDefEqProofs [hlen, h3']
    exact hk1 h (Ext.refl h)
  have h3' : ¬ (150 : Int) < xs.length := by omega
  simp -implicitDefEqProofs [hlen, h3']
  unfold qnXZ
  rw [seqM_eq]
  unfold qnWZ
  refine loop_on [0] (fun s h' => Ext h h' ∧ ∃ i : Nat, i ≤ xs.length ∧ s 3 = .int .i64 i ∧ ∀ y ∈ xs.take i, shortB y.op = true) (fun s _ => (xs.length - num (s 3)).toNat) ⟨Ext.refl h, 0, by omega, rfl, by simp⟩ ?_
  rintro s h4 hf ⟨e4, i, hi, s3, hall⟩
  have s0 : s 0 = v := by simpa using hf 0 (by simp)
  unfold qnVZ
  simp -implicitDefEqProofs only [s0, hlen, s3, bin_lss, ov_s, cd_b]
  refine ⟨fun hc => ?_, fun hc => ?_⟩
  · have hlt : i < xs.length := by have : ((i : Int) < xs.length) := by simpa using hc
                                   omega
    have hw : IntKind.i64.wrap ((i : Int) + 1) = (i + 1 : Nat) := by rw [wrap64_id (by omega) (by omega)]; omega
    obtain ⟨b, p, u, i1, i2, i3, i4⟩ := stAt x hlt
    have ld : ldV (some (some 7)) (.pointer (some ⟨b, p + 3, none⟩)) h4 = some (.agg (opC xs[i].op u).toArray) := by
      have := cels_sub (i2 h4 e4) (j := 3) (m := 7) (by omega)
      simpa [stpC, opC] using ldV_n this
    unfold qnUZ
    simp -implicitDefEqProofs [s0, s3, i1, ld]
    refine short_ok xs[i].op (i3.ext (@StrR.ext) e4) fun h5 e5 => ?_
    unfold qnTZ
    cases hs : shortB xs[i].op with
    | false =>
      simp -implicitDefEqProofs
      unfold qnRZ
      simp -implicitDefEqProofs
      exact hk1 h5 (e4.trans e5)
    | true =>
      simp -implicitDefEqProofs
      unfold qnSZ
      simp -implicitDefEqProofs [s0, s3, hw, -Int.natCast_add]
      refine ⟨⟨e4.trans e5, i + 1, by omega, rfl, fun y hy => ?_⟩, by omega⟩
      rw [List.take_succ_eq_append_getElem hlt] at hy
      rcases List.mem_append.1 hy with hy | hy
      · exact hall y hy
      · rw [List.mem_singleton.1 hy]; exact hs
  · have hie : i = xs.length := by have : ¬ ((i : Int) < xs.length) := by simpa using hc
                                   omega
    subst hie
    rw [List.take_of_length_le (Nat.le_refl _)] at hall
    simp -implicitDefEqProofs
    exact hk0 h3 hall h4 e4
structure B14 (T0:Tags)(h0:Heap)(p q m N:Nat)(c:Cfg)(H:Hall)(A:List ActD)(T':Tags)(h':Heap):Prop where
 o:Only U13 T0 h0 T' h'
 y:HallR T' h' [1] p H
 z:RhR T' h' [3] q (H.wa A)
 k:HS m H
 ka:HS m (H.wa A)
 n:H.n=N
 c:H.c=c
theorem u1_13:∀ t,pre [1] t→U13 t:=fun t h=>.inl h
theorem u3_13:∀ t,pre [3] t→U13 t:=fun t h=>.inr h
section
variable {T0:Tags}{h0:Heap}{p q m N:Nat}{c:Cfg}{H:Hall}{A:List ActD}{T':Tags}{h':Heap}
theorem B14.mono {k:Nat}(b:B14 T0 h0 p q m N c H A T' h')(h:m≤k):B14 T0 h0 p q k N c H A T' h':=⟨b.o,b.y,b.z,b.k.mono h,b.ka.mono h,b.n,b.c⟩
theorem B14.ext {h'':Heap}(b:B14 T0 h0 p q m N c H A T' h')(e:Ext h' h''):B14 T0 h0 p q m N c H A T' h'' :=
 have o:=Only.of_ext (U:=non) b.o.wf e
 ⟨b.o.up o non_up,b.y.up o (Off.non _) (not_non _),b.z.kp o.k (Off.non _) (not_non _),b.k,b.ka,b.n,b.c⟩
theorem B14.one {T'':Tags}{h'':Heap}{m':Nat}{H':Hall}(b:B14 T0 h0 p q m N c H A T' h')(o:Only (pre [1]) T' h' T'' h'')(y:HallR T'' h'' [1] p H')(e:H'.wa A=H.wa A)(hm:m≤m')(k:HS m' H'):B14 T0 h0 p q m' N c H' A T'' h'':=by
 have hn:H'.n=H.n:=show (H'.wa A).n=_ by rw[e]; rfl
 have hc:H'.c=H.c:=show (H'.wa A).c=_ by rw[e]; rfl
 exact⟨b.o.up o u1_13,y,by rw[e]; exact b.z.kp o.k off13 g1.nil,k,by rw[e]; exact b.ka.mono hm,by rw[hn]; exact b.n,by rw[hc]; exact b.c⟩
theorem B14.ref {T'':Tags}{h'':Heap}{m':Nat}{B:List ActD}(b:B14 T0 h0 p q m N c H A T' h')(o:Only (pre [3]) T' h' T'' h'')(z:RhR T'' h'' [3] q (H.wa B))(hm:m≤m')(k:HS m' (H.wa B)):B14 T0 h0 p q m' N c H B T'' h'' :=
 ⟨b.o.up o u3_13,b.y.up o off31 g3.nil,z,b.k.mono hm,k,b.n,b.c⟩
theorem B14.does {x:StepD}(b:B14 T0 h0 p q m N c H A T' h')(xw:StepW x){T'':Tags}{h'':Heap}(o:Only U13 T' h' T'' h'')(y:HallR T'' h'' [1] p (H.does x))(z:RhR T'' h'' [3] q ((H.wa A).does x)):∃ B,B14 T0 h0 p q (m+1) N c (H.does x) B T'' h''∧(A=H.acts→B=(H.does x).acts):=by
 obtain⟨B,hB⟩:=wa_does H A x
 have nc:=does_nc H x
 rw[hB] at z
 refine⟨B,⟨b.o.trans o,y,z,b.k.does xw,by rw[← hB]; exact b.ka.does xw,by rw[nc.1]; exact b.n,by rw[nc.2]; exact b.c⟩,fun e=>?_⟩
 subst e
 rw[wa_self] at hB
 exact (congrArg Hall.acts hB).symm
end
theorem b14_0 {T0:Tags}{h0:Heap}{p q:Nat}(w:Wf T0 h0)(y:HallR T0 h0 [1] p (hall0 small 3))(z:RhR T0 h0 [3] q (hall0 small 3)):B14 T0 h0 p q 0 3 small (hall0 small 3) [] T0 h0:=⟨Only.refl w,y,z,HS.new smallW (by decide) (by decide),HS.new smallW (by decide) (by decide),rfl,rfl⟩
theorem RhX.acts {T:Tags}{h:Heap}{g:Tag}{p:Nat}{H:Hall}{sv av:Value}{Y:Nat→RSx}(x:RhX T h g p H sv av Y):Sl 3 ActR h av H.acts:=by
 exact Row.slE (enc:=actC) (fun _=>rfl) (fun _=>rfl) x.ac.1
theorem cv8 {n:Int}(h:0≤n∧n≤255):cvV (some .i64) (.int .u8 n)=some (.int .i64 n):=by simp[cvV,wrap64_id (n:=n) (by omega) (by omega)]
theorem tm8 {n k:Int}(h:0≤n):n.tmod k=n % k:=Int.tmod_eq_emod_of_nonneg h
end Go.Proofs.YtmbningljbcpkaaGreat
namespace Go.Proofs.YtmbningljbcpkaaGreat
open Go Go.Den
set_option maxRecDepth 100000
set_option linter.unusedVariables false
set_option maxHeartbeats 40000000
def qrKZ (a:Post)(m:List Nat)(b:Env)(c d e f g h i j k l n o p q r s t u v w x y z aa ab ac ad ae af ag ah ai aj ak al am an ao ap aq ar au av aw:Value)(ax:Heap):Prop:=a .ret m (puts b [(35,(b 7)),(36,(b 0)),(37,c),(38,d),(41,(b 0)),(42,(b 7)),(43,e),(44,f),(45,g),(46,h),(47,i),(48,j),(49,k),(8,k),(50,k),(51,l),(52,n),(53,o),(54,p),(9,p),(55,(b 4)),(56,p),(57,q),(58,(b 4)),(59,p),(60,r),(61,(b 4)),(62,p),(63,s),(64,(b 4)),(65,p),(66,t),(67,u),(10,q),(11,r),(12,s),(13,u),(68,(b 6)),(69,p),(70,v),(71,(b 6)),(72,p),(73,w),(74,(b 4)),(75,(b 6)),(76,(b 0)),(77,(b 7)),(78,x),(79,y),(80,z),(81,(b 4)),(82,p),(83,aa),(84,q),(85,ab),(86,ab),(87,ac),(88,ad),(89,ae),(90,af),(91,ag),(92,ah),(93,ah),(94,ai),(95,aj),(96,ak),(97,al),(98,am),(99,an),(100,an),(101,ao),(102,ap),(103,aq),(104,ar),(105,au),(106,av),(107,aw),(2,(Value.bool false))]) ax
def qhZZ (a:Env)(b:Post)(m:List Nat)(c d e f g h i j k l n o p q r s t u v w x y z aa ab ac ad ae af ag ah ai aj ak al am an ao ap aq ar au av aw ax ay:Value)(az:Heap):Prop:=ov (binV BinOp.add 2 true (a 7) (Value.int IntKind.i64 1)) fun ba=>b .normal m (puts a [(35,(a 7)),(36,(a 0)),(37,c),(38,d),(41,(a 0)),(42,(a 7)),(43,e),(44,f),(45,g),(46,h),(47,i),(48,j),(49,k),(8,k),(50,k),(51,l),(52,n),(53,o),(54,p),(9,p),(55,(a 4)),(56,p),(57,q),(58,(a 4)),(59,p),(60,r),(61,(a 4)),(62,p),(63,s),(64,(a 4)),(65,p),(66,t),(67,u),(10,q),(11,r),(12,s),(13,u),(68,(a 6)),(69,p),(70,v),(71,(a 6)),(72,p),(73,w),(74,(a 4)),(75,(a 6)),(76,(a 0)),(77,(a 7)),(78,x),(79,y),(80,z),(81,(a 4)),(82,p),(83,aa),(84,q),(85,ab),(86,ab),(87,ac),(88,ad),(89,ae),(90,af),(91,ag),(92,ah),(93,ah),(94,ai),(95,aj),(96,ak),(97,al),(98,am),(99,an),(100,an),(101,ao),(102,ap),(103,aq),(104,ar),(105,au),(106,av),(107,aw),(108,(a 6)),(109,p),(110,ax),(111,(a 6)),(112,p),(113,ay),(39,(a 7)),(40,ba),(7,ba)]) az
def qiaZ (a:Env)(b:Value)(c:Heap)(d:Post)(m:List Nat)(e f g h i j k l n o p q r s t u v w x y z aa ab ac ad ae af ag ah ai aj ak al am an ao ap aq ar au av aw ax ay:Value):Prop:=callM P qaBZ #[(a 6),(Value.int IntKind.i64 9),b] c fun az ba=>qhZZ a d m e f g h i j k l n o p q b r s t u v w x y z aa ab ac ad ae af ag ah ai aj ak al am an ao ap aq ar au av aw ax ay az ba
def qibZ (a:Env)(b:Value)(c:Heap)(d:Post)(m:List Nat)(e f g h i j k l n o p q r s t u v w x y z aa ab ac ad ae af ag ah ai aj ak al am an ao ap aq ar au av aw ax:Value):Prop:=callM P qasZ #[(a 6),(Value.int IntKind.i64 9),b] c fun ay az=>qiaZ a b az d m e f g h i j k l n o p q r s t u v w x y z aa ab ac ad ae af ag ah ai aj ak al am an ao ap aq ar au av aw ax ay
def qicZ (a b:Value)(c:Env)(d:Heap)(e f g h:Value)(i:Post)(m:List Nat)(j k l n o p q r s t u v w x y z aa ab:Value):Prop:=ov (binV BinOp.neq 1 false a b) fun ac=>gM (isB ac false) (fun ad=>ad (c 4) d) d fun ae af=>gM (isB ac false) (fun ag=>ag e af) af fun ah ai=>gM (isB ac false) (fun aj=>callM P qgpZ #[ae,ah] ai fun ak al=>aj ak al) ai fun am an=>gM (isB ac false) (fun ao=>ao f an) an fun ap aq=>gM (isB ac false) (fun ar=>ov (binV BinOp.neq 1 false am ap) fun au=>ar au aq) aq fun av aw=>ov (pkV ac (Value.bool true) av) fun ax=>gM (isB ax false) (fun ay=>ay (c 4) aw) aw fun az ba=>gM (isB ax false) (fun bb=>bb e ba) ba fun bc bd=>gM (isB ax false) (fun be=>callM P qdkZ #[az,(Value.int IntKind.i64 9),bc] bd fun bf bg=>be bf bg) bd fun bh bi=>gM (isB ax false) (fun bj=>bj g bi) bi fun bk bl=>gM (isB ax false) (fun bm=>ov (binV BinOp.neq 2 false bh bk) fun bn=>bm bn bl) bl fun bo bp=>ov (pkV ax (Value.bool true) bo) fun bq=>gM (isB bq false) (fun br=>br (c 4) bp) bp fun bs bt=>gM (isB bq false) (fun bu=>bu e bt) bt fun bv bw=>gM (isB bq false) (fun bx=>callM P qeoZ #[bs,(Value.int IntKind.i64 9),bv] bw fun bz ca=>bx bz ca) bw fun cb cc=>gM (isB bq false) (fun cd=>callM P qagZ #[cb] cc fun ce cf=>cd ce cf) cc fun cg ch=>gM (isB bq false) (fun ci=>ci h ch) ch fun cj ck=>gM (isB bq false) (fun cl=>ov (binV BinOp.neq 2 false cg cj) fun cm=>cl cm ck) ck fun cn co=>ov (pkV bq (Value.bool true) cn) fun cp=>cdM cp (qrKZ i m c j k l n o p q r s t u v e b f g w h x y z aa ab a ac ae ah am ap av ax az bc bh bk bo bq bs bv cb cg cj cn cp co) (qibZ c e co i m j k l n o p q r s t u v b f g w h x y z aa ab a ac ae ah am ap av ax az bc bh bk bo bq bs bv cb cg cj cn cp)
def qidZ (a:Env)(b:Value)(c:Heap)(d e f g:Value)(h:Post)(m:List Nat)(i j k l n o p q r s t u v w x y z aa:Value):Prop:=callM P qhaZ #[(a 4),b] c fun ab ac=>qicZ ab d a ac b e f g h m i j k l n o p q r s t u v w x y z aa
def qieZ (a:Env)(b:Heap)(c d e f g:Value)(h:Post)(m:List Nat)(i j k l n o p q r s t u v w x:Value):Prop:=ov (iaV (some (none,14)) (a 0) (a 7)) fun y=>ov (ldV (some (some 14)) y b) fun z=>callM P qioZ #[(a 4),(a 6),z] b fun aa ab=>qidZ a c ab d e f g h m i j k l n o p q r s t u v w x y z aa
def qifZ (a:Env)(b:Value)(c:Heap)(d e f g:Value)(h:Post)(m:List Nat)(i j k l n o p q r s t u v w:Value):Prop:=callM P qaBZ #[(a 6),(Value.int IntKind.i64 9),b] c fun x y=>qieZ a y b d e f g h m i j k l n o p q r s t u v w x
def qigZ (a:Env)(b:Value)(c:Heap)(d e f g:Value)(h:Post)(m:List Nat)(i j k l n o p q r s t u v:Value):Prop:=callM P qasZ #[(a 6),(Value.int IntKind.i64 9),b] c fun w x=>qifZ a b x d e f g h m i j k l n o p q r s t u v w
def qihZ (a:Value)(b:Heap)(c:Env)(d e f g:Value)(h:Post)(m:List Nat)(i j k l n o p q r s t u:Value):Prop:=callM P qagZ #[a] b fun v w=>qigZ c d w e f g v h m i j k l n o p q r s t u a
def qiiZ (a:Env)(b:Value)(c:Heap)(d e f:Value)(g:Post)(m:List Nat)(h i j k l n o p q r s t:Value):Prop:=callM P qeoZ #[(a 4),(Value.int IntKind.i64 9),b] c fun u v=>qihZ u v a b d e f g m h i j k l n o p q r s t
def qijZ (a:Env)(b:Value)(c:Heap)(d e:Value)(f:Post)(m:List Nat)(g h i j k l n o p q r s:Value):Prop:=callM P qdkZ #[(a 4),(Value.int IntKind.i64 9),b] c fun t u=>qiiZ a b u d e t f m g h i j k l n o p q r s
def qikZ (a:Env)(b:Value)(c:Heap)(d:Value)(e:Post)(m:List Nat)(f g h i j k l n o p q r:Value):Prop:=callM P qgpZ #[(a 4),b] c fun s t=>qijZ a b t d s e m f g h i j k l n o p q r
def qjjZ (a:Env)(b:Heap)(c:Post)(m:List Nat)(d e:Value):Prop:=ov (iaV (some (none,14)) (a 0) (a 7)) fun f=>ov (faV (some 2) f) fun g=>ov (ldV (some none) g b) fun h=>ov (cvV (some .i64) h) fun i=>ov (faV (some 0) (a 3)) fun j=>ov (ldV (some none) j b) fun k=>ov (binV BinOp.rem 2 false i k) fun l=>ov (binV BinOp.add 2 true l (Value.int IntKind.i64 1)) fun n=>ov (faV (some 0) (a 3)) fun o=>ov (ldV (some none) o b) fun p=>ov (binV BinOp.rem 2 false n p) fun q=>callM P qhaZ #[(a 4),q] b fun r s=>qikZ a q s r c m d e f g h i j k l n o p
def qjkZ (a:Env)(b:Heap)(c:Post)(m:List Nat):Prop:=ov (lnV 7 (a 0)) fun d=>ov (binV BinOp.lss 2 false (a 7) d) fun e=>cdM e (qjjZ a b c m d e) (c (.exit 0) m (puts a [(35,(a 7)),(36,(a 0)),(37,d),(38,e)]) b)
def qjlZ (x0 a b c d e f g h i j k l n o p q r:Value)(s:Heap)(t:Post):Prop:=loopM (fun m u v w=>qjkZ u v w m) [] (puts (envOf [x0]) [(2,(Value.bool false)),(14,a),(15,b),(16,b),(17,c),(18,d),(19,e),(21,f),(3,g),(23,h),(24,i),(22,i),(25,j),(26,k),(4,j),(5,k),(27,k),(28,l),(29,l),(30,n),(31,o),(32,p),(33,q),(34,r),(6,r),(7,(Value.int IntKind.i64 0))]) s (blkM 0 t)
def qilZ (a:Value)(b:Heap)(c d:Value)(K:KTy)(m:List Nat)(e:Env)(f:Value):Prop:=ldV (some none) a b=some c∧callM P qeWZ #[d,c] b fun g h=>(retM P [.tmp 2] K) .ret m (puts e [(114,(e 4)),(116,(e 6)),(117,f),(118,a),(119,c),(115,d),(120,g),(2,g)]) h
def qimZ (a:Env)(b:Heap)(K:KTy)(m:List Nat):Prop:=ov (ncV (a 6)) fun c=>ov (faV (some 11) c) fun d=>ov (ldV (some none) d b) fun e=>callM P qgZZ #[(a 4)] b fun f g=>qilZ d g e f K m a c
def qjmZ (x0 a b c d e f g h i j k l n o p q r:Value)(s:Heap)(K:KTy):Prop:=seqM (fun t=>qjlZ x0 a b c d e f g h i j k l n o p q r s t) (fun m u v=>qimZ u v K m) (retM P [.tmp 2] K)
def qjnZ (a:Value)(b:Heap)(x0 c d e f g h i j k l m n o p:Value)(K:KTy):Prop:=ov (ldV (some (some 7)) a b) fun q=>callM P qjsZ #[q] b fun r s=>qjmZ x0 c d e f g h a i j k l m n o p q r s K
def qjoZ (a:Value)(b:Heap)(K:KTy)(c x0 d e f g h i j:Value):Prop:=ov (exV a 0) fun k=>ov (exV a 1) fun l=>ov (binV BinOp.neq 2 true l (Value.int IntKind.i64 0)) fun m=>gM (isB m false) (fun n=>n k b) b fun o p=>gM (isB m false) (fun q=>ov (binV BinOp.eql 4 true o (Value.pointer none)) fun r=>q r p) p fun s t=>ov (pkV m (Value.bool true) s) fun u=>cdM u (K (Value.bool false) t) (qjnZ c t x0 d e f g h i j a k l m o s u K)
def qjpZ (a:Heap)(b:Value)(K:KTy)(x0 c d e f g:Value):Prop:=nwM (zc P qKZ) qKZ a fun h i=>stM (some 7) h b i fun j=>ov (ldV (some (some 7)) h j) fun k=>callM P qriZ #[k] j fun l m=>qjoZ l m K h x0 c d e f g b k
def qjqZ (a:Heap)(K:KTy)(x0 b c d e f:Value):Prop:=callM P qdNZ #[] a fun g h=>qjpZ h g K x0 b c d e f
def qjrZ (a x0:Value)(b:Heap)(K:KTy):Prop:=ov (unV UnOp.not a) fun c=>gM (isB c false) (fun d=>d x0 b) b fun e f=>gM (isB c false) (fun g=>callM P qinZ #[e] f fun h i=>g h i) f fun j k=>ov (pkV c (Value.bool true) j) fun l=>cdM l (callM P qdMZ #[] k fun m n=>K m n) (qjqZ k K x0 a c e j l)
def qfFZ (x0:Value)(h:Heap)(K:KTy):Prop:=callM P qdMZ #[] h fun a b=>qjrZ a x0 b K
variable {K:KTy}
theorem qsDZ {x0:Value}{h:Heap}(hd:qfFZ x0 h K):callM P qexZ #[x0] h K :=
 call_of good mixed (fn:=Tryz.f5) (args:=[x0]) Tryz.func5 rfl (by kernel_rfl) (of_decide_eq_true rfl) (B:=qfFZ x0 h K) (by kernel_rfl) hd
end Go.Proofs.YtmbningljbcpkaaGreat
namespace Go.Proofs.YtmbningljbcpkaaGreat
open Go Go.Den Go.MapKept
set_option linter.unusedSimpArgs false
set_option linter.unusedVariables false
set_option maxRecDepth 20000
def PaI (T0:Tags)(h0:Heap)(p q L:Nat)(v:Value)(h':Heap):Prop:=∃ (T':Tags) (H:Hall) (i:Nat),B14 T0 h0 p q (5*i) 3 small H H.acts T' h'∧v = .int .i64 i∧i≤L
variable {K:KTy}
set_option maxHeartbeats 8000000 in
theorem hallApart_ok (xs:List StepD){h:Heap}{v:Value}(x:Sl 14 StpR h v xs)(hk:∀ h',Ext h h'→K (.bool true) h'):callM P qexZ #[v] h K:=by
 apply qsDZ
 unfold qfFZ
 have xl:=x.len
 refine awake14_ok fun h1 e1=>?_
 unfold qjrZ
 simp -implicitDefEqProofs
 refine long14_ok xs (x.ext (@StpR.ext) e1) (fun h150 hsh h2 e2=>?_) (fun h2 e2=>?_)
 rotate_left
 ·simp -implicitDefEqProofs
  exact awake14_ok fun h3 e3=>hk _ ((e1.trans e2).trans e3)
 simp -implicitDefEqProofs
 unfold qjqZ
 refine small_ok fun h3 e3=>?_
 unfold qjpZ
 rw[zcCfg]
 refine nw_intro fun v17 h4 n4 e4 c4=>?_
 have cfg:∀ h',h' v17=some (.cells (cfgC small).toArray qKZ (0,0))→ldV (some (some 7)) (ptr v17) h'=some (.agg (cfgC small).toArray):=fun h' e=>by simp[ld_at e,cfgC]
 rw[stm_at c4 (by simp[cfgC]) (by simp) (by simp[cfgC])]
 have hov:over #[.int .i64 0,.int .i64 0,.int .i64 0,.int .i64 0,.int .i64 0,.int .u64 0,.int .u64 0] 0 (Value.agg (cfgC small).toArray).cells.toList=(cfgC small).toArray:=rfl
 rw[hov]
 have hc5:(upd h4 v17 (.cells (cfgC small).toArray qKZ (0,0))) v17=some (.cells (cfgC small).toArray qKZ (0,0)):=upd_same' _ _ _
 have e35:Ext h3 (upd h4 v17 (.cells (cfgC small).toArray qKZ (0,0))):=ext_upd n4 e4
 generalize upd h4 v17 (.cells (cfgC small).toArray qKZ (0,0))=h5 at hc5 e35 ⊢
 have e05:Ext h h5:=((e1.trans e2).trans e3).trans e35
 simp -implicitDefEqProofs only[cfg _ hc5,ov_s]
 refine hallNew_ok small smallW (wf_nil h5) g1 (fun hr T6 h6 hp o6 y6=>?_) (fun hr=>by simp[rightB,small] at hr)
 have hn3:small.stripes.toNat=3:=by decide
 rw[hn3] at y6
 unfold qjoZ
 have enil:binV .eql 4 true (ptr hp) (.pointer none)=some (.bool false):=rfl
 simp -implicitDefEqProofs[enil]
 unfold qjnZ
 have b6:=o6.see ⟨hc5,rfl⟩ g1.nil
 simp -implicitDefEqProofs only[cfg _ b6.1,ov_s]
 refine rz_new small (by decide) o6.wf g3 fun T7 h7 hq o7 z7=>?_
 rw[hn3] at z7
 have y7:=y6.up o7 off31 g3.nil
 have b7:=o7.see b6 g3.nil
 have o57:Only U13 (fun _=>[]) h5 T7 h7:=(o6.mono u1_13).trans (o7.mono u3_13)
 have xF:Sl 14 StpR (fz T7 h7) v xs:=by
  have:Sl 14 StpR (fz (fun _=>[]) h5) v xs:=by rw[fz_nil]; exact x.ext (@StpR.ext) e05
  exact this.ext (@StpR.ext) (o57.ext U13.nil)
 have kE:∀ {T' h'},Only U13 T7 h7 T' h'→∀ {h''},Ext h' h''→K (.bool true) h'':=fun {T' h'} o {h''} e=>hk _ (e05.trans ((ext_of_only (o57.trans o) U13.nil).trans e))
 have bb0:=b14_0 o7.wf y7 z7
 unfold qjmZ
 rw[seqM_eq]
 unfold qjlZ
 refine loop_on [0,3,4,6] (fun s h'=>PaI T7 h7 hp hq xs.length (s 7) h') (fun s _=>(xs.length-num (s 7)).toNat) ⟨T7,_,0,bb0,rfl,by omega⟩ ?_
 rintro s h8 hf ⟨T8,H,i,b,s7,hi⟩
 have s0:s 0=v:=by simpa using hf 0 (by simp)
 have s3:s 3=ptr v17:=by simpa using hf 3 (by simp)
 have s4:s 4=ptr hp:=by simpa using hf 4 (by simp)
 have s6:s 6=ptr hq:=by simpa using hf 6 (by simp)
 unfold qjkZ
 simp -implicitDefEqProofs[s0,xl,s7]
 refine⟨fun hc=>?_,fun hc=>?_⟩
 rotate_left
 ·unfold qimZ
  obtain⟨sv,av,Y,zx⟩:=b.z
  have cz:=zx.hp
  simp -implicitDefEqProofs only[rhC] at cz
  simp -implicitDefEqProofs[s4,s6,ld_at cz,cel_of cz,stm_at cz,stm_upd,ld_same,cel_same,over]
  have hA:=b.k.ac
  refine acts_ok b.o.wf b.y (by omega) fun va h9 e9 xa=>?_
  have za:=zx.acts.ext (R:=ActR) (fun _ r=>r) e9
  have cz:=e9 _ _ cz
  unfold qilZ
  simp -implicitDefEqProofs[ld_at cz,cel_of cz,stm_at cz,stm_upd,ld_same,cel_same,over]
  refine sameActs_ok _ _ (xa.ext (R:=ActR) (fun _ r=>r) (fz_ext T8 h9)) za (by omega) ?_
  simp -implicitDefEqProofs[wa_self]
  exact kE b.o e9
 have hlt:i<xs.length:=by omega
 have hw:IntKind.i64.wrap ((i:Int)+1)=(i+1:Nat):=by rw[wrap64_id (by omega) (by omega)]; omega
 obtain⟨bb,pp,u,i1,i2,i3,sw⟩:=stAt xF hlt
 have eF:=(b.o.ext U13.nil).trans (fz_ext T8 h8)
 have cx:∀ {T' h'},Only U13 T7 h7 T' h'→∀ {h''},Ext h' h''→cels h'' bb pp 14=some (stpC xs[i] u):=fun {T' h'} o {h''} e=>i2 _ (((o.ext U13.nil).trans (fz_ext _ _)).trans e)
 obtain⟨X,hX⟩:∃ X,xs[i]=X:=⟨_,rfl⟩
 rw[hX] at sw i3
 simp -implicitDefEqProofs only[hX] at cx
 have qk:∀ {h''},cels h'' bb pp 14=some (stpC X u)→cel h'' bb pp=some (.int .u8 X.k):=fun c=>(cels_get c).2 0 (by simp[stpC])
 have qw:∀ {h''},cels h'' bb pp 14=some (stpC X u)→cel h'' bb (pp+1)=some (.int .u8 X.who):=fun c=>(cels_get c).2 1 (by simp[stpC])
 have qs:∀ {h''},cels h'' bb pp 14=some (stpC X u)→cel h'' bb (pp+2)=some (.int .u8 X.s):=fun c=>(cels_get c).2 2 (by simp[stpC])
 have k8:=cx b.o (Ext.refl h8)
 have b8:=b.o.see b7 U13.nil
 have c8:=b8.1
 simp -implicitDefEqProofs only[cfgC,small] at c8
 have hn:=b.n
 have hat:X.s % 3=(H.at_ X:Int):=by unfold Hall.at_; rw[hn]; have:=Int.emod_nonneg X.s (show (3:Int)≠0 by omega); simp; omega
 have hlt3:=at_lt X (show 0<H.n by omega)
 have wat:IntKind.i64.wrap (H.at_ X:Int)=(H.at_ X:Int):=wrap64_id (by omega) (by omega)
 obtain⟨o,ho⟩:∃ o,(H.at_ X+1) % 3=o:=⟨_,rfl⟩
 have ho3:o<3:=by omega
 have hno:o≠H.at_ X:=by omega
 have w1:IntKind.i64.wrap ((H.at_ X:Int)+1)=(H.at_ X:Int)+1:=wrap64_id (by omega) (by omega)
 have w2:((H.at_ X:Int)+1).tmod 3=(o:Int):=by rw[Int.tmod_eq_emod_of_nonneg (by omega)]; omega
 have w3:IntKind.i64.wrap (o:Int)=(o:Int):=wrap64_id (by omega) (by omega)
 have st:=b.k.st o (by omega)
 have hm:5*i≤750:=by omega
 unfold qjjZ
 simp -implicitDefEqProofs[s0,s3,s4,s7,i1,qs k8,cv8 sw.s,tm8 sw.s.1,ld_at c8,cel_of c8,stm_at c8,stm_upd,ld_same,cel_same,over,hat,wat,w1,w2,w3]
 refine free_ok b.y (by omega) fun h9 e9=>?_
 have b1:=b.ext e9
 unfold qikZ
 simp -implicitDefEqProofs only[s4]
 refine hquiet_ok b1.o.wf b1.y b1.k (by omega) (by omega) fun h10 e10=>?_
 have b2:=b1.ext e10
 unfold qijZ
 simp -implicitDefEqProofs only[s4]
 refine epoch_ok 9 b2.o.wf g1 b2.y (by omega) b2.k.n8.2 (by have:=b2.k.ac; omega) fun T11 h11 o11 y11=>?_
 have b3:=b2.one o11 y11 (m':=5*i+1) rfl (by omega) (b2.k.epoch 9 o)
 unfold qiiZ
 simp -implicitDefEqProofs only[s4]
 refine snap_ok 9 b3.o.wf g1 b3.y (by have:=b3.n; omega) b3.k.n8.2 (by have:=b3.k.ac; omega) fun T12 h12 a a' o12 y12 xb=>?_
 have b4:=b3.one o12 y12 (m':=5*i+2) rfl (by omega) (b3.k.snap 9 o)
 unfold qihZ
 refine blen_ok _ (fz_ext T12 h12) xb fun h13 e13=>?_
 have b5:=b4.ext e13
 unfold qigZ
 simp -implicitDefEqProofs only[s6]
 refine rz_epoch 9 b5.o.wf b5.z (by have:=b5.n; show o<((H.epoch 9 o).snap 9 o).n; omega) b5.ka.n8.2 (by have:=b5.ka.ac; omega) fun T14 h14 o14 z14=>?_
 have b6:=b5.ref (B:=H.acts++([⟨9,3,4*o+2⟩]:List ActD)) (m':=5*i+2) o14 z14 (by omega) (b5.k.wa (by have:=b.k.ac; simp; omega))
 unfold qifZ
 simp -implicitDefEqProofs only[s6]
 refine rz_snap 9 b6.o.wf b6.z (by have:=b6.n; show o<((H.epoch 9 o).snap 9 o).n; omega) b6.ka.n8.2 (by have:=b6.ka.ac; omega) fun T15 h15 rv o15 z15 xr=>?_
 have b7:=b6.ref (B:=(H.acts++([⟨9,3,4*o+2⟩]:List ActD))++([⟨9,3,4*o+3⟩]:List ActD)) (m':=5*i+2) o15 z15 (by omega) (b6.k.wa (by have:=b.k.ac; simp; omega))
 obtain⟨H2,hH2⟩:∃ H2,H2=(H.epoch 9 o).snap 9 o:=⟨_,rfl⟩
 have hA2:(H.acts++([⟨9,3,4*o+2⟩]:List ActD))++([⟨9,3,4*o+3⟩]:List ActD)=H2.acts:=by rw[hH2]; rfl
 have hss2:H2.ss=H.ss:=by rw[hH2]; rfl
 have hat2:H2.at_ X=H.at_ X:=by rw[hH2]; rfl
 rw[← hH2,hA2] at b7
 have k15:=cx b7.o (Ext.refl h15)
 unfold qieZ
 simp -implicitDefEqProofs[s0,s4,s6,s7,i1,ldV_n k15]
 refine does14_ok X sw i3.one b7.o.wf b7.y b7.z b7.k b7.ka (by omega) fun T16 h16 o16 y16 z16=>?_
 obtain⟨B,b8,hB⟩:=b7.does sw o16 y16 z16
 have hB:=hB rfl
 subst hB
 have dss:=does_other (H:=H2) (x:=X) (o:=o) (by rw[hat2]; exact hno)
 rw[hss2] at dss
 unfold qidZ
 simp -implicitDefEqProofs only[s4]
 refine free_ok b8.y (by have:=b8.n; omega) fun h17 e17=>?_
 have b9:=b8.ext e17
 have hq:(H2.does X).quiet o=H.quiet o:=by unfold Hall.quiet; rw[dss]
 unfold qicZ
 simp -implicitDefEqProofs[s4,dss]
 refine hquiet_ok b9.o.wf b9.y b9.k (by omega) (by have:=b9.n; omega) fun h18 e18=>?_
 have b10:=b9.ext e18
 simp -implicitDefEqProofs[s4,hq]
 refine epoch_ok 9 b10.o.wf g1 b10.y (by have:=b10.n; omega) b10.k.n8.2 (by have:=b10.k.ac; omega) fun T19 h19 o19 y19=>?_
 have b11:=b10.one o19 y19 (m':=5*i+4) rfl (by omega) ((b10.k.epoch 9 o).mono (by omega))
 simp -implicitDefEqProofs[s4,dss]
 refine snap_ok 9 b11.o.wf g1 b11.y (by have:=b11.n; omega) b11.k.n8.2 (by have:=b11.k.ac; omega) fun T20 h20 c c' o20 y20 xb20=>?_
 have b12:=b11.one o20 y20 (m':=5*i+5) rfl (by omega) ((b11.k.snap 9 o).mono (by omega))
 refine blen_ok _ (fz_ext T20 h20) xb20 fun h21 e21=>?_
 have b13:=b12.ext e21
 have hsn:(((H2.does X).epoch 9 o).ss o).snap=(((H.epoch 9 o)).ss o).snap:=by show ((H2.does X).ss o).snap=(H.ss o).snap; rw[dss]
 simp -implicitDefEqProofs[s4,hsn]
 unfold qibZ
 simp -implicitDefEqProofs only[s6]
 refine rz_epoch 9 b13.o.wf b13.z (by have:=b13.n; show o<(((H2.does X).epoch 9 o).snap 9 o).n; omega) b13.ka.n8.2 (by have:=b13.ka.ac; omega) fun T22 h22 o22 z22=>?_
 have kac:=b8.k.ac
 have b14:=b13.ref (B:=(H2.does X).acts++([⟨9,3,4*o+2⟩]:List ActD)) (m':=5*i+5) o22 z22 (by omega) (b13.k.wa (by simp; omega))
 unfold qiaZ
 simp -implicitDefEqProofs only[s6]
 refine rz_snap 9 b14.o.wf b14.z (by have:=b14.n; show o<(((H2.does X).epoch 9 o).snap 9 o).n; omega) b14.ka.n8.2 (by have:=b14.ka.ac; omega) fun T23 h23 rv2 o23 z23 xr2=>?_
 have b15:=b14.ref (B:=((H2.does X).acts++([⟨9,3,4*o+2⟩]:List ActD))++([⟨9,3,4*o+3⟩]:List ActD)) (m':=5*i+5) o23 z23 (by omega) (b14.k.wa (by simp; omega))
 unfold qhZZ
 simp -implicitDefEqProofs[s0,s3,s4,s6,s7,hw,-Int.natCast_add]
 exact⟨⟨T23,_,i+1,b15.mono (by omega),rfl,by omega⟩,by omega⟩
end Go.Proofs.YtmbningljbcpkaaGreat
namespace Go.Proofs.YtmbningljbcpkaaGreat
open Go Go.Den
set_option linter.unusedSimpArgs false
set_option linter.unusedVariables false
theorem rdrStp:Rdr P 41 StpR:=fun enc W base spare held fuel cs x h=>by
 have hl:cs.length=14:=(struct_fields (P:=P) Tryz.underlying41 h).1.trans (by kernel_rfl)
 obtain⟨_,_,h0⟩:=struct_field (P:=P) Tryz.underlying41 h 0 5 0 1 (by kernel_rfl)
 obtain⟨_,_,h1⟩:=struct_field (P:=P) Tryz.underlying41 h 1 5 1 1 (by kernel_rfl)
 obtain⟨_,_,h2⟩:=struct_field (P:=P) Tryz.underlying41 h 2 5 2 1 (by kernel_rfl)
 obtain⟨_,_,h3⟩:=struct_field (P:=P) Tryz.underlying41 h 3 37 3 7 (by kernel_rfl)
 obtain⟨_,_,h4⟩:=struct_field (P:=P) Tryz.underlying41 h 4 39 10 3 (by kernel_rfl)
 obtain⟨_,_,h5⟩:=struct_field (P:=P) Tryz.underlying41 h 5 25 13 1 (by kernel_rfl)
 obtain⟨a0,e0,_,w0⟩:=DataW.trod_int Tryz.underlying5 h0
 obtain⟨a1,e1,_,w1⟩:=DataW.trod_int Tryz.underlying5 h1
 obtain⟨a2,e2,_,w2⟩:=DataW.trod_int Tryz.underlying5 h2
 obtain⟨a5,e5,_,w5⟩:=DataW.trod_int Tryz.underlying25 h5
 obtain⟨_,_,h6⟩:=struct_field (P:=P) Tryz.underlying39 h4 0 25 0 1 (by kernel_rfl)
 obtain⟨_,_,h7⟩:=struct_field (P:=P) Tryz.underlying39 h4 1 25 1 1 (by kernel_rfl)
 obtain⟨_,_,h8⟩:=struct_field (P:=P) Tryz.underlying39 h4 2 4 2 1 (by kernel_rfl)
 obtain⟨a6,e6,_,w6⟩:=DataW.trod_int Tryz.underlying25 h6
 obtain⟨a7,e7,_,w7⟩:=DataW.trod_int Tryz.underlying25 h7
 obtain⟨a8,e8⟩:=DataW.trod_bool Tryz.underlying4 h8
 obtain⟨a3,u,e3,s3,w3⟩:=rdrOp _ _ _ _ _ _ _ _ h3
 match cs,hl with
 | [x0,x1,x2,x3,x4,x5,x6,x7,x8,x9,x10,x11,x12,x13],_ =>
  simp[opC] at e0 e1 e2 e3 e5 e6 e7 e8
  exact⟨⟨a0,a1,a2,a3,⟨a6,a7,a8⟩,a5⟩,u,by simp[stpC,e0,e1,e2,e3,e5,e6,e7,e8],s3,wf_u8 w0,wf_u8 w1,wf_u8 w2,w3,⟨wf_u64 w6,wf_u64 w7⟩,wf_u64 w5⟩
end Go.Proofs.YtmbningljbcpkaaGreat
namespace Go.Proofs.YtmbningljbcpkaaGreat
open Go Go.Den
variable {K:KTy}
theorem hallApart_row {xs:List StepD}{v:Value}{h:Heap}(x:Sl 14 StpR h v xs)(hk:∀ h',Ext h h'→K (.bool true) h') :
  callM P qexZ #[v] h K:=hallApart_ok xs x hk
end Go.Proofs.YtmbningljbcpkaaGreat
