/- Words, plain data and contracts of the Go functions that this claim reaches. No condition beyond the hypotheses that each theorem states. -/
import Derived.Test.YtcnphhhcknhhaaaGreatRt5
set_option linter.unusedSimpArgs false
set_option linter.unusedVariables false
namespace Go.Den
open Go
set_option linter.unusedVariables false
set_option linter.unusedSimpArgs false
def evt0:Evt:=⟨⟨#[]⟩,⟨0,0,0⟩,⟨0,0,0⟩,0⟩
def hdE (l:List Evt):Evt:=l.headD evt0
def nth (r:List (List Evt))(i:Nat):List Evt:=r.getD i []
def bestE (r:List (List Evt)):Nat→Option Nat
 | 0=>none
 | k+1=>match bestE r k with
  | none=>if nth r k=[] then none else some k
  | some b=>if nth r k≠[]∧(hdE (nth r k)).seq<(hdE (nth r b)).seq then some k else some b
def mergeF:Nat→List (List Evt)→List Evt
 | 0,_=>[]
 | f+1,r=>match bestE r r.length with
  | none=>[]
  | some b=>hdE (nth r b)::mergeF f (r.set b (nth r b).tail)
def totE (r:List (List Evt)):Nat:=(r.map (·.length)).sum
def mergeE (r:List (List Evt)):List Evt:=mergeF (totE r) r
structure IsBest (r:List (List Evt))(lo hi b:Nat):Prop where
 l:lo≤b
 h:b<hi
 ne:nth r b≠[]
 lt:∀ i,lo≤i→i<b→nth r i≠[]→(hdE (nth r b)).seq<(hdE (nth r i)).seq
 le:∀ i,b≤i→i<hi→nth r i≠[]→(hdE (nth r b)).seq≤(hdE (nth r i)).seq
theorem best_none {r:List (List Evt)}:∀ {k:Nat},bestE r k=none↔∀ i,i<k→nth r i=[]
 | 0=>by simp[bestE]
 | k+1=>by
  have ih:=best_none (r:=r) (k:=k)
  simp only[bestE]
  cases h:bestE r k with
  | none =>
   have h':=ih.1 h
   dsimp only
   by_cases hk:nth r k=[]
   ·simp only[hk,if_true,true_iff]
    intro i hi
    by_cases hik:i=k
    ·subst hik; exact hk
    ·exact h' i (by omega)
   ·simp only[hk,if_false,reduceCtorEq,false_iff]
    intro hh; exact hk (hh k (by omega))
  | some b =>
   dsimp only
   constructor
   ·intro hh; split at hh<;>cases hh
   ·intro hh
    have:=ih.2 fun i hi=>hh i (by omega)
    rw[h] at this; cases this
theorem best_some {r:List (List Evt)}:∀ {k b:Nat},bestE r k=some b→IsBest r 0 k b
 | 0,b,h=>by simp[bestE] at h
 | k+1,b,h=>by
  simp only[bestE] at h
  cases hb:bestE r k with
  | none =>
   rw[hb] at h
   have hn:=best_none.1 hb
   dsimp only at h
   split at h
   ·cases h
   ·rename_i hk
    simp only[Option.some.injEq] at h; subst h
    refine⟨by omega,by omega,hk,fun i _ hi hne=>absurd (hn i hi) hne,fun i h1 h2 _=>?_⟩
    have:i=k:=by omega
    subst this; omega
  | some c =>
   rw[hb] at h
   have x:=best_some hb
   dsimp only at h
   split at h
   ·rename_i hk
    simp only[Option.some.injEq] at h; subst h
    refine⟨by omega,by omega,hk.1,fun i _ hi hne=>?_,fun i h1 h2 _=>?_⟩
    ·by_cases hic:i<c
     ·have:=x.lt i (by omega) hic hne; omega
     ·have:=x.le i (by omega) hi hne; omega
    ·have:i=k:=by omega
     subst this; omega
   ·rename_i hk
    simp only[Option.some.injEq] at h; subst h
    have:=x.h
    refine⟨by omega,by omega,x.ne,x.lt,fun i h1 h2 hne=>?_⟩
    by_cases hik:i=k
    ·subst hik
     have:¬ (hdE (nth r i)).seq<(hdE (nth r c)).seq:=fun hh=>hk ⟨hne,hh⟩
     omega
    ·exact x.le i h1 (by omega) hne
theorem tot_set {b:Nat}:∀ {r:List (List Evt)},b<r.length→nth r b≠[]→totE (r.set b (nth r b).tail)+1=totE r:=by
 induction b with
 | zero =>
  intro r hb hn
  cases r with
  | nil=>simp at hb
  | cons l r =>
   simp only[nth,List.getD_cons_zero] at hn ⊢
   cases l with
   | nil=>exact absurd rfl hn
   | cons x l=>simp[totE]; omega
 | succ b ih =>
  intro r hb hn
  cases r with
  | nil=>simp at hb
  | cons l r =>
   simp only[nth,List.getD_cons_succ,List.set_cons_succ] at hn ⊢
   have:=ih (r:=r) (by simpa using hb) hn
   simp only[nth] at this
   simp[totE] at this ⊢; omega
theorem merge_none {r:List (List Evt)}(h:bestE r r.length=none):mergeE r=[]:=by
 unfold mergeE
 cases totE r with
 | zero=>rfl
 | succ n=>simp[mergeF,h]
theorem merge_some {r:List (List Evt)}{b:Nat}(h:bestE r r.length=some b):mergeE r=hdE (nth r b)::mergeE (r.set b (nth r b).tail):=by
 have x:=best_some h
 have ht:=tot_set x.h x.ne
 unfold mergeE
 rw[← ht]
 simp only[mergeF,h]
theorem tot_zero {r:List (List Evt)}:totE r=0↔∀ i,nth r i=[]:=by
 unfold totE nth
 induction r with
 | nil=>simp
 | cons l r ih =>
  simp only[List.map_cons,List.sum_cons]
  constructor
  ·intro h i
   have h1:l.length=0:=by omega
   cases i with
   | zero=>simpa using h1
   | succ i=>simpa using (ih.1 (by omega)) i
  ·intro h
   have h1:=h 0
   have h2:=ih.2 fun i=>by simpa using h (i+1)
   simp at h1; simp[h1]; omega
structure Tbl where
 c:Cfg
 t:Tm
 n:Nat
 bk:Nat→Book
 fd:Nat→Feed
def rep0:Reply:=⟨0,[],[],false⟩
def repE (e:Int):Reply:=⟨e,[],[],false⟩
def bset {α:Type}(f:Nat→α)(i:Nat)(x:α):Nat→α:=fun k=>if k=i then x else f k
def Tbl.stripe (M:Tbl)(u:ByteArray):Nat:=(stripeOf u M.c.stripes).toNat
def Tbl.take (M:Tbl):Tbl:={ M with t:={ M.t with seq:=addU M.t.seq 1 } }
def Tbl.tick (M:Tbl)(b:Int):Tbl:={ M with t:={ M.t with now:=addU M.t.now b } }
def Tbl.sweepAt (M:Tbl)(s:Nat)(t:Tm):Tbl:={ M with bk:=bset M.bk s (sweepB (M.bk s) t.now).1,fd:=bset M.fd s ((M.fd s).tell (sweepB (M.bk s) t.now).2 t.seq) }
def Tbl.sweep (M:Tbl)(s:Int):Tbl:=if 0≤s∧s<M.n then M.take.sweepAt s.toNat M.take.t else M
def Tbl.writeAt (M:Tbl)(s:Nat)(x:OpD)(t:Tm):Tbl:={ M with bk:=bset M.bk s (writeB (M.bk s) x t.now M.c.sessions).1,fd:=bset M.fd s ((M.fd s).tell (writeB (M.bk s) x t.now M.c.sessions).2.1 t.seq) }
def Tbl.write (M:Tbl)(x:OpD):Tbl × Reply :=
 if M.t.closed then (M.take,repE 5) else (M.take.writeAt (M.stripe x.user) x M.take.t,repE (writeB (M.bk (M.stripe x.user)) x M.t.now M.c.sessions).2.2)
def Tbl.count (M:Tbl)(who:Int):Nat:=((List.range M.n).map fun s=>(M.fd s).count who).sum
def Tbl.fed (M:Tbl)(s:Nat)(f:Feed):Tbl:={ M with fd:=bset M.fd s f }
def Tbl.watch (M:Tbl)(who:Int)(u:ByteArray):Tbl × Reply :=
 if (M.fd (M.stripe u)).watching who u=false∧M.c.watches≤M.count who then (M,repE 4) else (M.fed (M.stripe u) ((M.fd (M.stripe u)).watch who u),rep0)
def Tbl.drainTo (M:Tbl)(who:Int)(k:Nat):Tbl:={ M with fd:=fun s=>if s<k then (M.fd s).drain who else M.fd s }
def Tbl.lostTo (M:Tbl)(who:Int)(k:Nat):Bool:=(List.range k).any fun s=>(M.fd s).lost who
def Tbl.toldTo (M:Tbl)(who:Int)(k:Nat):List (List Evt):=(List.range k).map fun s=>(M.fd s).told who
def Tbl.poll (M:Tbl)(who:Int):Tbl × Reply:=(M.drainTo who M.n,⟨0,[],mergeE (M.toldTo who M.n),M.lostTo who M.n⟩)
def Tbl.pres (M:Tbl)(u:ByteArray):Pres:=presB (M.bk (M.stripe u)) u M.t.now
def Tbl.do_ (M:Tbl)(who:Int)(x:OpD):Tbl × Reply :=
 if badB x=true∨clientB who=false then (M,repE 1)
 else if x.kind=1∨x.kind=2∨x.kind=3 then M.write x
 else if x.kind=8 then M.poll who
 else if M.t.closed then (M,repE 5)
 else if x.kind=6 then M.watch who x.user
 else if x.kind=7 then (M.fed (M.stripe x.user) ((M.fd (M.stripe x.user)).unwatch who x.user),rep0)
 else if x.kind=9 then ({ M with t:={ M.t with closed:=true } },rep0)
 else (M,⟨0,(usersOf x).map M.pres,[],false⟩)
def tbl0 (c:Cfg)(n:Nat):Tbl:=⟨c,⟨c.start,0,false⟩,n,fun _=>[],fun _=>feed0 c.queue⟩
def Hall.tbl (H:Hall):Tbl:=⟨H.c,H.t,H.n,fun s=>(H.ss s).book,fun s=>(H.ss s).feed⟩
structure TS (m:Nat)(M:Tbl):Prop where
 rt:rightB M.c=true
 cw:CfgW M.c
 nn:(M.n:Int)=M.c.stripes
 bk:∀ s,s<M.n→BkM m (M.bk s)
 fd:∀ s,s<M.n→FdM m (M.fd s)
 tn:U64 M.t.now
 ts:U64 M.t.seq
theorem TS.mono {m k:Nat}{M:Tbl}(x:TS m M)(h:m≤k):TS k M:=⟨x.rt,x.cw,x.nn,fun s hs=>(x.bk s hs).mono h,fun s hs=>(x.fd s hs).mono h,x.tn,x.ts⟩
theorem stripeOf_lt {u:ByteArray}{n:Int}(h:1≤n):0≤stripeOf u n∧stripeOf u n<n:=by
 have:=fnv_rng u
 unfold stripeOf
 rw[if_neg (by omega)]
 exact⟨Int.emod_nonneg _ (by omega),Int.emod_lt_of_pos _ (by omega)⟩
theorem TS.stripe {m:Nat}{M:Tbl}(x:TS m M)(u:ByteArray):M.stripe u<M.n:=by
 have h1:=x.rt; have h2:=x.nn
 simp only[rightB,decide_eq_true_eq] at h1
 have:=stripeOf_lt (u:=u) (n:=M.c.stripes) (by omega)
 unfold Tbl.stripe; omega
theorem HS.tbl {m:Nat}{H:Hall}(x:HS m H):TS m H.tbl:=⟨x.rt,x.cw,x.nn,fun s hs=>(x.st s hs).bk,fun s hs=>(x.st s hs).fd,x.tn,x.ts⟩
end Go.Den
namespace Go.Den
open Go
set_option linter.unusedVariables false
set_option linter.unusedSimpArgs false
def Lv (b:Book)(now:Int):Prop:=∀ x∈b,∀ s∈x.2.ss,now<s.un
end Go.Den
namespace Go.Den
open Go
set_option linter.unusedVariables false
set_option linter.unusedSimpArgs false
abbrev Mine:=List ByteArray
def miset (m:Mine)(u:ByteArray)(on:Bool):Mine:=(m.filter fun k=>!decide (k=u))++if on then [u] else []
def mhas (m:Mine)(u:ByteArray):Bool:=m.any fun k=>decide (k=u)
theorem mhas_iff {m:Mine}{u:ByteArray}:mhas m u=true↔u∈m:=by simp[mhas]
structure HP where
 who:Int
 x:OpD
 k:Nat
 s:Nat
 at_:Nat
 t:Tm
 placed:Int
 rep:Reply
 all:List (List Evt)
def HP.one (p:HP):Bool:=badB p.x || decide (p.x.kind=9)
def HP.steps (p:HP):Nat:=if p.one then 1 else if p.x.kind=8 then 3*p.k+1 else 4
def HP.done (p:HP):Bool:=decide (p.steps≤p.at_)
def HP.needs (p:HP):Int:=if p.one then -1 else if p.x.kind=8 then (if p.at_<p.k then p.at_ else -1) else if p.at_=0 then p.s else -1
def HP.enabled (p:HP)(H:Hall):Bool:=!p.done && (decide (p.needs<0) || decide ((H.ss p.needs.toNat).who=0))
def hp0 (H:Hall)(who:Int)(x:OpD):HP:=⟨who,x,H.n,(stripeOf x.user H.c.stripes).toNat,0,⟨0,0,false⟩,-1,rep0,[]⟩
def HP.stpP (p:HP)(H:Hall)(n:Int):HP × Hall :=
 if p.at_<p.k then ({ p with at_:=p.at_+1 },H.lock p.who p.at_)
 else if p.at_=p.k then ({ p with at_:=p.at_+1,t:=H.t,placed:=n },H.look p.who)
 else if p.at_≤2*p.k then
  ({ p with at_:=p.at_+1,all:=p.all++[(H.ss (p.at_-p.k-1)).feed.told p.who],rep:={ p.rep with lost:=p.rep.lost || (H.ss (p.at_-p.k-1)).feed.lost p.who } },H.drain p.who (p.at_-p.k-1))
 else ({ p with at_:=p.at_+1,rep:={ p.rep with evs:=mergeE p.all } },H.unlock p.who (p.at_-2*p.k-1))
def HP.stpW (p : HP) (m : Mine) (H : Hall) (n : Int) : HP × Mine × Hall :=
  if p.at_ = 0 then ({ p with at_ := 1 }, m, H.lock p.who p.s)
  else if p.at_ = 1 then ({ p with at_ := 2, t := H.t, placed := n }, m, H.look p.who)
  else if p.at_ = 2 then
    (if p.t.closed then ({ p with at_ := 3, rep := { p.rep with err := 5 } }, m, H)
     else if p.x.kind = 6 ∧ mhas m p.x.user = false ∧ H.c.watches ≤ m.length then ({ p with at_ := 3, rep := { p.rep with err := 4 } }, m, H)
     else ({ p with at_ := 3 }, miset m p.x.user (decide (p.x.kind = 6)), H.watch p.who p.s p.x.user (decide (p.x.kind = 6))))
  else ({ p with at_ := p.at_ + 1 }, m, H.unlock p.who p.s)
def HP.stp (p:HP)(m:Mine)(H:Hall)(n:Int):HP × Mine × Hall :=
 if badB p.x then ({ p with at_:=1,placed:=n,rep:={ p.rep with err:=1 } },m,H)
 else if p.x.kind=9 then ({ p with at_:=1,placed:=n,rep:=if H.t.closed then { p.rep with err:=5 } else p.rep },m,H.shut p.who)
 else if p.x.kind=8 then ((p.stpP H n).1,m,(p.stpP H n).2)
 else p.stpW m H n
def HP.step (p:HP)(m:Mine)(H:Hall)(n:Int):HP × Mine × Hall:=if p.enabled H=true then p.stp m H n else (p,m,H)
structure HPG (n:Nat)(p:HP):Prop where
 k:p.k=n
 s:p.s<n
 w:-1≤p.who∧p.who≤900
 o:OpW p.x
 a:p.at_≤p.steps
theorem HP.lt_of_en {p:HP}{H:Hall}(h:p.enabled H=true):p.at_<p.steps:=by
 simp[HP.enabled,HP.done] at h; omega
theorem HP.kind_of {p:HP}(h1:badB p.x=false)(h2:p.x.kind≠9)(h3:p.x.kind≠8):p.one=false∧p.steps=4:=by
 have:p.one=false:=by simp[HP.one,h1,h2]
 exact⟨this,by simp[HP.steps,this,h3]⟩
theorem HP.poll_of {p:HP}(h1:badB p.x=false)(h3:p.x.kind=8):p.one=false∧p.steps=3*p.k+1:=by
 have:p.one=false:=by simp[HP.one,h1,h3]
 exact⟨this,by simp[HP.steps,this,h3]⟩
theorem HS.hstep {m:Nat}{H:Hall}(x:HS m H){p:HP}(g:HPG H.n p)(M:Mine)(n:Int):HS (m+1) (p.step M H n).2.2:=by
 unfold HP.step
 split
 ·rename_i he
  have hl:=HP.lt_of_en he
  unfold HP.stp
  split
  ·exact x.mono (by omega)
  rename_i hb
  have hb:badB p.x=false:=by simpa using hb
  split
  ·exact x.shut _
  rename_i h9
  split
  ·rename_i h8
   obtain⟨_,hst⟩:=HP.poll_of hb h8
   have hk:=g.k
   unfold HP.stpP
   split
   ·exact x.lock (by omega) g.w.2
   split
   ·exact x.look _
   split
   ·exact x.drain (by omega)
   ·exact x.unlock (by omega)
  ·rename_i h8
   unfold HP.stpW
   split
   ·exact x.lock g.s g.w.2
   split
   ·exact x.look _
   split
   ·split
    ·exact x.mono (by omega)
    split
    ·exact x.mono (by omega)
    ·exact x.watch g.s g.o.s1 _
   ·exact x.unlock g.s
 ·exact x.mono (by omega)
theorem hstep_n (p:HP)(M:Mine)(H:Hall)(n:Int):(p.step M H n).2.2.n=H.n∧(p.step M H n).2.2.c=H.c:=by
 have hl:=fun w s=>lock_n H w s
 have hu:=fun w s=>unlock_n H w s
 unfold HP.step
 split
 ·unfold HP.stp
  split
  ·exact⟨rfl,rfl⟩
  split
  ·exact⟨rfl,rfl⟩
  split
  ·unfold HP.stpP
   split
   ·exact⟨(hl _ _).1,(hl _ _).2.1⟩
   split
   ·exact⟨rfl,rfl⟩
   split
   ·exact⟨rfl,rfl⟩
   ·exact⟨(hu _ _).1,(hu _ _).2.1⟩
  ·unfold HP.stpW
   split
   ·exact⟨(hl _ _).1,(hl _ _).2.1⟩
   split
   ·exact⟨rfl,rfl⟩
   split
   ·split
    ·exact⟨rfl,rfl⟩
    split<;>exact⟨rfl,rfl⟩
   ·exact⟨(hu _ _).1,(hu _ _).2.1⟩
 ·exact⟨rfl,rfl⟩
theorem hstep_k (p:HP)(M:Mine)(H:Hall)(n:Int):(p.step M H n).1.who=p.who∧(p.step M H n).1.x=p.x∧(p.step M H n).1.k=p.k∧(p.step M H n).1.s=p.s:=by
 unfold HP.step
 split
 ·unfold HP.stp
  split
  ·exact⟨rfl,rfl,rfl,rfl⟩
  split
  ·exact⟨rfl,rfl,rfl,rfl⟩
  split
  ·unfold HP.stpP
   split
   ·exact⟨rfl,rfl,rfl,rfl⟩
   split
   ·exact⟨rfl,rfl,rfl,rfl⟩
   split<;>exact⟨rfl,rfl,rfl,rfl⟩
  ·unfold HP.stpW
   split
   ·exact⟨rfl,rfl,rfl,rfl⟩
   split
   ·exact⟨rfl,rfl,rfl,rfl⟩
   split
   ·split
    ·exact⟨rfl,rfl,rfl,rfl⟩
    split<;>exact⟨rfl,rfl,rfl,rfl⟩
   ·exact⟨rfl,rfl,rfl,rfl⟩
 ·exact⟨rfl,rfl,rfl,rfl⟩
theorem hstep_at (p:HP)(M:Mine)(H:Hall)(n:Int):(p.step M H n).1.at_=if p.enabled H=true then p.at_+1 else p.at_:=by
 unfold HP.step
 split
 ·rename_i he
  have hl:=HP.lt_of_en he
  unfold HP.stp
  split
  ·rename_i hb
   have:p.steps=1:=by simp[HP.steps,HP.one,hb]
   show 1=_; omega
  rename_i hb
  split
  ·rename_i h9
   have:p.steps=1:=by simp[HP.steps,HP.one,h9]
   show 1=_; omega
  split
  ·unfold HP.stpP
   split
   ·rfl
   split
   ·rfl
   split<;>rfl
  ·unfold HP.stpW
   split
   ·rename_i h; show 1=_; omega
   split
   ·rename_i h; show 2=_; omega
   split
   ·rename_i h
    split
    ·show 3=_; omega
    split
    ·show 3=_; omega
    ·show 3=_; omega
   ·rfl
 ·rfl
theorem HPG.step {p:HP}{n0:Nat}{H:Hall}(g:HPG n0 p)(M:Mine)(n:Int):HPG n0 (p.step M H n).1:=by
 obtain⟨k1,k2,k3,k4⟩:=hstep_k p M H n
 have ha:=hstep_at p M H n
 have hs:(p.step M H n).1.steps=p.steps:=by unfold HP.steps HP.one; rw[k2,k3]
 refine⟨by rw[k3]; exact g.k,by rw[k4]; exact g.s,by rw[k1]; exact g.w,by rw[k2]; exact g.o,?_⟩
 rw[ha,hs]
 split
 ·rename_i he; have:=HP.lt_of_en he; omega
 ·exact g.a
end Go.Den
namespace Go.Den
open Go
set_option linter.unusedVariables false
set_option linter.unusedSimpArgs false
def WK.bf (k:WK)(c:Cfg)(t:Tm)(x:Book × Feed):Book × Feed:=match k with
 | .bad=>x
 | .op o=>if t.closed then x else ((writeB x.1 o t.now c.sessions).1,x.2.tell (writeB x.1 o t.now c.sessions).2.1 t.seq)
 | .sweep=>((sweepB x.1 t.now).1,x.2.tell (sweepB x.1 t.now).2 t.seq)
def bfH (H:Hall)(s:Nat):Book × Feed:=((H.ss s).book,(H.ss s).feed)
theorem run_bf (k:WK)(H:Hall)(who:Int)(s:Nat)(t:Tm)(s':Nat):bfH (k.run H who s t).1 s'=if s'=s then k.bf H.c t (bfH H s) else bfH H s':=by
 by_cases h:s'=s
 ·subst h
  cases k with
  | bad=>simp[WK.run,WK.bf]
  | op o=>simp only[WK.run,Hall.write,WK.bf,if_true]; split<;>simp[bfH,Hall.put,sput,Hall.wr,Hall.did]
  | sweep=>simp[WK.run,Hall.sweep,WK.bf,bfH,Hall.put,sput,Hall.wr,Hall.did]
 ·cases k with
  | bad=>simp[WK.run,h]
  | op o=>simp only[WK.run,Hall.write]; split<;>simp[bfH,Hall.put,sput,Hall.wr,Hall.did,h]
  | sweep=>simp[WK.run,Hall.sweep,bfH,Hall.put,sput,Hall.wr,Hall.did,h]
theorem run_ss (k:WK)(H:Hall)(who:Int)(s:Nat)(t:Tm)(s':Nat):((k.run H who s t).1.ss s').who=(H.ss s').who∧((k.run H who s t).1.ss s').v=(H.ss s').v∧((k.run H who s t).1.ss s').bound=(H.ss s').bound∧((k.run H who s t).1.ss s').snap=(H.ss s').snap∧(k.run H who s t).1.t=H.t:=by
 have key:∀ (y:Strp) (H':Hall),H'.ss=H.ss→H'.t=H.t→y.who=(H.ss s).who→y.v=(H.ss s).v→y.bound=(H.ss s).bound→y.snap=(H.ss s).snap→((H'.put s y).ss s').who=(H.ss s').who∧((H'.put s y).ss s').v=(H.ss s').v∧((H'.put s y).ss s').bound=(H.ss s').bound∧((H'.put s y).ss s').snap=(H.ss s').snap∧(H'.put s y).t=H.t:=by
  intro y H' e1 e2 h1 h2 h3 h4
  simp only[Hall.put,sput,e1,e2]
  by_cases h:s'=s
  ·subst h; simp[h1,h2,h3,h4]
  ·simp[h]
 cases k with
 | bad=>exact⟨rfl,rfl,rfl,rfl,rfl⟩
 | op o =>
  simp only[WK.run,Hall.write]
  split
  ·exact⟨rfl,rfl,rfl,rfl,rfl⟩
  ·exact key _ _ rfl rfl rfl rfl rfl rfl
 | sweep=>exact key _ _ rfl rfl rfl rfl rfl rfl
inductive PR where
 | w (p:WP)
 | r (p:RP)
 | h (p:HP)
def PR.done:PR→Bool
 | .w p=>p.done
 | .r p=>decide (p.ph=8)
 | .h p=>p.done
def PR.rep:PR→Reply
 | .w p=>if p.done then repE p.err else rep0
 | .r p=>if p.ph=8 then ⟨p.err,p.vals,[],false⟩ else rep0
 | .h p=>if p.done then p.rep else rep0
def PR.enabled:PR→Hall→Bool
 | .w p,H=>p.enabled H
 | .r p,H=>p.enabled H
 | .h p,H=>p.enabled H
def PR.step:PR→Mine→Hall→Int→PR × Mine × Hall
 | .w p,m,H,n=>(.w (p.step H n).1,m,(p.step H n).2)
 | .r p,m,H,n=>(.r (p.step H n).1,m,(p.step H n).2)
 | .h p,m,H,n=>(.h (p.step m H n).1,(p.step m H n).2.1,(p.step m H n).2.2)
def WP.holds (p:WP)(s:Nat):Prop:=p.k.isBad=false∧1≤p.at_∧p.at_≤6∧s=p.s
def RP.holds (p:RP)(s:Nat):Prop:=(p.ph=4∧s∈p.ss.take p.at_)∨((p.ph=5∨p.ph=6)∧s∈p.ss)∨(p.ph=7∧s∈p.ss.drop p.at_)
def HP.holds (p:HP)(s:Nat):Prop:=p.one=false∧if p.x.kind=8 then s<p.at_∧s<p.k∧p.at_≤2*p.k+1+s else 1≤p.at_∧p.at_≤3∧s=p.s
def PR.holds:PR→Nat→Prop
 | .w p=>p.holds
 | .r p=>p.holds
 | .h p=>p.holds
def WP.pend (p:WP)(c:Cfg)(s:Nat)(x:Book × Feed):Book × Feed:=if p.at_=3∧s=p.s then p.k.bf c p.t x else x
def HP.wres (p:HP)(m:Mine)(c:Cfg):Int:=if p.t.closed then 5 else if p.x.kind=6∧mhas m p.x.user=false∧c.watches≤m.length then 4 else 0
def HP.wfd (p:HP)(f:Feed):Feed:=if decide (p.x.kind=6) then f.watch p.who p.x.user else f.unwatch p.who p.x.user
def HP.pend (p:HP)(m:Mine)(c:Cfg)(s:Nat)(x:Book × Feed):Book × Feed :=
 if p.one then x else if p.x.kind=8 then (if p.k<p.at_∧p.at_≤p.k+1+s then (x.1,x.2.drain p.who) else x)
 else if p.at_=2∧s=p.s∧p.wres m c=0 then (x.1,p.wfd x.2) else x
def PR.pend:PR→Mine→Cfg→Nat→Book × Feed→Book × Feed
 | .w p,_,c,s,x=>p.pend c s x
 | .r _,_,_,_,x=>x
 | .h p,m,c,s,x=>p.pend m c s x
def HP.em (p:HP)(m:Mine)(c:Cfg):Mine:=if p.one=false∧p.x.kind≠8∧p.at_=2∧p.wres m c=0 then miset m p.x.user (decide (p.x.kind=6)) else m
def PR.em:PR→Mine→Cfg→Mine
 | .w _,m,_=>m
 | .r _,m,_=>m
 | .h p,m,c=>p.em m c
def WP.places (p:WP):Bool:=p.k.isBad || decide (p.at_=2)
def HP.places (p:HP):Bool:=p.one || if p.x.kind=8 then decide (p.at_=p.k) else decide (p.at_=1)
def PR.places:PR→Bool
 | .w p=>p.places
 | .r _=>false
 | .h p=>p.places
def WK.bef (k:WK)(s:Nat)(M:Tbl):Tbl × Reply:=match k with
 | .bad=>(M,repE 1)
 | .op x=>M.write x
 | .sweep=>(M.sweep s,rep0)
def PR.bef:PR→Tbl→Tbl × Reply
 | .w p,M=>p.k.bef p.s M
 | .r _,M=>(M,rep0)
 | .h p,M=>M.do_ p.who p.x
structure Wd where
 H:Hall
 ps:Nat→Option PR
 ms:Nat→Mine
def Wd.pend (W:Wd)(s:Nat):Book × Feed :=
 if (W.H.ss s).who=0 then bfH W.H s else match W.ps ((W.H.ss s).who-1).toNat with
  | some p=>p.pend (W.ms ((W.H.ss s).who-1).toNat) W.H.c s (bfH W.H s)
  | none=>bfH W.H s
def Wd.em (W:Wd)(i:Nat):Mine:=match W.ps i with
 | some p=>p.em (W.ms i) W.H.c
 | none=>W.ms i
def Wd.step (W:Wd)(i:Nat)(n:Int):Wd:=match W.ps i with
 | some p=>⟨(p.step (W.ms i) W.H n).2.2,bset W.ps i (some (p.step (W.ms i) W.H n).1),bset W.ms i (p.step (W.ms i) W.H n).2.1⟩
 | none=>W
end Go.Den
namespace Go.Den
open Go
set_option linter.unusedVariables false
set_option linter.unusedSimpArgs false
structure Free (x:Strp)(y:Book × Feed):Prop where
 wh:x.who=0
 e:y=(x.book,x.feed)
 v:wrt x.v=false
 q:x.snap=x.book
def PR.mid:PR→Nat→Prop
 | .w p,s=>p.k.isBad=false∧2≤p.at_∧p.at_≤5∧s=p.s
 | .r _,_=>False
 | .h _,_=>False
def PR.at5:PR→Prop
 | .w p=>p.at_=5
 | .r _=>False
 | .h _=>False
structure Held (p:PR)(m:Mine)(c:Cfg)(s:Nat)(x:Strp)(y:Book × Feed):Prop where
 e:y=p.pend m c s (x.book,x.feed)
 v:p.mid s→wrt x.v=true∨x.bound≤x.v
 q:¬ p.mid s→wrt x.v=false∧x.snap=x.book
 f:p.at5→x.snap=x.book
def Tbl.st (M:Tbl)(s:Nat):Book × Feed:=(M.bk s,M.fd s)
structure Loc (i:Nat)(p p':PR)(m m':Mine)(H H':Hall)(M M':Tbl)(s:Nat):Prop where
 a:p.holds s→(H.ss s).who=i+1→Held p m H.c s (H.ss s) (M.st s)→(p'.holds s∧(H'.ss s).who=i+1∧Held p' m' H.c s (H'.ss s) (M'.st s))∨(¬ p'.holds s∧Free (H'.ss s) (M'.st s))
 b:¬ p.holds s→(H'.ss s=H.ss s∧M'.st s=M.st s∧¬ p'.holds s) ∨
  ((H.ss s).who=0∧M'.st s=M.st s∧p'.holds s∧H'.ss s={ H.ss s with who:=i+1 }∧¬ p'.mid s∧¬ p'.at5∧∀ x,p'.pend m' H.c s x=x)
theorem Loc.same {i:Nat}{p p':PR}{m m':Mine}{H H':Hall}{M M':Tbl}{s:Nat}(h1:H'.ss s=H.ss s)(h2:M'.st s=M.st s)(h3:p'.holds s↔p.holds s)(h4:p'.mid s↔p.mid s)(h5:p'.at5→p.holds s→(H.ss s).snap=(H.ss s).book)
  (h6:p.holds s→∀ x,p'.pend m' H.c s x=p.pend m H.c s x):Loc i p p' m m' H H' M M' s:=by
 refine⟨fun a b c=>.inl ⟨h3.2 a,by rw[h1]; exact b,?_⟩,fun a=>.inl ⟨h1,h2,fun h=>a (h3.1 h)⟩⟩
 rw[h1,h2]
 exact⟨by rw[h6 a]; exact c.e,fun h=>c.v (h4.1 h),fun h=>c.q fun hh=>h (h4.2 hh),fun h=>h5 h a⟩
theorem lock_ss {H:Hall}{w:Int}{s:Nat}(hw:0≤w)(h:(H.ss s).who=0)(s':Nat):(H.lock w s).ss s'=if s'=s then { H.ss s with who:=w+1 } else H.ss s':=by
 have hc:canTake (H.ss s).who w=true:=by simp[canTake,hw,h]
 simp only[Hall.lock,hc,if_true,Hall.put,sput]; rfl
theorem unlock_ss {H:Hall}{w:Int}{s:Nat}(hw:0≤w)(h:(H.ss s).who=w+1)(s':Nat):(H.unlock w s).ss s'=if s'=s then { H.ss s with who:=0 } else H.ss s':=by
 have hc:canGive (H.ss s).who w=true:=by simp[canGive,h]; omega
 simp only[Hall.unlock,hc,if_true,Hall.put,sput]; rfl
theorem lock_t (H:Hall)(w:Int)(s:Nat):(H.lock w s).t=H.t:=by unfold Hall.lock; split<;>rfl
theorem unlock_t (H:Hall)(w:Int)(s:Nat):(H.unlock w s).t=H.t:=by unfold Hall.unlock; split<;>rfl
structure WA (i:Nat)(p:WP)(c:Cfg):Prop where
 w:p.who=i
 a:p.at_≤7
 s:∀ x,p.k = .op x→p.s=(stripeOf x.user c.stripes).toNat
theorem bef_st {k:WK}{s:Nat}{M:Tbl}(hk:k.isBad=false)(hs:∀ x,k = .op x→s=M.stripe x.user)(hn:s<M.n)(s':Nat):(k.bef s M).1.st s'=if s'=s then k.bf M.c M.take.t (M.st s) else M.st s':=by
 cases k with
 | bad=>simp[WK.isBad] at hk
 | op x =>
  have e:=hs x rfl
  have hc:M.take.t.closed=M.t.closed:=rfl
  simp only[WK.bef,Tbl.write,WK.bf,hc]
  rw[← e]
  by_cases h:s'=s
  ·subst h
   split<;>simp[Tbl.st,Tbl.take,Tbl.writeAt,bset]
  ·split<;>simp[Tbl.st,Tbl.take,Tbl.writeAt,bset,h]
 | sweep =>
  have hc:(0:Int)≤s∧(s:Int)<M.n:=by omega
  simp only[WK.bef,Tbl.sweep,hc,and_self,if_true,Int.toNat_natCast,WK.bf]
  by_cases h:s'=s
  ·subst h; simp[Tbl.st,Tbl.take,Tbl.sweepAt,bset]
  ·simp[Tbl.st,Tbl.take,Tbl.sweepAt,bset,h]
theorem bef_t {k:WK}{s:Nat}{M:Tbl}(hk:k.isBad=false)(hn:s<M.n):(k.bef s M).1.t=M.take.t∧(k.bef s M).1.c=M.c∧(k.bef s M).1.n=M.n:=by
 cases k with
 | bad=>simp[WK.isBad] at hk
 | op x=>simp only[WK.bef,Tbl.write]; split<;>exact⟨rfl,rfl,rfl⟩
 | sweep =>
  have hc:(0:Int)≤s∧(s:Int)<M.n:=by omega
  simp only[WK.bef,Tbl.sweep,hc,and_self,if_true]; exact⟨rfl,rfl,rfl⟩
def PR.tb (p:PR)(H:Hall)(M:Tbl):Tbl:=if p.enabled H=true∧p.places=true then (p.bef M).1 else M
theorem WP.not_holds {p:WP}{s:Nat}(h:s≠p.s):¬ p.holds s:=fun hh=>h hh.2.2.2
theorem wloc {i:Nat}{p:WP}{m k:Nat}{ms:Mine}{H:Hall}{M:Tbl}(hs:HS k H)(g:WG H.n p)(a:WA i p H.c)(ht:M.t=H.t)(hc:M.c=H.c)(hn:M.n=H.n)(n:Int){s:Nat}(hs8:s<H.n)(he:p.enabled H=true) :
  Loc i (.w p) ((PR.w p).step ms H n).1 ms ms H ((PR.w p).step ms H n).2.2 M ((PR.w p).tb H M) s:=by
 have hl:=enabled_at he
 have hw:=a.w
 by_cases hb:p.k.isBad=true
 ·have e1:p.step H n=({ p with err:=1,placed:=n,at_:=7 },H):=by simp[WP.step,he,hb]
  have e2:(PR.w p).tb H M=M:=by
   have:p.k = .bad:=by cases hk:p.k<;>simp[hk,WK.isBad] at hb ⊢
   simp[PR.tb,PR.bef,this,WK.bef]
  have e3:(PR.w p).step ms H n=(.w { p with err:=1,placed:=n,at_:=7 },ms,H):=by simp[PR.step,e1]
  rw[e2,e3]
  exact Loc.same rfl rfl ⟨fun h=>by have:=h.1; simp[hb] at this,fun h=>by have:=h.1; simp[hb] at this⟩ ⟨fun h=>by have:=h.1; simp[hb] at this,fun h=>by have:=h.1; simp[hb] at this⟩ (fun h=>by simp[PR.at5] at h) (fun h=>by have:=h.1; simp[hb] at this)
 have hb:p.k.isBad=false:=by simpa using hb
 have e1:p.step H n=p.stp H n:=by simp[WP.step,he,hb]
 have e3:(PR.w p).step ms H n=(.w (p.stp H n).1,ms,(p.stp H n).2):=by simp[PR.step,e1]
 have e2:p.at_≠2→(PR.w p).tb H M=M:=fun h=>by simp[PR.tb,PR.places,WP.places,hb,h]
 rw[e3]
 have st:=hs.st p.s g.s
 by_cases h0:p.at_=0
 ·rw[e2 (by omega),stp0 H n h0]
  have hwh:(H.ss p.s).who=0:=by
   simp[WP.enabled,WP.waits,hb,h0] at he
   rcases he.2 with h | h
   ·omega
   ·exact h
  have hls:=lock_ss (H:=H) (w:=p.who) (s:=p.s) (by omega) hwh s
  by_cases hss:s=p.s
  ·subst hss
   rw[if_pos rfl] at hls
   refine⟨fun h=>?_,fun h=>.inr ⟨hwh,rfl,⟨hb,by simp,by simp,rfl⟩,by rw[hls,hw],fun h=>by have:=h.2.1; simp at this,fun h=>by simp[PR.at5] at h,fun x=>by simp[PR.pend,WP.pend]⟩⟩
   have:=h.2.1; omega
  ·rw[if_neg hss] at hls
   exact Loc.same hls rfl ⟨fun h=>absurd h (WP.not_holds hss),fun h=>absurd h (WP.not_holds hss)⟩ ⟨fun h=>absurd h.2.2.2 hss,fun h=>absurd h.2.2.2 hss⟩ (fun h=>by simp[PR.at5] at h) (fun h=>absurd h (WP.not_holds hss))
 by_cases hss:s=p.s
 rotate_left
 ·-- another stripe
  have nh:¬ (PR.w p).holds s:=WP.not_holds hss
  obtain⟨k1,k2,k3⟩:=stp_k p H n
  have nh':¬ (PR.w (p.stp H n).1).holds s:=WP.not_holds (by rw[k3]; exact hss)
  refine⟨fun h=>absurd h nh,fun _=>.inl ⟨?_,?_,nh'⟩⟩
  ·by_cases h1:p.at_=1
   ·rw[stp1 H n h1]; simp[Hall.begin,Hall.put,sput,hss,Hall.did]
   by_cases h2:p.at_=2
   ·rw[stp2 H n h2]; rfl
   by_cases h3:p.at_=3
   ·rw[stp3 H n h3]
    have:∀ (k:WK),(k.run H p.who p.s p.t).1.ss s=H.ss s:=fun k=>by
     cases k with
     | bad=>rfl
     | op o=>simp only[WK.run,Hall.write]; split<;>simp[Hall.put,sput,Hall.wr,Hall.did,hss]
     | sweep=>simp[WK.run,Hall.sweep,Hall.put,sput,Hall.wr,Hall.did,hss]
    exact this p.k
   by_cases h4:p.at_=4
   ·rw[stp4 H n h4]; simp[Hall.pub,Hall.put,sput,hss,Hall.did]
   by_cases h5:p.at_=5
   ·rw[stp5 H n h5]; simp[Hall.end_,Hall.put,sput,hss,Hall.did]
   ·rw[stp6 H n (by omega)]
    simp only[Hall.unlock]
    split
    ·simp[Hall.put,sput,hss,Hall.did]
    ·rfl
  ·by_cases h2:p.at_=2
   ·have e4:(PR.w p).tb H M=(p.k.bef p.s M).1:=by simp[PR.tb,PR.places,WP.places,PR.enabled,he,h2,PR.bef]
    rw[e4,bef_st hb (fun x hx=>by rw[a.s x hx,← hc]; rfl) (by rw[hn]; exact g.s),if_neg hss]
   ·rw[e2 h2]
 subst hss
 have ho:(PR.w p).holds p.s:=⟨hb,by omega,by omega,rfl⟩
 refine⟨fun _ hwho hd=>?_,fun h=>absurd ho h⟩
 by_cases h1:p.at_=1
 ·rw[e2 (by omega),stp1 H n h1]
  have hq:=hd.q fun h=>by have:=h.2.1; omega
  have hss:(H.begin p.who p.s).ss p.s={ H.ss p.s with v:=bgn (H.ss p.s).v (H.ss p.s).bound }:=by simp[Hall.begin,Hall.put,sput,Hall.did]
  refine .inl ⟨⟨hb,by simp,by simp,rfl⟩,by rw[hss]; exact hwho,?_⟩
  rw[hss]
  refine⟨?_,fun _=>?_,fun h=>absurd ⟨hb,by simp,by simp,rfl⟩ h,fun h=>by simp[PR.at5] at h⟩
  ·have:=hd.e; simpa [PR.pend,WP.pend,h1] using this
  ·have hv:=hq.1
   dsimp only
   unfold bgn
   by_cases hlt:(H.ss p.s).v<(H.ss p.s).bound
   ·left; rw[if_pos ⟨hlt,hv⟩]; simp[wrt] at hv ⊢; omega
   ·right; rw[if_neg (fun h=>hlt h.1)]; omega
 by_cases h2:p.at_=2
 ·have e4:(PR.w p).tb H M=(p.k.bef p.s M).1:=by simp[PR.tb,PR.places,WP.places,PR.enabled,he,h2,PR.bef]
  rw[e4,stp2 H n h2,bef_st hb (fun x hx=>by rw[a.s x hx,← hc]; rfl) (by rw[hn]; exact g.s),if_pos rfl]
  refine .inl ⟨⟨hb,by simp,by simp,rfl⟩,hwho,?_,fun _=>hd.v ⟨hb,by omega,by omega,rfl⟩,fun h=>absurd ⟨hb,by simp,by simp,rfl⟩ h,fun h=>by simp[PR.at5] at h⟩
  have he':=hd.e
  simp only[PR.pend,WP.pend,h2] at he'
  have he':M.st p.s=((H.ss p.s).book,(H.ss p.s).feed):=by simpa using he'
  rw[he',hc]
  have htt:M.take.t=(H.take p.who).t:=by simp[Tbl.take,Hall.take,Hall.did,ht]
  rw[htt]
  simp[PR.pend,WP.pend]; rfl
 rw[e2 h2]
 have hmid:2≤p.at_→p.at_≤5→(PR.w p).mid p.s:=fun h h'=>⟨hb,h,h',rfl⟩
 by_cases h3:p.at_=3
 ·rw[stp3 H n h3]
  obtain⟨r1,r2,r3,r4,r5⟩:=run_ss p.k H p.who p.s p.t p.s
  have hbf:=run_bf p.k H p.who p.s p.t p.s
  rw[if_pos rfl] at hbf
  refine .inl ⟨⟨hb,by simp,by simp,rfl⟩,by rw[r1]; exact hwho,?_,fun _=>by dsimp only; rw[r2,r3]; exact hd.v (hmid (by omega) (by omega)),fun h=>absurd ⟨hb,by simp,by simp,rfl⟩ h,fun h=>by simp[PR.at5] at h⟩
  have he':=hd.e
  simp only[PR.pend,WP.pend,h3] at he'
  simp only[bfH] at hbf
  simp[PR.pend,WP.pend,he',hbf]
 by_cases h4:p.at_=4
 ·rw[stp4 H n h4]
  have hss:(H.pub p.who p.s).ss p.s={ H.ss p.s with snap:=(H.ss p.s).book }:=by simp[Hall.pub,Hall.put,sput,Hall.did]
  refine .inl ⟨⟨hb,by simp,by simp,rfl⟩,by rw[hss]; exact hwho,?_⟩
  rw[hss]
  refine⟨?_,fun _=>hd.v (hmid (by omega) (by omega)),fun h=>absurd ⟨hb,by simp,by simp,rfl⟩ h,fun _=>rfl⟩
  have:=hd.e; simpa [PR.pend,WP.pend,h4] using this
 by_cases h5:p.at_=5
 ·rw[stp5 H n h5]
  have hss:(H.end_ p.who p.s).ss p.s={ H.ss p.s with v:=endV (H.ss p.s).v }:=by simp[Hall.end_,Hall.put,sput,Hall.did]
  refine .inl ⟨⟨hb,by simp,by simp,rfl⟩,by rw[hss]; exact hwho,?_⟩
  rw[hss]
  refine⟨?_,fun h=>by have:=h.2.2.1; simp at this,fun _=>⟨?_,hd.f h5⟩,fun h=>by simp[PR.at5] at h⟩
  ·have:=hd.e; simpa [PR.pend,WP.pend,h5] using this
  ·have hv:=hd.v (hmid (by omega) (by omega))
   have h1:=st.v0; have h2:=st.vb
   simp only[endV,wrt] at hv ⊢
   simp at hv ⊢
   split<;>omega
 ·have h6:p.at_=6:=by omega
  rw[stp6 H n (by omega)]
  have hls:=unlock_ss (H:=H) (w:=p.who) (s:=p.s) (by omega) (by rw[hw]; exact hwho) p.s
  rw[if_pos rfl] at hls
  have hq:=hd.q fun h=>by have:=h.2.2.1; omega
  refine .inr ⟨fun h=>by have:=h.2.2.1; simp at this,?_⟩
  rw[hls]
  refine⟨rfl,?_,hq.1,hq.2⟩
  have:=hd.e; simpa [PR.pend,WP.pend,h6] using this
end Go.Den
namespace Go.Den
open Go
set_option linter.unusedVariables false
set_option linter.unusedSimpArgs false
structure RA (i:Nat)(p:RP):Prop where
 w:p.who=i
 nd:p.ss.Nodup
theorem RP.next_cases (p:RP)(ph:Int):(p.at_+1<p.k∧p.next ph={ p with at_:=p.at_+1 })∨(p.k≤p.at_+1∧p.next ph={ p with ph:=ph,at_:=0 }):=by
 by_cases h:p.at_+1<p.k
 ·exact .inl ⟨h,by simp[RP.next,h]⟩
 ·exact .inr ⟨by omega,by simp[RP.next,h]⟩
theorem RP.nh {p:RP}{s:Nat}(h:p.ph≠4)(h5:p.ph≠5)(h6:p.ph≠6)(h7:p.ph≠7):¬ p.holds s:=by
 rintro (h | h | h)
 ·exact absurd h.1 (by omega)
 ·rcases h.1 with h | h<;>omega
 ·exact absurd h.1 (by omega)
theorem take_succ_mem {l:List Nat}{i:Nat}(hi:i<l.length)(s:Nat):s∈l.take (i+1)↔s∈l.take i∨s=l[i]:=by
 rw[List.take_succ_eq_append_getElem hi,List.mem_append,List.mem_singleton]
theorem drop_mem {l:List Nat}{i:Nat}(hi:i<l.length)(s:Nat):s∈l.drop i↔s=l[i]∨s∈l.drop (i+1):=by
 rw[List.drop_eq_getElem_cons hi,List.mem_cons]
theorem nodup_drop {l:List Nat}(nd:l.Nodup){i:Nat}(hi:i<l.length):l[i] ∉ l.drop (i+1):=by
 intro h
 obtain⟨j,hj,e⟩:=List.getElem_of_mem h
 rw[List.getElem_drop] at e
 have:=(List.getElem_inj nd).1 e
 omega
theorem nodup_take {l:List Nat}(nd:l.Nodup){i:Nat}(hi:i<l.length):l[i] ∉ l.take i:=by
 intro h
 obtain⟨j,hj,e⟩:=List.getElem_of_mem h
 rw[List.getElem_take] at e
 have:=(List.getElem_inj nd).1 e
 simp at hj; omega
theorem rloc {i:Nat}{p:RP}{ms:Mine}{H:Hall}{M:Tbl}(rk:RK H.n p)(a:RA i p)(n:Int){s:Nat}(hs8:s<H.n)(he:p.enabled H=true) :
  Loc i (.r p) ((PR.r p).step ms H n).1 ms ms H ((PR.r p).step ms H n).2.2 M ((PR.r p).tb H M) s:=by
 have hw:=a.w
 have e2:(PR.r p).tb H M=M:=by simp[PR.tb,PR.places]
 have e3:(PR.r p).step ms H n=(.r (p.step H n).1,ms,(p.step H n).2):=rfl
 rw[e2,e3]
 -- nothing is changed,and the locks stay
 have triv:∀ (q:RP) (H':Hall),H'.ss s=H.ss s→(q.holds s↔p.holds s)→Loc i (.r p) (.r q) ms ms H H' M M s:=fun q H' h1 h2 =>
  Loc.same h1 rfl h2 (by rfl) (fun h=>h.elim) (fun _ _=>rfl)
 have h8:p.ph≠8:=fun h=>by simp[RP.enabled,h] at he
 by_cases hz:p.ss=[]
 ·have:p.step H n=({ p with err:=1,vals:=[],placed:=n,ph:=8 },H):=by simp[RP.step,he,hz]
  rw[this]
  refine triv _ _ rfl ⟨fun h=>absurd h (RP.nh (by simp) (by simp) (by simp) (by simp)),fun h=>?_⟩
  rcases rk.e0 hz with h0 | h0
  ·exact absurd h (RP.nh (by omega) (by omega) (by omega) (by omega))
  ·exact absurd h0 h8
 have hat:=rk.at_ h8 hz
 have hss:p.s=p.ss[p.at_]'hat:=RP.s_lt hat
 have e1:p.step H n=p.go H n:=by simp[RP.step,he,hz]
 rw[e1]
 have hph:=rk.ph
 have nhof:p.ph≠4→p.ph≠5→p.ph≠6→p.ph≠7→¬ p.holds s:=fun a b c d=>RP.nh a b c d
 -- nothing is held,nor then
 have nn:∀ (q:RP) (H':Hall),H'.ss s=H.ss s→p.ph≠4→p.ph≠5→p.ph≠6→p.ph≠7→¬ q.holds s→Loc i (.r p) (.r q) ms ms H H' M M s:=fun q H' h a b c d e =>
  triv q H' h ⟨fun hh=>absurd hh e,fun hh=>absurd hh (nhof a b c d)⟩
 unfold RP.go
 by_cases h0:p.ph=0
 ·rw[if_pos h0]
  refine nn _ _ rfl (by omega) (by omega) (by omega) (by omega) ?_
  rcases RP.next_cases { p with ep:=epset p.ep p.at_ (H.ss p.s).v,spent:=p.spent || decide (evn H.c.epochs≤(H.ss p.s).v) } 1 with ⟨_,e⟩ | ⟨_,e⟩<;>rw[e]<;>exact RP.nh (by simp; try omega) (by simp; try omega) (by simp; try omega) (by simp; try omega)
 rw[if_neg h0]
 by_cases h1:p.ph=1
 ·rw[if_pos h1]
  refine nn _ _ rfl (by omega) (by omega) (by omega) (by omega) ?_
  rcases RP.next_cases { p with seen:=seenset p.seen p.s (H.ss p.s).snap } 2 with ⟨_,e⟩ | ⟨_,e⟩<;>rw[e]<;>exact RP.nh (by simp; try omega) (by simp; try omega) (by simp; try omega) (by simp; try omega)
 rw[if_neg h1]
 by_cases h2:p.ph=2
 ·rw[if_pos h2]
  exact nn _ _ rfl (by omega) (by omega) (by omega) (by omega) (RP.nh (by simp) (by simp) (by simp) (by simp))
 rw[if_neg h2]
 by_cases h5:p.ph=5
 ·rw[if_pos h5]
  refine triv _ _ rfl ⟨fun h=>?_,fun h=>?_⟩
  ·rcases h with h | h | h
   ·have:=h.1; simp at this
   ·exact .inr (.inl ⟨.inl h5,h.2⟩)
   ·have:=h.1; simp at this
  ·rcases h with h | h | h
   ·have:=h.1; omega
   ·exact .inr (.inl ⟨.inr rfl,h.2⟩)
   ·have:=h.1; omega
 rw[if_neg h5]
 by_cases h3:p.ph=3
 ·rw[if_pos h3]
  refine nn _ _ rfl (by omega) (by omega) (by omega) (by omega) ?_
  dsimp only
  split
  ·rename_i hl
   have key:∀ q:RP,q.ss=p.ss→q.at_=0→¬ q.judge.holds s:=fun q hq hq0=>by
    unfold RP.judge
    split
    ·exact RP.nh (by simp) (by simp) (by simp) (by simp)
    split
    ·rintro (h | h | h)
     ·have h':=h.2; rw[show ({ q with ph:=4 }:RP).at_=q.at_ from rfl,hq0] at h'; simp at h'
     ·have:=h.1; simp at this
     ·have:=h.1; simp at this
    ·exact RP.nh (by simp[RP.begin]) (by simp[RP.begin]) (by simp[RP.begin]) (by simp[RP.begin])
   rcases RP.next_cases { p with valid:=p.valid && validB (p.ep p.at_) (H.ss p.s).v H.c.epochs } 8 with ⟨h,e⟩ | ⟨_,e⟩
   ·simp[RP.last] at hl; have:p.at_+1<p.k:=h; have:p.k≤p.at_+1:=hl; omega
   ·rw[e]; exact key _ rfl rfl
  ·rename_i hl
   rcases RP.next_cases { p with valid:=p.valid && validB (p.ep p.at_) (H.ss p.s).v H.c.epochs } 8 with ⟨h,e⟩ | ⟨_,e⟩<;>rw[e]<;>exact RP.nh (by simp; try omega) (by simp; try omega) (by simp; try omega) (by simp; try omega)
 rw[if_neg h3]
 by_cases h4:p.ph=4
 ·rw[if_pos h4]
  have hwh:(H.ss p.s).who=0:=by simp[RP.enabled,h4] at he; exact he
  have hls:=lock_ss (H:=H) (w:=p.who) (s:=p.s) (by omega) hwh s
  have hold:(p.next 5).holds s↔p.holds s∨s=p.s:=by
   have e0:p.holds s↔s∈p.ss.take p.at_:=by
    constructor
    ·rintro (h | h | h)
     ·exact h.2
     ·have:=h.1; omega
     ·have:=h.1; omega
    ·intro h; exact .inl ⟨h4,h⟩
   rw[e0,hss,← take_succ_mem hat]
   rcases RP.next_cases p 5 with ⟨h,e⟩ | ⟨h,e⟩
   ·rw[e]
    constructor
    ·rintro (h | h | h)
     ·exact h.2
     ·have:=h.1; simp at this; omega
     ·have:=h.1; simp at this; omega
    ·intro h; exact .inl ⟨h4,h⟩
   ·rw[e]
    have:p.ss.take (p.at_+1)=p.ss:=List.take_of_length_le (by unfold RP.k at h; omega)
    rw[this]
    constructor
    ·rintro (h | h | h)
     ·have:=h.1; simp at this
     ·exact h.2
     ·have:=h.1; simp at this
    ·intro h; exact .inr (.inl ⟨.inl rfl,h⟩)
  by_cases hsp:s=p.s
  ·subst hsp
   rw[if_pos rfl] at hls
   have nh:¬ p.holds p.s:=by
    rintro (h | h | h)
    ·have h':=h.2; rw[hss] at h'; exact nodup_take a.nd hat h'
    ·have:=h.1; omega
    ·have:=h.1; omega
   exact⟨fun h=>absurd h nh,fun _=>.inr ⟨hwh,rfl,hold.2 (.inr rfl),by rw[hls,hw],fun h=>h,fun h=>h,fun _=>rfl⟩⟩
  ·rw[if_neg hsp] at hls
   exact triv _ _ hls ⟨fun h=>(hold.1 h).resolve_right hsp,fun h=>hold.2 (.inl h)⟩
 rw[if_neg h4]
 by_cases h6:p.ph=6
 ·rw[if_pos h6]
  have e0:p.holds s↔s∈p.ss:=by
   constructor
   ·rintro (h | h | h)
    ·have:=h.1; omega
    ·exact h.2
    ·have:=h.1; omega
   ·intro h; exact .inr (.inl ⟨.inr h6,h⟩)
  refine triv _ _ rfl ?_
  rw[e0]
  rcases RP.next_cases { p with seen:=seenset p.seen p.s (H.ss p.s).book } 7 with ⟨h,e⟩ | ⟨h,e⟩
  ·rw[e]
   constructor
   ·rintro (h | h | h)
    ·have:=h.1; simp at this; omega
    ·exact h.2
    ·have:=h.1; simp at this; omega
   ·intro h; exact .inr (.inl ⟨.inr h6,h⟩)
  ·rw[e]
   constructor
   ·rintro (h | h | h)
    ·have:=h.1; simp at this
    ·have:=h.1; simp at this
    ·simpa using h.2
   ·intro h; exact .inr (.inr ⟨rfl,by simpa using h⟩)
 rw[if_neg h6]
 have h7:p.ph=7:=by omega
 have e0:p.holds s↔s∈p.ss.drop p.at_:=by
  constructor
  ·rintro (h | h | h)
   ·have:=h.1; omega
   ·have:=h.1; omega
   ·exact h.2
  ·intro h; exact .inr (.inr ⟨h7,h⟩)
 have hold:(if p.last then (p.next 8).answer else p.next 8).holds s↔s∈p.ss.drop (p.at_+1):=by
  rcases RP.next_cases p 8 with ⟨h,e⟩ | ⟨h,e⟩
  ·have hl:p.last=false:=by simp[RP.last,h]
   rw[hl,e]
   constructor
   ·rintro (h | h | h)
    ·have:=h.1; simp at this; omega
    ·have:=h.1; simp at this; omega
    ·exact h.2
   ·intro h; exact .inr (.inr ⟨h7,h⟩)
  ·have hl:p.last=true:=by simp[RP.last]; omega
   rw[hl,e]
   have:p.ss.drop (p.at_+1)=[]:=List.drop_eq_nil_iff.2 (by unfold RP.k at h; omega)
   rw[this]
   simp only[if_true,List.not_mem_nil,iff_false]
   exact RP.nh (by rw[answer_ph]; simp) (by rw[answer_ph]; simp) (by rw[answer_ph]; simp) (by rw[answer_ph]; simp)
 by_cases hsp:s=p.s
 ·subst hsp
  have hm:p.holds p.s:=e0.2 (by rw[hss]; exact (drop_mem hat _).2 (.inl rfl))
  refine⟨fun _ hwho hd=>.inr ⟨fun h=>nodup_drop a.nd hat (by rw[← hss]; exact hold.1 h),?_⟩,fun h=>absurd hm h⟩
  have hls:=unlock_ss (H:=H) (w:=p.who) (s:=p.s) (by omega) (by rw[hw]; exact hwho) p.s
  rw[if_pos rfl] at hls
  rw[hls]
  have hq:=hd.q fun h=>h
  exact⟨rfl,hd.e,hq.1,hq.2⟩
 ·have hls:(H.unlock p.who p.s).ss s=H.ss s:=by
   simp only[Hall.unlock]
   split
   ·simp[Hall.put,sput,hsp,Hall.did]
   ·rfl
  refine triv _ _ hls ?_
  rw[hold,e0,drop_mem hat,← hss]
  simp[hsp]
end Go.Den
namespace Go.Den
open Go
set_option linter.unusedVariables false
set_option linter.unusedSimpArgs false
theorem kind_rng {x:OpD}(h:badB x=false):1≤x.kind∧x.kind≤9:=by
 unfold badB at h
 split at h
 ·omega
 split at h
 ·omega
 split at h
 ·omega
 split at h
 ·omega
 ·simp at h; omega
structure HA (i:Nat)(p:HP)(c:Cfg):Prop where
 w:p.who=i
 i8:i<8
 k6:badB p.x=false→6≤p.x.kind
 s:p.s=(stripeOf p.x.user c.stripes).toNat
theorem HA.cl {i:Nat}{p:HP}{c:Cfg}(a:HA i p c):clientB p.who=true:=by
 have:=a.w; have:=a.i8
 simp[clientB]; omega
structure MA (p:HP)(m:Mine)(M:Tbl):Prop where
 wt:(M.fd (M.stripe p.x.user)).watching p.who p.x.user=mhas m p.x.user
 ct:M.count p.who=m.length
theorem fed_ss (H:Hall)(w:Int)(s:Nat)(f:Feed)(s':Nat):(H.fed w s f).ss s'=if s'=s then { H.ss s with feed:=f } else H.ss s':=by
 simp only[Hall.fed,Hall.put,sput]; rfl
theorem do_watch {i:Nat}{p:HP}{m:Mine}{M:Tbl}{c:Cfg}(a:HA i p c)(hc:M.c=c)(ma:MA p m M)(ht:p.t=M.t)(hb:badB p.x=false)(h9:p.x.kind≠9)(h8:p.x.kind≠8) :
  (M.do_ p.who p.x).1=(if p.wres m c=0 then M.fed p.s (p.wfd (M.fd p.s)) else M)∧(M.do_ p.who p.x).2=repE (p.wres m c):=by
 have hk:=kind_rng hb
 have k6:=a.k6 hb
 have hs:p.s=M.stripe p.x.user:=by rw[a.s,Tbl.stripe,hc]
 have hcl:=a.cl
 unfold Tbl.do_
 rw[if_neg (by simp[hb,hcl]),if_neg (by omega),if_neg h8]
 cases htc:M.t.closed with
 | true =>
  have e:p.wres m c=5:=by simp[HP.wres,ht,htc]
  simp[e]
 | false =>
  simp only[Bool.false_eq_true,if_false]
  by_cases h6:p.x.kind=6
  ·rw[if_pos h6]
   unfold Tbl.watch
   rw[ma.wt,ma.ct,hc]
   by_cases hcc:mhas m p.x.user=false∧c.watches≤(m.length:Int)
   ·have e:p.wres m c=4:=by simp[HP.wres,ht,htc,h6,hcc.1,hcc.2]
    rw[if_pos hcc,e]; simp
   ·have e:p.wres m c=0:=by
     have h2:¬ (p.x.kind=6∧mhas m p.x.user=false∧c.watches≤(m.length:Int)):=fun h=>hcc h.2
     unfold HP.wres; rw[ht,htc,if_neg (by simp),if_neg h2]
    rw[if_neg hcc,e,hs]
    simp[HP.wfd,h6]; rfl
  ·have h7:p.x.kind=7:=by omega
   have e:p.wres m c=0:=by
    have h2:¬ (p.x.kind=6∧mhas m p.x.user=false∧c.watches≤(m.length:Int)):=fun h=>h6 h.1
    unfold HP.wres; rw[ht,htc,if_neg (by simp),if_neg h2]
   rw[if_neg h6,if_pos h7,e,hs]
   simp[HP.wfd,h7]; rfl
theorem drainTo_st (M:Tbl)(who:Int)(s:Nat)(hs:s<M.n):(M.drainTo who M.n).st s=(M.bk s,(M.fd s).drain who):=by simp[Tbl.st,Tbl.drainTo,hs]
theorem hloc {i:Nat}{p:HP}{ms:Mine}{H:Hall}{M:Tbl}(g:HPG H.n p)(a:HA i p H.c)(ht:M.t=H.t)(hc:M.c=H.c)(hn:M.n=H.n)
  (ma:p.one=false→p.x.kind≠8→p.at_=1→MA p ms M) (n:Int) {s:Nat} (hs8:s<H.n) (he:p.enabled H=true) :
  Loc i (.h p) ((PR.h p).step ms H n).1 ms ((PR.h p).step ms H n).2.1 H ((PR.h p).step ms H n).2.2 M ((PR.h p).tb H M) s:=by
 have hl:=HP.lt_of_en he
 have hw:=a.w
 have hcl:=a.cl
 have e3:(PR.h p).step ms H n=(.h (p.stp ms H n).1,(p.stp ms H n).2.1,(p.stp ms H n).2.2):=by simp[PR.step,HP.step,he]
 have etb:p.places=true→(PR.h p).tb H M=(M.do_ p.who p.x).1:=fun h=>by simp[PR.tb,PR.enabled,PR.places,he,h,PR.bef]
 have etn:p.places=false→(PR.h p).tb H M=M:=fun h=>by simp[PR.tb,PR.places,h]
 rw[e3]
 have nm:∀ (q:HP),¬ (PR.h q).mid s:=fun q h=>h
 have n5:∀ (q:HP),¬ (PR.h q).at5:=fun q h=>h
 by_cases hb:badB p.x=true
 ·have ho:p.one=true:=by simp[HP.one,hb]
  have:(M.do_ p.who p.x).1=M:=by simp[Tbl.do_,hb]
  rw[etb (by simp[HP.places,ho]),this]
  simp only[HP.stp,hb,if_true]
  exact Loc.same rfl rfl ⟨fun h=>by have h1:=h.1; simp[HP.one,hb] at h1,fun h=>by have h1:=h.1; simp[HP.one,hb] at h1⟩ ⟨fun h=>h.elim,fun h=>h.elim⟩ (fun h=>h.elim) (fun h=>by have h1:=h.1; simp[HP.one,hb] at h1)
 have hb:badB p.x=false:=by simpa using hb
 by_cases h9:p.x.kind=9
 ·have ho:p.one=true:=by simp[HP.one,h9]
  have:(M.do_ p.who p.x).1.st s=M.st s:=by
   unfold Tbl.do_
   rw[if_neg (by simp[hb,hcl]),if_neg (by omega),if_neg (by omega)]
   split
   ·rfl
   rw[if_neg (by omega),if_neg (by omega)]
   first | rfl | (rw[if_pos h9]; rfl)
  rw[etb (by simp[HP.places,ho])]
  simp only[HP.stp,hb,h9,Bool.false_eq_true,if_false,if_true]
  exact Loc.same rfl this ⟨fun h=>by have h1:=h.1; simp[HP.one,h9] at h1,fun h=>by have h1:=h.1; simp[HP.one,h9] at h1⟩ ⟨fun h=>h.elim,fun h=>h.elim⟩ (fun h=>h.elim) (fun h=>by have h1:=h.1; simp[HP.one,h9] at h1)
 have one:p.one=false:=by simp[HP.one,hb,h9]
 have onq:∀ q:HP,q.x=p.x→q.one=false:=fun q h=>by simp[HP.one,h,hb,h9]
 by_cases h8:p.x.kind=8
 ·-- a Poll
  have hk:=g.k
  have hst:p.steps=3*p.k+1:=(HP.poll_of hb h8).2
  have hh:∀ q:HP,q.x=p.x→(q.holds s↔s<q.at_∧s<q.k∧q.at_≤2*q.k+1+s):=fun q hq=>by
   unfold HP.holds; rw[hq,if_pos h8]; simp[onq q hq]
  have hp:∀ (q:HP) m x,q.x=p.x→q.pend m H.c s x=if q.k<q.at_∧q.at_≤q.k+1+s then (x.1,x.2.drain q.who) else x:=fun q m x hq=>by
   unfold HP.pend; rw[onq q hq,hq,if_neg (by simp),if_pos h8]
  have estp:p.stp ms H n=((p.stpP H n).1,ms,(p.stpP H n).2):=by simp[HP.stp,hb,h8]
  rw[estp]
  dsimp only
  unfold HP.stpP
  by_cases hlk:p.at_<p.k
  ·have hpl:p.places=false:=by simp[HP.places,one,h8]; omega
   rw[etn hpl,if_pos hlk]
   dsimp only
   have hwh:(H.ss p.at_).who=0:=by
    have hnd:p.needs=p.at_:=by simp[HP.needs,one,h8,hlk]
    simp[HP.enabled,hnd] at he
    rcases he.2 with h | h
    ·omega
    ·exact h
   have hls:=lock_ss (H:=H) (w:=p.who) (s:=p.at_) (by omega) hwh s
   by_cases hss:s=p.at_
   ·rw[if_pos hss] at hls
    refine⟨fun h=>?_,fun _=>.inr ⟨by rw[hss]; exact hwh,rfl,(hh _ (by rfl)).2 (by dsimp only; omega),by rw[hls,hw,hss],nm _,n5 _,fun x=>?_⟩⟩
    ·have:=(hh p rfl).1 h; omega
    ·show HP.pend _ _ _ _ _=_
     rw[hp _ _ _ (by rfl),if_neg (by dsimp only; omega)]
   ·rw[if_neg hss] at hls
    refine Loc.same hls rfl ?_ ⟨fun h=>h.elim,fun h=>h.elim⟩ (fun h=>h.elim) fun _ x=>?_
    ·show HP.holds _ _↔HP.holds _ _
     rw[hh _ (by rfl),hh p rfl]; dsimp only; omega
    ·show HP.pend _ _ _ _ _=HP.pend _ _ _ _ _
     rw[hp _ _ _ (by rfl),hp p _ _ rfl,if_neg (by dsimp only; omega),if_neg (by omega)]
  rw[if_neg hlk]
  by_cases hk2:p.at_=p.k
  ·have hpl:p.places=true:=by simp[HP.places,one,h8,hk2]
   have hdo:(M.do_ p.who p.x).1=M.drainTo p.who M.n:=by
    unfold Tbl.do_
    rw[if_neg (by simp[hb,hcl]),if_neg (by omega),if_pos h8]; rfl
   rw[etb hpl,if_pos hk2,hdo]
   dsimp only
   refine⟨fun _ hwho hd=>.inl ⟨(hh _ (by rfl)).2 (by dsimp only; omega),hwho,?_⟩,fun h=>absurd ((hh p rfl).2 (by omega)) h⟩
   rw[drainTo_st _ _ _ (by omega)]
   have he':=hd.e
   simp only[PR.pend] at he'
   rw[hp p _ _ rfl,if_neg (by omega)] at he'
   refine⟨?_,fun h=>h.elim,fun h=>hd.q h,fun h=>h.elim⟩
   show _=HP.pend _ _ _ _ _
   rw[hp _ _ _ (by rfl),if_pos (by dsimp only; omega)]
   simp only[Tbl.st,Prod.mk.injEq] at he'
   rw[he'.1,he'.2]; rfl
  rw[if_neg hk2]
  have hpl:p.places=false:=by simp[HP.places,one,h8]; omega
  rw[etn hpl]
  by_cases hk3:p.at_≤2*p.k
  ·rw[if_pos hk3]
   dsimp only
   have hfs:=fed_ss H p.who (p.at_-p.k-1) ((H.ss (p.at_-p.k-1)).feed.drain p.who) s
   by_cases hss:s=p.at_-p.k-1
   ·rw[if_pos hss,← hss] at hfs
    refine⟨fun _ hwho hd=>.inl ⟨(hh _ (by rfl)).2 (by dsimp only; omega),?_,?_⟩,fun h=>absurd ((hh p rfl).2 (by omega)) h⟩
    ·show ((H.drain p.who (p.at_-p.k-1)).ss s).who=_
     rw[← hss]
     show ((H.fed p.who s ((H.ss s).feed.drain p.who)).ss s).who=_
     rw[hfs]; exact hwho
    ·show Held _ _ _ _ ((H.drain p.who (p.at_-p.k-1)).ss s) _
     rw[← hss]
     show Held _ _ _ _ ((H.fed p.who s ((H.ss s).feed.drain p.who)).ss s) _
     rw[hfs]
     have he':=hd.e
     simp only[PR.pend] at he'
     rw[hp p _ _ rfl,if_pos (by omega)] at he'
     refine⟨?_,fun h=>h.elim,fun h=>hd.q h,fun h=>h.elim⟩
     show _=HP.pend _ _ _ _ _
     rw[hp _ _ _ (by rfl),if_neg (by dsimp only; omega)]
     exact he'
   ·rw[if_neg hss] at hfs
    refine Loc.same hfs rfl ?_ ⟨fun h=>h.elim,fun h=>h.elim⟩ (fun h=>h.elim) fun _ x=>?_
    ·show HP.holds _ _↔HP.holds _ _
     rw[hh _ (by rfl),hh p rfl]; dsimp only; omega
    ·show HP.pend _ _ _ _ _=HP.pend _ _ _ _ _
     rw[hp _ _ _ (by rfl),hp p _ _ rfl]
     dsimp only
     by_cases hcc:p.k<p.at_∧p.at_≤p.k+1+s
     ·rw[if_pos hcc,if_pos (by omega)]
     ·rw[if_neg hcc,if_neg (by omega)]
  ·rw[if_neg hk3]
   dsimp only
   by_cases hss:s=p.at_-2*p.k-1
   ·refine⟨fun _ hwho hd=>.inr ⟨fun h=>?_,?_⟩,fun h=>absurd ((hh p rfl).2 (by omega)) h⟩
    ·have:=(hh _ (by rfl)).1 h
     dsimp only at this; omega
    ·have hls:=unlock_ss (H:=H) (w:=p.who) (s:=p.at_-2*p.k-1) (by omega) (by rw[← hss,hw]; exact hwho) s
     rw[if_pos hss,← hss] at hls
     show Free ((H.unlock p.who (p.at_-2*p.k-1)).ss s) _
     rw[← hss,hls]
     have he':=hd.e
     simp only[PR.pend] at he'
     rw[hp p _ _ rfl,if_neg (by omega)] at he'
     have hq:=hd.q (nm _)
     exact⟨rfl,he',hq.1,hq.2⟩
   ·have hls:(H.unlock p.who (p.at_-2*p.k-1)).ss s=H.ss s:=by
     simp only[Hall.unlock]
     split
     ·simp[Hall.put,sput,hss,Hall.did]
     ·rfl
    refine Loc.same hls rfl ?_ ⟨fun h=>h.elim,fun h=>h.elim⟩ (fun h=>h.elim) fun _ x=>?_
    ·show HP.holds _ _↔HP.holds _ _
     rw[hh _ (by rfl),hh p rfl]; dsimp only; omega
    ·show HP.pend _ _ _ _ _=HP.pend _ _ _ _ _
     rw[hp _ _ _ (by rfl),hp p _ _ rfl,if_neg (by dsimp only; omega),if_neg (by omega)]
 -- a Watch or Unwatch
 have hst:p.steps=4:=(HP.kind_of hb h9 h8).2
 have hh:∀ q:HP,q.x=p.x→(q.holds s↔1≤q.at_∧q.at_≤3∧s=q.s):=fun q hq=>by
  unfold HP.holds; rw[hq,if_neg h8]; simp[onq q hq]
 have hp:∀ (q:HP) m x,q.x=p.x→q.pend m H.c s x=if q.at_=2∧s=q.s∧q.wres m H.c=0 then (x.1,q.wfd x.2) else x:=fun q m x hq=>by
  unfold HP.pend; rw[onq q hq,hq,if_neg (by simp),if_neg h8]
 have estp:p.stp ms H n=p.stpW ms H n:=by simp[HP.stp,hb,h9,h8]
 rw[estp]
 unfold HP.stpW
 by_cases h0:p.at_=0
 ·have hpl:p.places=false:=by simp[HP.places,one,h8]; omega
  rw[etn hpl,if_pos h0]
  dsimp only
  have hwh:(H.ss p.s).who=0:=by
   have hnd:p.needs=p.s:=by simp[HP.needs,one,h8,h0]
   simp[HP.enabled,hnd] at he
   rcases he.2 with h | h
   ·omega
   ·exact h
  have hls:=lock_ss (H:=H) (w:=p.who) (s:=p.s) (by omega) hwh s
  by_cases hss:s=p.s
  ·rw[if_pos hss] at hls
   refine⟨fun h=>?_,fun _=>.inr ⟨by rw[hss]; exact hwh,rfl,(hh _ (by rfl)).2 (by dsimp only; omega),by rw[hls,hw,hss],nm _,n5 _,fun x=>?_⟩⟩
   ·have:=(hh p rfl).1 h; omega
   ·show HP.pend _ _ _ _ _=_
    rw[hp _ _ _ (by rfl),if_neg (by dsimp only; omega)]
  ·rw[if_neg hss] at hls
   refine Loc.same hls rfl ?_ ⟨fun h=>h.elim,fun h=>h.elim⟩ (fun h=>h.elim) fun _ x=>?_
   ·show HP.holds _ _↔HP.holds _ _
    rw[hh _ (by rfl),hh p rfl]; dsimp only; omega
   ·show HP.pend _ _ _ _ _=HP.pend _ _ _ _ _
    rw[hp _ _ _ (by rfl),hp p _ _ rfl,if_neg (by dsimp only; omega),if_neg (by omega)]
 rw[if_neg h0]
 by_cases h1:p.at_=1
 ·have hpl:p.places=true:=by simp[HP.places,one,h8,h1]
  rw[etb hpl,if_pos h1]
  have hdo:=(do_watch (i:=i) (p:={ p with t:=H.t }) (m:=ms) (M:=M) (c:=H.c) ⟨a.w,a.i8,a.k6,a.s⟩ hc ⟨(ma one h8 h1).wt,(ma one h8 h1).ct⟩ ht.symm hb h9 h8).1
  dsimp only at hdo
  rw[hdo]
  dsimp only
  by_cases hss:s=p.s
  ·refine⟨fun _ hwho hd=>.inl ⟨(hh _ (by rfl)).2 (by dsimp only; omega),hwho,?_⟩,fun h=>absurd ((hh p rfl).2 (by omega)) h⟩
   have he':=hd.e
   simp only[PR.pend] at he'
   rw[hp p _ _ rfl,if_neg (by omega)] at he'
   refine⟨?_,fun h=>h.elim,fun h=>hd.q h,fun h=>h.elim⟩
   show _=HP.pend _ _ _ _ _
   rw[hp _ _ _ (by rfl)]
   dsimp only
   have hwr:({ p with at_:=2,t:=H.t,placed:=n }:HP).wres ms H.c=({ p with t:=H.t }:HP).wres ms H.c:=rfl
   rw[hwr]
   by_cases hr:({ p with t:=H.t }:HP).wres ms H.c=0
   ·rw[if_pos hr,if_pos ⟨rfl,hss,hr⟩]
    simp only[Tbl.st,Prod.mk.injEq] at he'
    simp only[Tbl.st,Tbl.fed,bset,hss,if_true]
    rw[← hss,he'.1,he'.2]; rfl
   ·rw[if_neg hr,if_neg (fun h=>hr h.2.2)]
    exact he'
  ·refine Loc.same rfl ?_ ?_ ⟨fun h=>h.elim,fun h=>h.elim⟩ (fun h=>h.elim) fun hh'=>?_
   ·split
    ·simp[Tbl.st,Tbl.fed,bset,hss]
    ·rfl
   ·show HP.holds _ _↔HP.holds _ _
    rw[hh _ (by rfl),hh p rfl]; dsimp only; omega
   ·have:=(hh p rfl).1 hh'; omega
 rw[if_neg h1]
 have hpl:p.places=false:=by simp[HP.places,one,h8]; omega
 rw[etn hpl]
 by_cases h2:p.at_=2
 ·rw[if_pos h2]
  have key:∀ (q:HP) (m':Mine) (H':Hall),q.x=p.x→q.s=p.s→q.at_=3→(∀ s',H'.ss s'=if s'=p.s∧p.wres ms H.c=0 then { H.ss p.s with feed:=p.wfd (H.ss p.s).feed } else H.ss s')→Loc i (.h p) (.h q) ms m' H H' M M s:=by
   intro q m' H' hq hqs hq3 hH
   have hH:=hH s
   by_cases hss:s=p.s
   ·refine⟨fun _ hwho hd=>.inl ⟨(hh _ hq).2 (by omega),?_,?_⟩,fun h=>absurd ((hh p rfl).2 (by omega)) h⟩
    ·rw[hH]; split
     ·rename_i h; dsimp only; rw[← h.1]; exact hwho
     ·exact hwho
    ·have he':=hd.e
     simp only[PR.pend] at he'
     rw[hp p _ _ rfl] at he'
     rw[hH]
     by_cases hr:p.wres ms H.c=0
     ·rw[if_pos ⟨h2,hss,hr⟩] at he'
      rw[if_pos ⟨hss,hr⟩,← hss]
      refine⟨?_,fun h=>h.elim,fun h=>hd.q h,fun h=>h.elim⟩
      show _=HP.pend _ _ _ _ _
      rw[hp _ _ _ hq,if_neg (by omega)]
      exact he'
     ·rw[if_neg (fun h=>hr h.2.2)] at he'
      rw[if_neg (fun h=>hr h.2)]
      refine⟨?_,fun h=>h.elim,fun h=>hd.q h,fun h=>h.elim⟩
      show _=HP.pend _ _ _ _ _
      rw[hp _ _ _ hq,if_neg (by omega)]
      exact he'
   ·rw[if_neg (fun h=>hss h.1)] at hH
    refine Loc.same hH rfl ?_ ⟨fun h=>h.elim,fun h=>h.elim⟩ (fun h=>h.elim) fun hh'=>?_
    ·show HP.holds _ _↔HP.holds _ _
     rw[hh _ hq,hh p rfl,hqs]; omega
    ·have:=(hh p rfl).1 hh'; omega
  by_cases hcl':p.t.closed=true
  ·rw[if_pos hcl']
   exact key _ _ _ rfl rfl rfl fun s'=>by
    have:¬ p.wres ms H.c=0:=by simp[HP.wres,hcl']
    rw[if_neg (fun h=>this h.2)]
  rw[if_neg hcl']
  by_cases hcc:p.x.kind=6∧mhas ms p.x.user=false∧H.c.watches≤(ms.length:Int)
  ·rw[if_pos hcc]
   exact key _ _ _ rfl rfl rfl fun s'=>by
    have:¬ p.wres ms H.c=0:=by simp[HP.wres,hcl',hcc.1,hcc.2.1,hcc.2.2]
    rw[if_neg (fun h=>this h.2)]
  ·rw[if_neg hcc]
   have hr:p.wres ms H.c=0:=by
    unfold HP.wres; rw[if_neg hcl',if_neg hcc]
   exact key _ _ _ rfl rfl rfl fun s'=>by
    unfold Hall.watch
    rw[fed_ss]
    by_cases hs':s'=p.s
    ·have hx:s'=p.s∧p.wres ms H.c=0:=⟨hs',hr⟩
     simp only[if_pos hs',if_pos hx,HP.wfd]
    ·have hx:¬ (s'=p.s∧p.wres ms H.c=0):=fun h=>hs' h.1
     simp only[if_neg hs',if_neg hx]
 rw[if_neg h2]
 dsimp only
 have h3:p.at_=3:=by omega
 by_cases hss:s=p.s
 ·refine⟨fun _ hwho hd=>.inr ⟨fun h=>?_,?_⟩,fun h=>absurd ((hh p rfl).2 (by omega)) h⟩
  ·have:=(hh _ (by rfl)).1 h
   dsimp only at this; omega
  ·have hls:=unlock_ss (H:=H) (w:=p.who) (s:=p.s) (by omega) (by rw[← hss,hw]; exact hwho) s
   rw[if_pos hss] at hls
   rw[hls,← hss]
   have he':=hd.e
   simp only[PR.pend] at he'
   rw[hp p _ _ rfl,if_neg (by omega)] at he'
   have hq:=hd.q (nm _)
   exact⟨rfl,he',hq.1,hq.2⟩
 ·have hls:(H.unlock p.who p.s).ss s=H.ss s:=by
   simp only[Hall.unlock]
   split
   ·simp[Hall.put,sput,hss,Hall.did]
   ·rfl
  refine Loc.same hls rfl ?_ ⟨fun h=>h.elim,fun h=>h.elim⟩ (fun h=>h.elim) fun _ x=>?_
  ·show HP.holds _ _↔HP.holds _ _
   rw[hh _ (by rfl),hh p rfl]; dsimp only; omega
  ·show HP.pend _ _ _ _ _=HP.pend _ _ _ _ _
   rw[hp _ _ _ (by rfl),hp p _ _ rfl,if_neg (by dsimp only; omega),if_neg (by omega)]
end Go.Den
namespace Go.Den
open Go
set_option linter.unusedVariables false
set_option linter.unusedSimpArgs false
theorem TS.take {m:Nat}{M:Tbl}(x:TS m M):TS m M.take:=⟨x.rt,x.cw,x.nn,x.bk,x.fd,x.tn,addU_rng x.ts (by simp[U64])⟩
theorem TS.set {m:Nat}{M:Tbl}(x:TS m M){s:Nat}{b:Book}{f:Feed}(hb:BkM m b)(hf:FdM m f):TS m { M with bk:=bset M.bk s b,fd:=bset M.fd s f } :=
 ⟨x.rt,x.cw,x.nn,fun t ht=>by simp only[bset]; split; exact hb; exact x.bk t ht,fun t ht=>by simp only[bset]; split; exact hf; exact x.fd t ht,x.tn,x.ts⟩
theorem TS.fed {m:Nat}{M:Tbl}(x:TS m M){s:Nat}{f:Feed}(hf:FdM m f):TS m (M.fed s f) :=
 ⟨x.rt,x.cw,x.nn,x.bk,fun t ht=>by simp only[Tbl.fed,bset]; split; exact hf; exact x.fd t ht,x.tn,x.ts⟩
theorem TS.sweep {m:Nat}{M:Tbl}(x:TS m M)(s:Int):TS m (M.sweep s):=by
 unfold Tbl.sweep
 split
 ·rename_i h
  have hs:s.toNat<M.n:=by omega
  exact x.take.set ((x.bk _ hs).sweepTo _ _ (Nat.le_refl _)) ((x.fd _ hs).tell _ _)
 ·exact x
theorem TS.write {m:Nat}{M:Tbl}(x:TS m M){o:OpD}(ow:OpW o):TS (m+1) (M.write o).1:=by
 have y:=x.mono (Nat.le_succ m)
 have hs:=x.stripe o.user
 unfold Tbl.write
 split
 ·exact y.take
 ·exact y.take.set ((x.bk _ hs).write ow x.tn _) ((y.fd _ hs).tell _ _)
theorem TS.tick {m:Nat}{M:Tbl}(x:TS m M)(b:Int)(hb:U64 b):TS m (M.tick b):=⟨x.rt,x.cw,x.nn,x.bk,x.fd,addU_rng x.tn hb,x.ts⟩
theorem TS.do_ {m:Nat}{M:Tbl}(x:TS m M)(who:Int){o:OpD}(ow:OpW o):TS (m+1) (M.do_ who o).1:=by
 have y:=x.mono (Nat.le_succ m)
 have hs:=x.stripe o.user
 unfold Tbl.do_
 split
 ·exact y
 split
 ·exact x.write ow
 split
 ·exact⟨y.rt,y.cw,y.nn,y.bk,fun t ht=>by simp only[Tbl.poll,Tbl.drainTo]; split; exact (y.fd t ht).drain _; exact y.fd t ht,y.tn,y.ts⟩
 split
 ·exact y
 split
 ·unfold Tbl.watch
  split
  ·exact y
  ·exact y.fed ((x.fd _ hs).watch _ _ ow.s1)
 split
 ·exact y.fed ((x.fd _ hs).unwatch _ _ ow.s1)
 split
 ·exact⟨y.rt,y.cw,y.nn,y.bk,y.fd,y.tn,y.ts⟩
 ·exact y
def PR.owd:PR→Prop
 | .w p=>∀ o,p.k = .op o→OpW o
 | .r _=>True
 | .h p=>OpW p.x
theorem TS.bef {m:Nat}{M:Tbl}(x:TS m M){p:PR}(h:p.owd):TS (m+1) (p.bef M).1:=by
 have y:=x.mono (Nat.le_succ m)
 cases p with
 | w p =>
  simp only[PR.bef]
  cases hk:p.k with
  | bad=>exact y
  | op o=>exact x.write (h o hk)
  | sweep=>exact y.sweep _
 | r p=>exact y
 | h p=>exact x.do_ _ h
theorem TS.tb {m:Nat}{M:Tbl}(x:TS m M){p:PR}{H:Hall}(h:p.owd):TS (m+1) (p.tb H M):=by
 unfold PR.tb
 split
 ·exact x.bef h
 ·exact x.mono (Nat.le_succ m)
def allWs (M:Tbl)(i:Nat):List ByteArray:=(List.range M.n).flatMap fun s=>wsOf (M.fd s).ws i
structure WsI (M:Tbl)(e:Nat→Mine):Prop where
 pm:∀ i,i<8→(allWs M i).Perm (e i)
 lo:∀ s i u,s<M.n→i<8→u∈wsOf (M.fd s).ws i→M.stripe u=s
theorem sum_map_len {α β:Type}(l:List α)(f:α→List β):(l.map fun a=>(f a).length).sum=(l.flatMap f).length:=by
 induction l with
 | nil=>rfl
 | cons a l ih=>rw[List.map_cons,List.sum_cons,List.flatMap_cons,List.length_append,ih]
theorem WsI.count {M:Tbl}{e:Nat→Mine}(x:WsI M e){i:Nat}(hi:i<8):M.count i=(e i).length:=by
 rw[← (x.pm i hi).length_eq]
 unfold allWs Tbl.count
 rw[← sum_map_len]
 congr 1
 apply List.map_congr_left
 intro s _
 have hc:clientB (i:Int)=true:=by simp[clientB]; omega
 simp[Feed.count,hc,wsOf]
theorem WsI.watching {M:Tbl}{e:Nat→Mine}{m:Nat}(x:WsI M e)(ts:TS m M){i:Nat}(hi:i<8)(u:ByteArray):(M.fd (M.stripe u)).watching i u=mhas (e i) u:=by
 have hs:=ts.stripe u
 have hc:clientB (i:Int)=true:=by simp[clientB]; omega
 unfold Feed.watching
 rw[hc,Bool.true_and,Bool.eq_iff_iff,← wsOf_mem (ts.fd _ hs).so,mhas_iff,← (x.pm i hi).mem_iff]
 unfold allWs
 rw[List.mem_flatMap]
 constructor
 ·intro h; exact⟨M.stripe u,List.mem_range.2 hs,h⟩
 ·rintro⟨s,h1,h2⟩
  have:=x.lo s i u (List.mem_range.1 h1) hi h2
  rw[this]; exact h2
theorem WsI.same {M M':Tbl}{e e':Nat→Mine}(x:WsI M e)(hn:M'.n=M.n)(hc:M'.c=M.c)(hw:∀ s,s<M.n→(M'.fd s).ws=(M.fd s).ws)(he:∀ i,i<8→e' i=e i):WsI M' e':=by
 have ha:∀ i,allWs M' i=allWs M i:=fun i=>by
  unfold allWs; rw[hn]
  rw[List.flatMap_def,List.flatMap_def]
  congr 1
  exact List.map_congr_left fun s hs=>by rw[hw s (by simpa using hs)]
 refine⟨fun i hi=>by rw[ha,he i hi]; exact x.pm i hi,fun s i u hs hi hu=>?_⟩
 rw[hw s (by omega)] at hu
 have:=x.lo s i u (by omega) hi hu
 unfold Tbl.stripe at this ⊢
 rw[hc]; exact this
theorem tell_ws (f:Feed)(l:List Chg)(seq:Int):(f.tell l seq).ws=f.ws:=by
 unfold Feed.tell
 induction l generalizing f with
 | nil=>rfl
 | cons c l ih=>rw[List.foldl_cons,ih,tell1_ws]
theorem drain_ws (f:Feed)(who:Int):(f.drain who).ws=f.ws:=by unfold Feed.drain; split<;>rfl
theorem range_split {n s:Nat}(hs:s<n):List.range n=List.range s++s::(List.range (n-s-1)).map (·+(s+1)):=by
 have h1:n=s+(1+(n-s-1)):=by omega
 rw[h1,List.range_add]
 congr 1
 rw[List.range_add]
 simp only[List.range_one,List.map_append,List.map_cons,List.map_nil,Nat.add_zero,List.map_map,List.singleton_append]
 rw[show s+(1+(n-s-1))-s-1=n-s-1 by omega]
 congr 1
 apply List.map_congr_left
 intro k _
 simp only[Function.comp]; omega
theorem flatMap_perm {β:Type}{n s:Nat}(hs:s<n){f g:Nat→List β}(h:∀ k,k≠s→(g k).Perm (f k))(x y:List β)(hxy:(x++g s).Perm (y++f s)):(x++(List.range n).flatMap g).Perm (y++(List.range n).flatMap f):=by
 have hl:∀ l:List Nat,s ∉ l→(l.flatMap g).Perm (l.flatMap f):=fun l hl=>by
  induction l with
  | nil=>exact List.Perm.refl _
  | cons a l ih =>
   simp only[List.mem_cons,not_or] at hl
   simp only[List.flatMap_cons]
   exact (h a (Ne.symm hl.1)).append (ih hl.2)
 rw[range_split hs]
 simp only[List.flatMap_append,List.flatMap_cons]
 have h1:=hl (List.range s) (by simp)
 have h2:=hl ((List.range (n-s-1)).map (·+(s+1))) (by simp; omega)
 generalize (List.range s).flatMap g=A at *
 generalize (List.range s).flatMap f=A' at *
 generalize ((List.range (n-s-1)).map (·+(s+1))).flatMap g=B at *
 generalize ((List.range (n-s-1)).map (·+(s+1))).flatMap f=B' at *
 have e1:(x++(A++(g s++B))).Perm ((x++g s)++(A++B)):=by
  rw[List.append_assoc]
  refine List.Perm.append_left x ?_
  rw[← List.append_assoc,← List.append_assoc]
  exact (List.perm_append_comm).append_right B
 have e2:((y++f s)++(A'++B')).Perm (y++(A'++(f s++B'))):=by
  rw[List.append_assoc]
  refine List.Perm.append_left y ?_
  rw[← List.append_assoc,← List.append_assoc]
  exact (List.perm_append_comm).append_right B'
 exact (e1.trans (hxy.append (h1.append h2))).trans e2
theorem wsOf_watch {f:Feed}(so:SrtK (keysL f.ws))(ms:∀ x∈f.ws,0≤x.2∧x.2<4294967296){w j:Nat}(hw:w<8)(hj:j<8)(u:ByteArray) :
  (wsOf (f.watch w u).ws j).Perm (if j=w then (wsOf f.ws j).filter (fun k=>!decide (k=u))++[u] else wsOf f.ws j):=by
 have hc:clientB (w:Int)=true:=by simp[clientB]; omega
 obtain⟨m0,m1⟩:=valL_rng (u:=u) ms
 have e0:=wsOf_self so u j
 have e1:wsOf (f.watch w u).ws j=wsOf (putB f.ws u (mor (valL 0 f.ws u) w)) j:=by simp[Feed.watch,hc]
 rw[e1]
 refine (wsOf_put so u _ j).trans ?_
 rw[mbit_mor m0 m1 hw hj]
 by_cases h:j=w
 ·have e2:(wsOf (delB f.ws u) j).filter (fun k=>!decide (k=u))=wsOf (delB f.ws u) j:=List.filter_eq_self.2 fun k hk=>by
   have:¬ k=u:=fun h=>wsOf_del_not (h▸hk)
   simp[this]
  have e3:=e0.filter (fun k=>!decide (k=u))
  rw[List.filter_append,e2] at e3
  have e4:(if mbit (valL 0 f.ws u) j=true then [u] else []).filter (fun k=>!decide (k=u))=[]:=by split<;>simp
  rw[e4,List.nil_append] at e3
  simp only[h,decide_true,Bool.or_true,if_true]
  rw[h] at e3
  exact (List.perm_append_comm).trans (e3.symm.append_right [u])
 ·simp only[h,decide_false,Bool.or_false,if_false]
  exact e0.symm
theorem wsOf_unwatch {f:Feed}(so:SrtK (keysL f.ws))(ms:∀ x∈f.ws,0≤x.2∧x.2<4294967296){w j:Nat}(hw:w<8)(hj:j<8)(u:ByteArray) :
  (wsOf (f.unwatch w u).ws j).Perm (if j=w then (wsOf f.ws j).filter (fun k=>!decide (k=u)) else wsOf f.ws j):=by
 have hc:clientB (w:Int)=true:=by simp[clientB]; omega
 obtain⟨m0,m1⟩:=valL_rng (u:=u) ms
 have e0:=wsOf_self so u j
 have e2:(wsOf (delB f.ws u) j).filter (fun k=>!decide (k=u))=wsOf (delB f.ws u) j:=List.filter_eq_self.2 fun k hk=>by
  have:¬ k=u:=fun h=>wsOf_del_not (h▸hk)
  simp[this]
 have e3:=e0.filter (fun k=>!decide (k=u))
 rw[List.filter_append,e2] at e3
 have e4:(if mbit (valL 0 f.ws u) j=true then [u] else []).filter (fun k=>!decide (k=u))=[]:=by split<;>simp
 rw[e4,List.nil_append] at e3
 have main:∀ ws':List (ByteArray × Int),(wsOf ws' j).Perm ((if mbit (mclr (valL 0 f.ws u) w) j then [u] else [])++wsOf (delB f.ws u) j)→(wsOf ws' j).Perm (if j=w then (wsOf f.ws j).filter (fun k=>!decide (k=u)) else wsOf f.ws j):=fun ws' h=>by
  rw[mbit_mclr m0 m1 hw hj] at h
  by_cases hjw:j=w
  ·rw[if_pos hjw]
   simp only[hjw,decide_true,Bool.not_true,Bool.and_false,Bool.false_eq_true,if_false,List.nil_append] at h
   rw[hjw] at e3 ⊢
   exact h.trans e3.symm
  ·rw[if_neg hjw]
   simp only[hjw,decide_false,Bool.not_false,Bool.and_true] at h
   exact h.trans e0.symm
 unfold Feed.unwatch
 simp only[hc,true_and]
 by_cases hv:valL 0 f.ws u=0
 ·simp only[hv,ne_eq,not_true_eq_false,if_false]
  split
  ·rw[hv,mbit_zero] at e0
   simp only[Bool.false_eq_true,if_false,List.nil_append] at e0
   exact e0.trans e3.symm
  ·exact List.Perm.refl _
 ·simp only[ne_eq,hv,not_false_eq_true,if_true]
  split
  ·rename_i h0
   refine main _ ?_
   rw[h0,mbit_zero]; simp
  ·exact main _ (wsOf_put so u _ j)
theorem WsI.put {M:Tbl}{e e':Nat→Mine}{m:Nat}(x:WsI M e)(ts:TS m M){p:HP}{w:Nat}(hw:w<8)(hp:p.who=w)(hs:p.s=M.stripe p.x.user)
  (he:e' w=miset (e w) p.x.user (decide (p.x.kind=6))) (ho:∀ j,j≠w→e' j=e j):WsI (M.fed p.s (p.wfd (M.fd p.s))) e':=by
 have hsn:p.s<M.n:=by rw[hs]; exact ts.stripe _
 have fm:=ts.fd p.s hsn
 obtain⟨u,hu⟩:∃ u,p.x.user=u:=⟨_,rfl⟩
 have hwf:p.wfd (M.fd p.s)=if decide (p.x.kind=6) then (M.fd p.s).watch w u else (M.fd p.s).unwatch w u:=by unfold HP.wfd; rw[hp,hu]
 have key:∀ j,j<8→(wsOf (p.wfd (M.fd p.s)).ws j).Perm (if j=w then (wsOf (M.fd p.s).ws j).filter (fun k=>!decide (k=u))++(if decide (p.x.kind=6) then [u] else []) else wsOf (M.fd p.s).ws j):=fun j hj=>by
  rw[hwf]
  cases hk:decide (p.x.kind=6) with
  | true=>simpa using wsOf_watch fm.so fm.ms hw hj u
  | false=>simpa using wsOf_unwatch fm.so fm.ms hw hj u
 have hfd:∀ s,s≠p.s→(M.fed p.s (p.wfd (M.fd p.s))).fd s=M.fd s:=fun s h=>by simp[Tbl.fed,bset,h]
 have hfs:(M.fed p.s (p.wfd (M.fd p.s))).fd p.s=p.wfd (M.fd p.s):=by simp[Tbl.fed,bset]
 refine⟨fun j hj=>?_,fun s j v hs' hj hv=>?_⟩
 ·have kj:=key j hj
  by_cases hjw:j=w
  ·subst hjw
   rw[if_pos rfl] at kj
   rw[he,hu]
   unfold miset
   -- the others have none of this user's
   have hno:∀ s,s<M.n→s≠p.s→(wsOf (M.fd s).ws j).filter (fun k=>!decide (k=u))=wsOf (M.fd s).ws j:=fun s h1 h2=>List.filter_eq_self.2 fun k hk=>by
    have:¬ k=u:=fun h=>by
     subst h
     have:=x.lo s j k h1 hj hk
     rw[← hu,← hs] at this
     exact h2 this.symm
    simp[this]
   have h1:=(x.pm j hj).filter (fun k=>!decide (k=u))
   refine List.Perm.trans ?_ (h1.append_right _)
   unfold allWs
   rw[List.filter_flatMap]
   have:=flatMap_perm (s:=p.s) hsn (f:=fun s=>(wsOf (M.fd s).ws j).filter (fun k=>!decide (k=u))) (g:=fun s=>if s<M.n then wsOf ((M.fed p.s (p.wfd (M.fd p.s))).fd s).ws j else (wsOf (M.fd s).ws j).filter (fun k=>!decide (k=u)))
    (fun k hk=>by
     by_cases hkn:k<M.n
     ·simp only[if_pos hkn]; rw[hfd k hk,hno k hkn hk]
     ·simp only[if_neg hkn]; exact List.Perm.refl _) [] (if decide (p.x.kind=6) then [u] else [])
    (by
     simp only[if_pos hsn]; rw[hfs,List.nil_append]
     exact kj.trans List.perm_append_comm)
   rw[List.nil_append] at this
   have e1:(List.range M.n).flatMap (fun s=>if s<M.n then wsOf ((M.fed p.s (p.wfd (M.fd p.s))).fd s).ws j else (wsOf (M.fd s).ws j).filter (fun k=>!decide (k=u)))=(List.range M.n).flatMap fun s=>wsOf ((M.fed p.s (p.wfd (M.fd p.s))).fd s).ws j:=by
    rw[List.flatMap_def,List.flatMap_def]
    congr 1
    exact List.map_congr_left fun s hs=>by rw[if_pos (by simpa using hs)]
   rw[e1] at this
   exact this.trans List.perm_append_comm
  ·rw[if_neg hjw] at kj
   rw[ho j hjw]
   refine List.Perm.trans ?_ (x.pm j hj)
   have:=flatMap_perm (s:=p.s) hsn (f:=fun s=>wsOf (M.fd s).ws j) (g:=fun s=>wsOf ((M.fed p.s (p.wfd (M.fd p.s))).fd s).ws j) (fun k hk=>by rw[hfd k hk]) [] [] (by rw[hfs]; exact kj)
   rw[List.nil_append,List.nil_append] at this
   exact this
 ·show M.stripe v=s
  have hs':s<M.n:=hs'
  by_cases hsp:s=p.s
  ·subst hsp
   rw[hfs] at hv
   have hv:=(key j hj).mem_iff.1 hv
   split at hv
   ·rcases List.mem_append.1 hv with hv | hv
    ·exact x.lo _ j v hs' hj (List.mem_filter.1 hv).1
    ·split at hv
     ·simp at hv; rw[hv,← hu,hs]
     ·simp at hv
   ·exact x.lo _ j v hs' hj hv
  ·rw[hfd s hsp] at hv
   exact x.lo s j v hs' hj hv
end Go.Den
namespace Go.Den
open Go
set_option linter.unusedVariables false
set_option linter.unusedSimpArgs false
def PA (n i:Nat)(c:Cfg):PR→Prop
 | .w p=>WG n p∧WA i p c
 | .r p=>RK n p∧RA i p
 | .h p=>HPG n p∧HA i p c
structure LI (W:Wd)(M:Tbl):Prop where
 t:M.t=W.H.t
 c:M.c=W.H.c
 n:M.n=W.H.n
 st:∀ s,s<W.H.n→Free (W.H.ss s) (M.st s)∨∃ i p,W.ps i=some p∧p.holds s∧(W.H.ss s).who=i+1∧Held p (W.ms i) W.H.c s (W.H.ss s) (M.st s)
 own:∀ i p s,s<W.H.n→W.ps i=some p→p.holds s→(W.H.ss s).who=i+1
 pa:∀ i p,W.ps i=some p→PA W.H.n i W.H.c p
 ws:WsI M W.em
theorem bset_same {α:Type}(f:Nat→α)(i:Nat)(x:α):bset f i x i=x:=by simp[bset]
theorem bset_ne {α:Type}{f:Nat→α}{i j:Nat}{x:α}(h:j≠i):bset f i x j=f j:=by simp[bset,h]
theorem bset_id {α:Type}(f:Nat→α)(i:Nat):bset f i (f i)=f:=by
 funext j; unfold bset; split
 ·rename_i h; rw[h]
 ·rfl
theorem pstep_off {p : PR} {m : Mine} {H : Hall} {n : Int} (h : p.enabled H = false) : p.step m H n = (p, m, H) := by
  cases p with
  | w p => have h : p.enabled H = false := h
           simp [PR.step, WP.step, h]
  | r p => have h : p.enabled H = false := h
           simp [PR.step, RP.step, h]
  | h p => have h : p.enabled H = false := h
           simp [PR.step, HP.step, h]
theorem pstep_n {k i:Nat}{p:PR}{m:Mine}{H:Hall}(hs:HS k H)(n:Int)(hk:k<100000)(g:PA H.n i H.c p):(p.step m H n).2.2.n=H.n∧(p.step m H n).2.2.c=H.c∧HS (k+1) (p.step m H n).2.2∧PA H.n i H.c (p.step m H n).1:=by
 cases p with
 | w p =>
  obtain⟨k1,k2,k3⟩:=wstep_k p H n
  obtain⟨n1,n2⟩:=wstep_n p H n
  exact⟨n1,n2,hs.wstep g.1 n,g.1.step hs n,by rw[show (p.step H n).1.who=p.who from k2]; exact g.2.w,(g.1.step hs n).a,fun x hx=>by rw[k3]; exact g.2.s x (by rw[← k1]; exact hx)⟩
 | r p =>
  have hg:=hs.g hk
  obtain⟨k1,k2,k3,k4,k5⟩:=g.1.step hg n (by have:=hs.ac; omega)
  refine⟨k3,k4,?_,by have:=k1; exact k1,?_⟩
  ·show HS (k+1) (p.step H n).2
   unfold RP.step
   split
   ·exact hs.mono (by omega)
   rename_i hen
   split
   ·exact hs.mono (by omega)
   rename_i hz
   have h8:p.ph≠8:=fun h=>by simp[RP.enabled,h] at hen
   have hat:=g.1.at_ h8 hz
   have hss:p.s<H.n:=by rw[RP.s_lt hat]; exact g.1.ss _ (List.getElem_mem _)
   unfold RP.go
   split
   ·exact hs.epoch _ _
   split
   ·exact hs.snap _ _
   split
   ·exact hs.look _
   split
   ·exact hs.look _
   split
   ·exact hs.epoch _ _
   split
   ·exact hs.lock hss g.1.wr.2
   split
   ·exact hs.read _ _
   ·exact hs.unlock hss
  ·show RA i (p.step H n).1
   have hkeep:(p.step H n).1.who=p.who∧(p.step H n).1.ss=p.ss:=by
    unfold RP.step
    split
    ·exact⟨rfl,rfl⟩
    split
    ·exact⟨rfl,rfl⟩
    have hnx:∀ (q:RP) ph,(q.next ph).who=q.who∧(q.next ph).ss=q.ss:=fun q ph=>by unfold RP.next; split<;>exact⟨rfl,rfl⟩
    have han:∀ q:RP,q.answer.who=q.who∧q.answer.ss=q.ss:=fun q=>by unfold RP.answer; split<;>exact⟨rfl,rfl⟩
    have hju:∀ q:RP,q.judge.who=q.who∧q.judge.ss=q.ss:=fun q=>by
     unfold RP.judge
     split
     ·exact han q
     split<;>exact⟨rfl,rfl⟩
    unfold RP.go
    split
    ·exact hnx _ _
    split
    ·exact hnx _ _
    split
    ·exact⟨rfl,rfl⟩
    split
    ·exact⟨rfl,rfl⟩
    split
    ·dsimp only; split
     ·exact⟨(hju _).1.trans (hnx _ _).1,(hju _).2.trans (hnx _ _).2⟩
     ·exact hnx _ _
    split
    ·exact hnx _ _
    split
    ·exact hnx _ _
    ·dsimp only; split
     ·exact⟨(han _).1.trans (hnx _ _).1,(han _).2.trans (hnx _ _).2⟩
     ·exact hnx _ _
   exact⟨by rw[hkeep.1]; exact g.2.w,by rw[hkeep.2]; exact g.2.nd⟩
 | h p =>
  obtain⟨k1,k2,k3,k4⟩:=hstep_k p m H n
  obtain⟨n1,n2⟩:=hstep_n p m H n
  exact⟨n1,n2,hs.hstep g.1 m n,g.1.step m n,by rw[show (p.step m H n).1.who=p.who from k1]; exact g.2.w,g.2.i8,fun h=>by rw[show (p.step m H n).1.x=p.x from k2] at h ⊢; exact g.2.k6 h,by rw[show (p.step m H n).1.s=p.s from k4,show (p.step m H n).1.x=p.x from k2]; exact g.2.s⟩
theorem tb_n {i:Nat}{p:PR}{H:Hall}{M:Tbl}(hn:M.n=H.n)(g:PA H.n i H.c p):(p.tb H M).n=M.n∧(p.tb H M).c=M.c:=by
 unfold PR.tb
 split
 ·cases p with
  | w p =>
   cases hk:p.k with
   | bad=>simp[PR.bef,hk,WK.bef]
   | op x=>have:=bef_t (k:=p.k) (s:=p.s) (M:=M) (by simp[hk,WK.isBad]) (by rw[hn]; exact g.1.s); exact⟨this.2.2,this.2.1⟩
   | sweep=>have:=bef_t (k:=p.k) (s:=p.s) (M:=M) (by simp[hk,WK.isBad]) (by rw[hn]; exact g.1.s); exact⟨this.2.2,this.2.1⟩
  | r p=>exact⟨rfl,rfl⟩
  | h p =>
   simp only[PR.bef]
   unfold Tbl.do_
   split
   ·exact⟨rfl,rfl⟩
   split
   ·unfold Tbl.write; split<;>exact⟨rfl,rfl⟩
   split
   ·exact⟨rfl,rfl⟩
   split
   ·exact⟨rfl,rfl⟩
   split
   ·unfold Tbl.watch; split<;>exact⟨rfl,rfl⟩
   split
   ·exact⟨rfl,rfl⟩
   split<;>exact⟨rfl,rfl⟩
 ·exact⟨rfl,rfl⟩
theorem tb_t {i:Nat}{p:PR}{m:Mine}{H:Hall}{M:Tbl}(ht:M.t=H.t)(hn:M.n=H.n)(g:PA H.n i H.c p)(n:Int):(p.tb H M).t=(p.step m H n).2.2.t:=by
 cases hen:p.enabled H with
 | false =>
  rw[pstep_off hen]
  simp[PR.tb,hen,ht]
 | true =>
  cases p with
  | w p =>
   have he:p.enabled H=true:=hen
   by_cases hb:p.k.isBad=true
   ·have:p.k = .bad:=by cases hk:p.k<;>simp[hk,WK.isBad] at hb ⊢
    simp[PR.tb,PR.bef,this,WK.bef,PR.step,WP.step,he,hb,ht]
    simp[this,WK.isBad,ht]
   have hb:p.k.isBad=false:=by simpa using hb
   have e3:((PR.w p).step m H n).2.2=(p.stp H n).2:=by simp[PR.step,WP.step,he,hb]
   rw[e3]
   by_cases h2:p.at_=2
   ·have e4:(PR.w p).tb H M=(p.k.bef p.s M).1:=by simp[PR.tb,PR.places,WP.places,hen,h2,PR.bef]
    rw[e4,(bef_t hb (by rw[hn]; exact g.1.s)).1,stp2 H n h2]
    simp[Tbl.take,Hall.take,Hall.did,ht]
   ·have e4:(PR.w p).tb H M=M:=by simp[PR.tb,PR.places,WP.places,hb,h2]
    rw[e4,ht]
    by_cases h0:p.at_=0
    ·rw[stp0 H n h0]; exact (lock_t _ _ _).symm
    by_cases h1:p.at_=1
    ·rw[stp1 H n h1]; rfl
    by_cases h3:p.at_=3
    ·rw[stp3 H n h3]; exact (run_ss p.k H p.who p.s p.t p.s).2.2.2.2.symm
    by_cases h4:p.at_=4
    ·rw[stp4 H n h4]; rfl
    by_cases h5:p.at_=5
    ·rw[stp5 H n h5]; rfl
    ·rw[stp6 H n (by have:=enabled_at he; omega)]; exact (unlock_t _ _ _).symm
  | r p =>
   have e4:(PR.r p).tb H M=M:=by simp[PR.tb,PR.places]
   rw[e4,ht]
   show H.t=(p.step H n).2.t
   unfold RP.step
   split
   ·rfl
   split
   ·rfl
   unfold RP.go
   split
   ·rfl
   split
   ·rfl
   split
   ·rfl
   split
   ·rfl
   split
   ·rfl
   split
   ·exact (lock_t _ _ _).symm
   split
   ·rfl
   ·exact (unlock_t _ _ _).symm
  | h p =>
   have he:p.enabled H=true:=hen
   have e3:((PR.h p).step m H n).2.2=(p.stp m H n).2.2:=by simp[PR.step,HP.step,he]
   rw[e3]
   have hcl:=g.2.cl
   have hpt:∀ (who:Int) (x:OpD),badB x=true∨x.kind≠9→(badB x=false→6≤x.kind)→(M.do_ who x).1.t=M.t:=fun who x h h6=>by
    unfold Tbl.do_
    split
    ·rfl
    rename_i hnb
    have hb:badB x=false:=by
     cases hbb:badB x with
     | true=>exact absurd (.inl hbb) hnb
     | false=>rfl
    have hk:=h6 hb
    split
    ·omega
    split
    ·rfl
    split
    ·rfl
    split
    ·unfold Tbl.watch; split<;>rfl
    split
    ·rfl
    split
    ·rcases h with h | h
     ·rw[hb] at h; cases h
     ·contradiction
    ·rfl
   by_cases hb:badB p.x=true
   ·have:((PR.h p).tb H M).t=M.t:=by
     unfold PR.tb; split
     ·exact hpt _ _ (.inl hb) g.2.k6
     ·rfl
    rw[this,ht]; simp[HP.stp,hb]
   have hb:badB p.x=false:=by simpa using hb
   by_cases h9:p.x.kind=9
   ·have e4:(PR.h p).tb H M=(M.do_ p.who p.x).1:=by simp[PR.tb,PR.places,HP.places,HP.one,h9,hen,PR.bef]
    have e5:(p.stp m H n).2.2=H.shut p.who:=by simp[HP.stp,hb,h9]
    rw[e4,e5]
    unfold Tbl.do_
    rw[if_neg (by simp[hb,hcl]),if_neg (by omega),if_neg (by omega)]
    cases htc:M.t.closed with
    | true =>
     simp only[if_true]
     rw[ht] at htc ⊢
     have:(H.shut p.who).t={ H.t with closed:=true }:=rfl
     rw[this,← htc]
    | false =>
     simp only[Bool.false_eq_true,if_false]
     rw[if_neg (by omega),if_neg (by omega),if_pos h9]
     show _={ H.t with closed:=true }
     rw[← ht]
   ·have:((PR.h p).tb H M).t=M.t:=by
     unfold PR.tb; split
     ·exact hpt _ _ (.inr h9) g.2.k6
     ·rfl
    rw[this,ht]
    simp only[HP.stp,hb,h9,Bool.false_eq_true,if_false]
    split
    ·unfold HP.stpP
     split
     ·exact (lock_t _ _ _).symm
     split
     ·rfl
     split
     ·rfl
     ·exact (unlock_t _ _ _).symm
    ·unfold HP.stpW
     split
     ·exact (lock_t _ _ _).symm
     split
     ·rfl
     split
     ·split
      ·rfl
      split<;>rfl
     ·exact (unlock_t _ _ _).symm
theorem em_of {W:Wd}{i:Nat}{p:PR}(h:W.ps i=some p):W.em i=p.em (W.ms i) W.H.c:=by simp[Wd.em,h]
theorem LI.ma {W:Wd}{M:Tbl}{k:Nat}(x:LI W M)(ts:TS k M){i:Nat}{p:HP}(hp:W.ps i=some (.h p))(h1:p.at_≠2):MA p (W.ms i) M:=by
 have hpa:=x.pa i _ hp
 have he:W.em i=W.ms i:=by rw[em_of hp]; simp[PR.em,HP.em,h1]
 have hw:=hpa.2.w
 exact⟨by rw[hw,x.ws.watching ts hpa.2.i8,he],by rw[hw,x.ws.count hpa.2.i8,he]⟩
theorem LI.loc {W:Wd}{M:Tbl}{k j:Nat}(x:LI W M)(hs:HS k W.H)(ts:TS j M){i:Nat}{p:PR}(hp:W.ps i=some p)(n:Int)(he:p.enabled W.H=true){s:Nat}(hn:s<W.H.n) :
  Loc i p (p.step (W.ms i) W.H n).1 (W.ms i) (p.step (W.ms i) W.H n).2.1 W.H (p.step (W.ms i) W.H n).2.2 M (p.tb W.H M) s:=by
 have hpa:=x.pa i _ hp
 cases p with
 | w p=>exact wloc (m:=0) hs hpa.1 hpa.2 x.t x.c x.n n hn he
 | r p=>exact rloc hpa.1 hpa.2 n hn he
 | h p=>exact hloc hpa.1 hpa.2 x.t x.c x.n (fun _ _ h=>x.ma ts hp (by omega)) n hn he
end Go.Den
namespace Go.Den
open Go
set_option linter.unusedVariables false
set_option linter.unusedSimpArgs false
theorem bef_ws {k:WK}{s:Nat}{M:Tbl}(s':Nat):((k.bef s M).1.fd s').ws=(M.fd s').ws:=by
 cases k with
 | bad=>rfl
 | op x =>
  simp only[WK.bef,Tbl.write]
  split
  ·rfl
  ·simp only[Tbl.writeAt,bset]
   split
   ·rename_i h; rw[tell_ws,h]; rfl
   ·rfl
 | sweep =>
  simp only[WK.bef,Tbl.sweep]
  split
  ·simp only[Tbl.sweepAt,bset]
   split
   ·rename_i h; rw[tell_ws,h]; rfl
   ·rfl
  ·rfl
theorem step_em_ne {W:Wd}{i:Nat}{n:Int}(hc:(W.step i n).H.c=W.H.c){j:Nat}(h:j≠i):(W.step i n).em j=W.em j:=by
 unfold Wd.em
 unfold Wd.step at hc ⊢
 cases hp:W.ps i with
 | none=>rfl
 | some p =>
  simp only[hp] at hc ⊢
  rw[bset_ne h,bset_ne h,hc]
theorem HP.em_def (p:HP)(m:Mine)(c:Cfg):p.em m c=if p.one=false∧p.x.kind≠8∧p.at_=2∧p.wres m c=0 then miset m p.x.user (decide (p.x.kind=6)) else m:=rfl
theorem LI.ws_step {W:Wd}{M:Tbl}{j:Nat}(x:LI W M)(ts:TS j M){i:Nat}{p:PR}(hp:W.ps i=some p)(n:Int)(hc:(W.step i n).H.c=W.H.c)(hm:(p.tb W.H M).n=M.n∧(p.tb W.H M).c=M.c):WsI (p.tb W.H M) (W.step i n).em:=by
 have hpa:=x.pa i p hp
 have hWi:(W.step i n).em i=(p.step (W.ms i) W.H n).1.em (p.step (W.ms i) W.H n).2.1 W.H.c:=by
  have:(W.step i n).ps i=some (p.step (W.ms i) W.H n).1:=by simp only[Wd.step,hp,bset_same]
  rw[em_of this,hc]
  simp only[Wd.step,hp,bset_same]
 have hWn:=fun j (h:j≠i)=>step_em_ne (W:=W) (i:=i) (n:=n) hc h
 have he0:=em_of hp
 -- nothing is changed
 have same:(∀ s,s<M.n→((p.tb W.H M).fd s).ws=(M.fd s).ws)→(p.step (W.ms i) W.H n).1.em (p.step (W.ms i) W.H n).2.1 W.H.c=p.em (W.ms i) W.H.c→WsI (p.tb W.H M) (W.step i n).em:=fun h1 h2 =>
  x.ws.same hm.1 hm.2 h1 fun j hj=>by
   by_cases h:j=i
   ·subst h; rw[hWi,he0,h2]
   ·exact hWn j h
 cases hen:p.enabled W.H with
 | false =>
  refine same (fun s _=>by simp[PR.tb,hen]) ?_
  rw[pstep_off hen]
 | true =>
  cases p with
  | w p =>
   refine same (fun s _=>?_) rfl
   unfold PR.tb; split
   ·exact bef_ws s
   ·rfl
  | r p=>exact same (fun s _=>by simp[PR.tb,PR.places]) rfl
  | h p =>
   have he:p.enabled W.H=true:=hen
   have hl:=HP.lt_of_en he
   have e3:(PR.h p).step (W.ms i) W.H n=(.h (p.stp (W.ms i) W.H n).1,(p.stp (W.ms i) W.H n).2.1,(p.stp (W.ms i) W.H n).2.2):=by simp[PR.step,HP.step,he]
   rw[e3] at same hWi
   dsimp only[PR.em] at same hWi he0
   have hcl:=hpa.2.cl
   by_cases hb:badB p.x=true
   ·refine same (fun s _=>?_) ?_
    ·unfold PR.tb; split
     ·simp[PR.bef,Tbl.do_,hb]
     ·rfl
    ·simp[HP.stp,hb,HP.em,HP.one]
   have hb:badB p.x=false:=by simpa using hb
   by_cases h9:p.x.kind=9
   ·refine same (fun s _=>?_) ?_
    ·unfold PR.tb; split
     ·simp only[PR.bef]
      unfold Tbl.do_
      rw[if_neg (by simp[hb,hcl]),if_neg (by omega),if_neg (by omega)]
      split
      ·rfl
      rw[if_neg (by omega),if_neg (by omega)]
      try rw[if_pos h9]
     ·rfl
    ·simp[HP.stp,hb,HP.em,HP.one,h9]
   have one:p.one=false:=by simp[HP.one,hb,h9]
   by_cases h8:p.x.kind=8
   ·have hem:∀ q:HP,q.x=p.x→q.em (W.ms i) W.H.c=W.ms i:=fun q hq=>by rw[HP.em_def,if_neg (by rw[hq]; simp[h8])]
    have hx:(p.stpP W.H n).1.x=p.x:=by
     unfold HP.stpP; split
     ·rfl
     split
     ·rfl
     split<;>rfl
    have estp:p.stp (W.ms i) W.H n=((p.stpP W.H n).1,W.ms i,(p.stpP W.H n).2):=by simp[HP.stp,hb,h8]
    refine same (fun s _=>?_) (by rw[estp]; dsimp only; rw[hem _ hx,hem p rfl])
    unfold PR.tb; split
    ·simp only[PR.bef]
     unfold Tbl.do_
     rw[if_neg (by simp[hb,hcl]),if_neg (by omega),if_pos h8]
     have hdw:=drain_ws (M.fd s) p.who
     show (if s<M.n then (M.fd s).drain p.who else M.fd s).ws=_
     by_cases hsn:s<M.n
     ·rw[if_pos hsn]; exact hdw
     ·rw[if_neg hsn]
    ·rfl
   -- a Watch or Unwatch
   have estp:p.stp (W.ms i) W.H n=p.stpW (W.ms i) W.H n:=by simp[HP.stp,hb,h9,h8]
   rw[estp] at same hWi
   have hst:p.steps=4:=(HP.kind_of hb h9 h8).2
   by_cases h1:p.at_=1
   ·have hpl:p.places=true:=by simp[HP.places,one,h8,h1]
    have etb:(PR.h p).tb W.H M=(M.do_ p.who p.x).1:=by simp[PR.tb,PR.places,hen,hpl,PR.bef]
    have ma:=x.ma ts hp (by omega)
    have hdo:=(do_watch (i:=i) (p:={ p with t:=W.H.t }) (m:=W.ms i) (M:=M) (c:=W.H.c) ⟨hpa.2.w,hpa.2.i8,hpa.2.k6,hpa.2.s⟩ x.c ⟨ma.wt,ma.ct⟩ x.t.symm hb h9 h8).1
    dsimp only at hdo
    have e1:p.stpW (W.ms i) W.H n=({ p with at_:=2,t:=W.H.t,placed:=n },W.ms i,W.H.look p.who):=by simp[HP.stpW,h1]
    rw[e1] at hWi
    dsimp only at hWi
    rw[HP.em_def] at hWi
    dsimp only at hWi
    have hwr:({ p with at_:=2,t:=W.H.t,placed:=n }:HP).wres (W.ms i) W.H.c=({ p with t:=W.H.t }:HP).wres (W.ms i) W.H.c:=rfl
    have ho:({ p with at_:=2,t:=W.H.t,placed:=n }:HP).one=false:=one
    rw[hwr,ho] at hWi
    have hei:W.em i=W.ms i:=by rw[he0,HP.em_def,if_neg (by omega)]
    rw[etb,hdo]
    by_cases hr:({ p with t:=W.H.t }:HP).wres (W.ms i) W.H.c=0
    ·rw[if_pos hr]
     rw[if_pos ⟨rfl,h8,rfl,hr⟩] at hWi
     refine WsI.put (p:={ p with t:=W.H.t }) x.ws ts hpa.2.i8 hpa.2.w (by rw[hpa.2.s,Tbl.stripe,x.c]) ?_ fun j hj=>hWn j hj
     rw[hWi,hei]
    ·rw[if_neg hr]
     rw[if_neg (fun h=>hr h.2.2.2)] at hWi
     refine x.ws.same rfl rfl (fun _ _=>rfl) fun j hj=>?_
     by_cases h:j=i
     ·subst h; rw[hWi,hei]
     ·exact hWn j h
   have hpl:p.places=false:=by simp[HP.places,one,h8,h1]
   have etn:(PR.h p).tb W.H M=M:=by simp[PR.tb,PR.places,hpl]
   refine same (fun s _=>by rw[etn]) ?_
   rw[HP.em_def p]
   unfold HP.stpW
   by_cases h0:p.at_=0
   ·rw[if_pos h0,if_neg (by omega)]
    dsimp only
    rw[HP.em_def,if_neg (by dsimp only; omega)]
   rw[if_neg h0,if_neg h1]
   by_cases h2:p.at_=2
   ·rw[if_pos h2]
    by_cases hcl':p.t.closed=true
    ·have hr:p.wres (W.ms i) W.H.c=5:=by simp[HP.wres,hcl']
     rw[if_pos hcl',if_neg (by omega)]
     dsimp only
     rw[HP.em_def,if_neg (by dsimp only; omega)]
    by_cases hcc:p.x.kind=6∧mhas (W.ms i) p.x.user=false∧W.H.c.watches≤((W.ms i).length:Int)
    ·have hr:p.wres (W.ms i) W.H.c=4:=by simp[HP.wres,hcl',hcc.1,hcc.2.1,hcc.2.2]
     rw[if_neg hcl',if_pos hcc,if_neg (by omega)]
     dsimp only
     rw[HP.em_def,if_neg (by dsimp only; omega)]
    ·have hr:p.wres (W.ms i) W.H.c=0:=by unfold HP.wres; rw[if_neg hcl',if_neg hcc]
     rw[if_neg hcl',if_neg hcc,if_pos ⟨one,h8,h2,hr⟩]
     dsimp only
     rw[HP.em_def,if_neg (by dsimp only; omega)]
   ·rw[if_neg h2,if_neg (by omega)]
    dsimp only
    rw[HP.em_def,if_neg (by dsimp only; omega)]
theorem PA.ow {n i:Nat}{c:Cfg}{p:PR}(g:PA n i c p):p.owd:=by
 cases p with
 | w p=>exact g.1.o
 | r p=>trivial
 | h p=>exact g.1.o
theorem LI.step {W:Wd}{M:Tbl}{k j:Nat}(x:LI W M)(hs:HS k W.H)(hk:k<100000)(ts:TS j M){i:Nat}{p:PR}(hp:W.ps i=some p)(n:Int) :
  LI (W.step i n) (p.tb W.H M)∧HS (k+1) (W.step i n).H∧TS (j+1) (p.tb W.H M):=by
 have hpa:=x.pa i p hp
 obtain⟨n1,n2,n3,n4⟩:=pstep_n (m:=W.ms i) hs n hk hpa
 have hH:(W.step i n).H=(p.step (W.ms i) W.H n).2.2:=by simp only[Wd.step,hp]
 have hP:∀ j,(W.step i n).ps j=if j=i then some (p.step (W.ms i) W.H n).1 else W.ps j:=fun j=>by simp only[Wd.step,hp,bset]
 have hM:∀ j,(W.step i n).ms j=if j=i then (p.step (W.ms i) W.H n).2.1 else W.ms j:=fun j=>by simp only[Wd.step,hp,bset]
 have tbn:=tb_n x.n hpa
 have hc:(W.step i n).H.c=W.H.c:=by rw[hH]; exact n2
 have hpa':∀ j q,(W.step i n).ps j=some q→PA W.H.n j W.H.c q:=fun j q hq=>by
  rw[hP] at hq
  split at hq
  ·rename_i h; simp only[Option.some.injEq] at hq; subst hq; subst h; exact n4
  ·exact x.pa j q hq
 refine⟨?_,by rw[hH]; exact n3,ts.tb hpa.ow⟩
 cases hen:p.enabled W.H with
 | false =>
  have e:=pstep_off (m:=W.ms i) (n:=n) hen
  have e1:W.step i n=W:=by
   simp only[Wd.step,hp,e]
   rw[← hp,bset_id,bset_id]
  have e2:p.tb W.H M=M:=by simp[PR.tb,hen]
  rw[e1,e2]; exact x
 | true =>
  have L:=fun s hn=>x.loc hs ts hp n hen (s:=s) hn
  rw[← hH] at L
  refine⟨by rw[hH]; exact tb_t x.t x.n hpa n,tbn.2.trans (x.c.trans hc.symm),tbn.1.trans (x.n.trans (by rw[hH]; exact n1.symm)),fun s hs'=>?_,fun j q s hs' hq hh=>?_,fun j q hq=>?_,x.ws_step ts hp n hc tbn⟩
  ·have hsn:s<W.H.n:=by rw[hH,n1] at hs'; exact hs'
   have Ls:=L s hsn
   by_cases hh:p.holds s
   ·have hwho:=x.own i p s hsn hp hh
    have hd:Held p (W.ms i) W.H.c s (W.H.ss s) (M.st s):=by
     rcases x.st s hsn with h | ⟨j,q,h1,h2,h3,h4⟩
     ·have:=h.wh; omega
     ·have:j=i:=by omega
      subst this
      rw[hp] at h1; cases h1
      exact h4
    rcases Ls.a hh hwho hd with ⟨h1,h2,h3⟩ | ⟨h1,h2⟩
    ·refine .inr ⟨i,_,by rw[hP,if_pos rfl],h1,h2,?_⟩
     rw[hM,if_pos rfl,hc]; exact h3
    ·exact .inl h2
   ·rcases Ls.b hh with ⟨h1,h2,h3⟩ | ⟨h1,h2,h3,h4,h5,h6,h7⟩
    ·rw[h1,h2]
     rcases x.st s hsn with h | ⟨j,q,g1,g2,g3,g4⟩
     ·exact .inl h
     ·have hji:j≠i:=fun h=>by
       subst h
       rw[hp] at g1; cases g1
       exact hh g2
      refine .inr ⟨j,q,by rw[hP,if_neg hji]; exact g1,g2,g3,?_⟩
      rw[hM,if_neg hji,hc]; exact g4
    ·rw[h2,h4]
     rcases x.st s hsn with h | ⟨j,q,g1,g2,g3,g4⟩
     ·refine .inr ⟨i,_,by rw[hP,if_pos rfl],h3,rfl,?_⟩
      rw[hM,if_pos rfl,hc]
      exact⟨by rw[h7]; exact h.e,fun hh=>absurd hh h5,fun _=>⟨h.v,h.q⟩,fun hh=>absurd hh h6⟩
     ·omega
  ·have hsn:s<W.H.n:=by rw[hH,n1] at hs'; exact hs'
   have Ls:=L s hsn
   rw[hP] at hq
   by_cases hji:j=i
   ·subst hji
    rw[if_pos rfl] at hq
    simp only[Option.some.injEq] at hq
    subst hq
    by_cases hph:p.holds s
    ·have hwho:=x.own j p s hsn hp hph
     have hd:Held p (W.ms j) W.H.c s (W.H.ss s) (M.st s):=by
      rcases x.st s hsn with h | ⟨j',q,h1,h2,h3,h4⟩
      ·have:=h.wh; omega
      ·have:j'=j:=by omega
       subst this
       rw[hp] at h1; cases h1
       exact h4
     rcases Ls.a hph hwho hd with ⟨h1,h2,h3⟩ | ⟨h1,h2⟩
     ·exact h2
     ·exact absurd hh h1
    ·rcases Ls.b hph with ⟨h1,h2,h3⟩ | ⟨h1,h2,h3,h4,h5,h6,h7⟩
     ·exact absurd hh h3
     ·rw[h4]
   ·rw[if_neg hji] at hq
    have hwho:=x.own j q s hsn hq hh
    have hph:¬ p.holds s:=fun h=>by
     have:=x.own i p s hsn hp h
     omega
    rcases Ls.b hph with ⟨h1,h2,h3⟩ | ⟨h1,h2,h3,h4,h5,h6,h7⟩
    ·rw[h1]; exact hwho
    ·omega
  ·rw[hH,n1,n2]; exact hpa' j q hq
end Go.Den
namespace Go.Den
open Go
set_option linter.unusedVariables false
set_option linter.unusedSimpArgs false
theorem LI.free_of {W:Wd}{M:Tbl}(x:LI W M){i:Nat}{p:PR}(hp:W.ps i=some p){s:Nat}(hs:s<W.H.n)(hh:p.holds s):Held p (W.ms i) W.H.c s (W.H.ss s) (M.st s):=by
 have hwho:=x.own i p s hs hp hh
 rcases x.st s hs with h | ⟨j,q,h1,h2,h3,h4⟩
 ·have:=h.wh; omega
 ·have:j=i:=by omega
  subst this
  rw[hp] at h1; cases h1
  exact h4
end Go.Den
namespace Go.Den
open Go
set_option linter.unusedVariables false
set_option linter.unusedSimpArgs false
def BD (H:Hall):Prop:=∀ s,s<H.n→(H.ss s).bound=evn H.c.epochs
structure Vm (x x':Strp):Prop where
 b:x'.bound=x.bound
 v:x.v≤x'.v
 q:x'.v=x.v→wrt x.v=false→x.v<x.bound→x'.snap=x.snap
theorem Vm.refl (x:Strp):Vm x x:=⟨rfl,Int.le_refl _,fun _ _ _=>rfl⟩
theorem endV_ge (v:Int):v≤endV v:=by unfold endV; split<;>omega
theorem bgn_ge (v b:Int):v≤bgn v b:=by unfold bgn; split<;>omega
theorem Vm.put {H:Hall}{s:Nat}{y:Strp}(h:Vm (H.ss s) y)(H':Hall)(e:H'.ss=H.ss)(t:Nat):Vm (H.ss t) ((H'.put s y).ss t):=by
 simp only[Hall.put,sput,e]
 by_cases hh:t=s
 ·subst hh; rw[if_pos rfl]; exact h
 ·rw[if_neg hh]; exact Vm.refl _
theorem Vm.lock (H:Hall)(w:Int)(s t:Nat):Vm (H.ss t) ((H.lock w s).ss t):=by
 unfold Hall.lock; split
 ·refine Vm.put ?_ _ rfl t
  exact⟨rfl,Int.le_refl _,fun _ _ _=>rfl⟩
 ·exact Vm.refl _
theorem Vm.unlock (H:Hall)(w:Int)(s t:Nat):Vm (H.ss t) ((H.unlock w s).ss t):=by
 unfold Hall.unlock; split
 ·refine Vm.put ?_ _ rfl t
  exact⟨rfl,Int.le_refl _,fun _ _ _=>rfl⟩
 ·exact Vm.refl _
theorem Vm.fed (H:Hall)(w:Int)(s:Nat)(f:Feed)(t:Nat):Vm (H.ss t) ((H.fed w s f).ss t):=by
 refine Vm.put ?_ _ rfl t
 exact⟨rfl,Int.le_refl _,fun _ _ _=>rfl⟩
theorem Vm.run (k:WK)(H:Hall)(w:Int)(s:Nat)(t:Tm)(s':Nat):Vm (H.ss s') ((k.run H w s t).1.ss s'):=by
 obtain⟨h1,h2,h3,h4,h5⟩:=run_ss k H w s t s'
 exact⟨h3,by rw[h2]; exact Int.le_refl _,fun _ _ _=>h4⟩
theorem LI.vm {W:Wd}{M:Tbl}{k:Nat}(x:LI W M){i:Nat}{p:PR}(hp:W.ps i=some p)(n:Int)(s:Nat)(hs:s<W.H.n):Vm (W.H.ss s) ((p.step (W.ms i) W.H n).2.2.ss s):=by
 have hpa:=x.pa i p hp
 cases hen:p.enabled W.H with
 | false=>rw[pstep_off hen]; exact Vm.refl _
 | true =>
  cases p with
  | w p =>
   have he:p.enabled W.H=true:=hen
   by_cases hb:p.k.isBad=true
   ·have e1:(PR.w p).step (W.ms i) W.H n=(.w { p with err:=1,placed:=n,at_:=7 },W.ms i,W.H):=by simp[PR.step,WP.step,he,hb]
    rw[e1]; exact Vm.refl _
   have hb:p.k.isBad=false:=by simpa using hb
   have e3:(PR.w p).step (W.ms i) W.H n=(.w (p.stp W.H n).1,W.ms i,(p.stp W.H n).2):=by simp[PR.step,WP.step,he,hb]
   rw[e3]
   by_cases h0:p.at_=0
   ·rw[stp0 W.H n h0]; exact Vm.lock _ _ _ _
   by_cases h1:p.at_=1
   ·rw[stp1 W.H n h1]
    refine Vm.put ?_ _ rfl s
    exact⟨rfl,bgn_ge _ _,fun _ _ _=>rfl⟩
   by_cases h2:p.at_=2
   ·rw[stp2 W.H n h2]; exact Vm.refl _
   by_cases h3:p.at_=3
   ·rw[stp3 W.H n h3]; exact Vm.run _ _ _ _ _ _
   by_cases h4:p.at_=4
   ·rw[stp4 W.H n h4]
    have hd:=x.free_of hp hpa.1.s (s:=p.s) ⟨hb,by omega,by omega,rfl⟩
    have hv:=hd.v ⟨hb,by omega,by omega,rfl⟩
    refine Vm.put ?_ _ rfl s
    refine⟨rfl,Int.le_refl _,fun _ a b=>?_⟩
    rcases hv with h | h
    ·rw[h] at a; cases a
    ·omega
   by_cases h5:p.at_=5
   ·rw[stp5 W.H n h5]
    refine Vm.put ?_ _ rfl s
    exact⟨rfl,endV_ge _,fun _ _ _=>rfl⟩
   ·rw[stp6 W.H n (by have:=enabled_at he; omega)]; exact Vm.unlock _ _ _ _
  | r p =>
   show Vm _ ((p.step W.H n).2.ss s)
   unfold RP.step
   split
   ·exact Vm.refl _
   split
   ·exact Vm.refl _
   unfold RP.go
   split
   ·exact Vm.refl _
   split
   ·exact Vm.refl _
   split
   ·exact Vm.refl _
   split
   ·exact Vm.refl _
   split
   ·exact Vm.refl _
   split
   ·exact Vm.lock _ _ _ _
   split
   ·exact Vm.refl _
   ·exact Vm.unlock _ _ _ _
  | h p =>
   have he:p.enabled W.H=true:=hen
   have e3:((PR.h p).step (W.ms i) W.H n).2.2=(p.stp (W.ms i) W.H n).2.2:=by simp[PR.step,HP.step,he]
   rw[e3]
   unfold HP.stp
   split
   ·exact Vm.refl _
   split
   ·exact Vm.refl _
   split
   ·unfold HP.stpP
    split
    ·exact Vm.lock _ _ _ _
    split
    ·exact Vm.refl _
    split
    ·exact Vm.fed _ _ _ _ _
    ·exact Vm.unlock _ _ _ _
   ·unfold HP.stpW
    split
    ·exact Vm.lock _ _ _ _
    split
    ·exact Vm.refl _
    split
    ·split
     ·exact Vm.refl _
     split
     ·exact Vm.refl _
     ·exact Vm.fed _ _ _ _ _
    ·exact Vm.unlock _ _ _ _
def clean (H:Hall)(s:Nat)(e:Int):Prop:=(H.ss s).v=e∧wrt e=false∧e<(H.ss s).bound
structure RO (p:RP)(H:Hall)(x:OpD)(L:Tbl)(tn:Int):Prop where
 us:p.users=if badB x then [] else usersOf x
 of:p.of=H.c.stripes
 ss:p.ss=stripesOf p.users p.of
 lc:L.c=H.c
 e:∀ j (hj:j<p.ss.length),((p.ph=0∧j<p.at_)∨(1≤p.ph∧p.ph≤3))→p.ep j≤(H.ss p.ss[j]).v ∧
  (clean H p.ss[j] (p.ep j)→(((p.ph=1∧j<p.at_)∨p.ph=2)→p.seen p.ss[j]=some (H.ss p.ss[j]).snap)∧(p.ph=3→p.seen p.ss[j]=some (L.bk p.ss[j])))
 t3:p.ph=3→p.t=L.t∧p.looked=tn
 va:p.ph=3→p.valid=true→∀ j (hj:j<p.ss.length),j<p.at_→p.seen p.ss[j]=some (L.bk p.ss[j])
 k6:p.ph=6→(p.t=L.t∧p.looked=tn)∧(∀ s∈p.ss,(H.ss s).book=L.bk s)∧∀ j (hj:j<p.ss.length),j<p.at_→p.seen p.ss[j]=some (L.bk p.ss[j])
 k7:p.ph=7→(p.t=L.t∧p.looked=tn)∧∀ s∈p.ss,p.seen s=some (L.bk s)
 f8:p.ph=8→p.placed=tn∧(p.ss=[]→p.err=1∧p.vals=[])∧(p.ss≠[]→(L.t.closed=true→p.err=5∧p.vals=[])∧(L.t.closed=false→p.err=0∧p.vals=p.users.map L.pres))
 n8:p.ph≠8→p.err=0∧p.vals=[]
 a0:p.ph=2∨p.ph=5→p.at_=0
theorem RO.frame {p:RP}{n:Nat}{H H':Hall}{x:OpD}{L:Tbl}{tn:Int}(r:RO p H x L tn)(rk:RK n p)(hc:H'.c=H.c)(hv:∀ s,s<n→Vm (H.ss s) (H'.ss s))(hh:∀ s,p.holds s→s<n→H'.ss s=H.ss s):RO p H' x L tn:=by
 refine⟨r.us,by rw[hc]; exact r.of,r.ss,by rw[hc]; exact r.lc,fun j hj hph=>?_,r.t3,r.va,fun h6=>?_,r.k7,r.f8,r.n8,r.a0⟩
 ·obtain⟨e1,e2⟩:=r.e j hj hph
  have hsn:p.ss[j]<n:=rk.ss _ (List.getElem_mem _)
  have v:=hv _ hsn
  have hle:=v.v
  refine⟨by omega,fun hcl=>?_⟩
  obtain⟨c1,c2,c3⟩:=hcl
  have hve:(H.ss p.ss[j]).v=p.ep j:=by omega
  have hb:=v.b
  have hcl':clean H p.ss[j] (p.ep j):=⟨hve,c2,by omega⟩
  obtain⟨f1,f2⟩:=e2 hcl'
  have hsn:=v.q (by omega) (by rw[hve]; exact c2) (by omega)
  exact⟨fun h=>by rw[hsn]; exact f1 h,f2⟩
 ·obtain⟨a,b,c⟩:=r.k6 h6
  exact⟨a,fun s hs=>by rw[hh s (.inr (.inl ⟨.inr h6,hs⟩)) (rk.ss s hs)]; exact b s hs,c⟩
def RP.looks (p:RP):Bool:=decide (p.ss=[]) || (decide (p.ph=2) || decide (p.ph=5))
theorem mem_stripes {users:List ByteArray}{n:Int}(hn:1≤n∧n≤8){u:ByteArray}(hu:u∈users):(stripeOf u n).toNat∈stripesOf users n∧stripeOf u n=((stripeOf u n).toNat:Int):=by
 have:=stripeOf_lt (u:=u) (n:=n) hn.1
 refine⟨List.mem_filter.2 ⟨by simp; omega,?_⟩,by omega⟩
 unfold inS
 rw[List.any_eq_true]
 exact⟨u,hu,by simp; omega⟩
theorem tell_pres {p:RP}{H:Hall}{L:Tbl}{k:Nat}(hs:HS k H)(hof:p.of=H.c.stripes)(hss:p.ss=stripesOf p.users p.of)(hlc:L.c=H.c)(ht:p.t=L.t)(hseen:∀ s∈p.ss,p.seen s=some (L.bk s)):p.users.map p.tell=p.users.map L.pres:=by
 refine List.map_congr_left fun u hu=>?_
 have hn:=hs.n8; have hnn:=hs.nn
 obtain⟨h1,h2⟩:=mem_stripes (users:=p.users) (n:=p.of) (by omega) hu
 rw[← hss] at h1
 unfold RP.tell Tbl.pres Tbl.stripe
 rw[h2,hseen _ h1,ht,hlc,← hof]; rfl
theorem seenset_self (f:Int→Option Book)(i:Int)(v:Book):seenset f i v i=some v:=by simp[seenset]
theorem seenset_ne {f:Int→Option Book}{i j:Int}{v:Book}(h:j≠i):seenset f i v j=f j:=by simp[seenset,h]
theorem nd_ne {l:List Nat}(nd:l.Nodup){i j:Nat}(hi:i<l.length)(hj:j<l.length)(h:i≠j):(l[i]:Int)≠l[j]:=by
 intro e
 have:l[i]=l[j]:=by omega
 exact h ((List.getElem_inj nd).1 this)
theorem LI.quietC {W:Wd}{M:Tbl}(x:LI W M){s:Nat}(hs:s<W.H.n)(h1:wrt (W.H.ss s).v=false)(h2:(W.H.ss s).v<(W.H.ss s).bound):(W.H.ss s).snap=M.bk s:=by
 rcases x.st _ hs with h | ⟨i',q,g1,g2,g3,g4⟩
 ·have:=h.e
  simp only[Tbl.st,Prod.mk.injEq] at this
  rw[this.1,h.q]
 ·have hm:¬ q.mid s:=fun h=>by
   rcases g4.v h with h | h
   ·rw[h1] at h; cases h
   ·omega
  have hq:=(g4.q hm).2
  have he:=g4.e
  have hb1:(q.pend (W.ms i') W.H.c s ((W.H.ss s).book,(W.H.ss s).feed)).1=(W.H.ss s).book:=by
   cases q with
   | w q =>
    simp only[PR.pend,WP.pend]
    split
    ·rename_i h
     by_cases hb:q.k.isBad=true
     ·have:q.k = .bad:=by cases hk:q.k<;>simp[hk,WK.isBad] at hb ⊢
      rw[this]; rfl
     ·exact absurd ⟨by simpa using hb,by omega,by omega,h.2⟩ hm
    ·rfl
   | r q=>rfl
   | h q =>
    simp only[PR.pend,HP.pend]
    split
    ·rfl
    split
    ·split<;>rfl
    ·split<;>rfl
  have:=congrArg Prod.fst he
  rw[hb1] at this
  rw[hq]; exact this.symm
theorem RO.ans {p:RP}{H:Hall}{x:OpD}{L:Tbl}{tn:Int}{k:Nat}(hs:HS k H)(us:p.users=if badB x then [] else usersOf x)(of:p.of=H.c.stripes)(ss:p.ss=stripesOf p.users p.of)(lc:L.c=H.c)
  (ht:p.t=L.t) (hl:p.looked=tn) (hv:p.err=0∧p.vals=[]) (hz:p.ss≠[]) (hseen:p.t.closed=false→∀ s∈p.ss,p.seen s=some (L.bk s)) {q:RP} (hq:q={ p.answer with ph:=8 }):RO q H x L tn:=by
 have e1:q.users=p.users:=by rw[hq]; unfold RP.answer; split<;>rfl
 have e2:q.of=p.of:=by rw[hq]; unfold RP.answer; split<;>rfl
 have e3:q.ss=p.ss:=by rw[hq]; unfold RP.answer; split<;>rfl
 have e4:q.ph=8:=by rw[hq]
 have e5:q.placed=tn:=by rw[hq,← hl]; unfold RP.answer; split<;>rfl
 refine⟨by rw[e1]; exact us,by rw[e2]; exact of,by rw[e1,e2,e3]; exact ss,lc,fun j hj h=>by rw[e4] at h; omega,fun h=>by rw[e4] at h; omega,fun h=>by rw[e4] at h; omega,fun h=>by rw[e4] at h; omega,fun h=>by rw[e4] at h; omega,fun _=>⟨e5,fun h=>by rw[e3] at h; exact absurd h hz,fun _=>⟨fun hc=>?_,fun hc=>?_⟩⟩,fun h=>absurd e4 h,fun h=>by rw[e4] at h; omega⟩
 ·rw[← ht] at hc; rw[hq]; simp[RP.answer,hc]
 ·rw[← ht] at hc
  have:=tell_pres (p:=p) hs of ss lc ht (hseen hc)
  rw[e1,hq]; simp[RP.answer,hc,hv.1,hv.2,this]
theorem LI.ro_step {W : Wd} {M : Tbl} {k : Nat} (x : LI W M) (hs : HS k W.H) (bd : BD W.H) {i : Nat} {p : RP} (hp : W.ps i = some (.r p)) (n : Int) {o : OpD} {L : Tbl} {tn : Int} (ro : RO p W.H o L tn) :
    RO (p.step W.H n).1 (p.step W.H n).2 o (if p.enabled W.H = true ∧ p.looks = true then M else L) (if p.enabled W.H = true ∧ p.looks = true then n else tn) := by
  have hpa := x.pa i _ hp
  have rk : RK W.H.n p := hpa.1
  have ra : RA i p := hpa.2
  have nd := ra.nd
  by_cases hen : p.enabled W.H = true
  rotate_left
  · have hen : p.enabled W.H = false := by simpa using hen
    have : p.step W.H n = (p, W.H) := by simp [RP.step, hen]
    rw [this]; simpa [hen] using ro
  have h8 : p.ph ≠ 8 := fun h => by simp [RP.enabled, h] at hen
  by_cases hz : p.ss = []
  · have : p.step W.H n = ({ p with err := 1, vals := [], placed := n, ph := 8 }, W.H) := by simp [RP.step, hen, hz]
    rw [this]
    have hlk : p.looks = true := by simp [RP.looks, hz]
    rw [if_pos ⟨hen, hlk⟩, if_pos ⟨hen, hlk⟩]
    exact ⟨ro.us, ro.of, ro.ss, x.c, fun j hj => by dsimp only at hj; rw [hz] at hj; simp at hj, fun h => by simp at h, fun h => by simp at h, fun h => by simp at h, fun h => by simp at h, fun _ => ⟨rfl, fun _ => ⟨rfl, rfl⟩, fun h => absurd hz h⟩, fun h => absurd rfl h, fun h => by simp at h⟩
  have hat := rk.at_ h8 hz
  have hatl : p.at_ < p.ss.length := hat
  have hss : p.s = p.ss[p.at_]'hatl := RP.s_lt hat
  have hsn : p.s < W.H.n := by rw [hss]; exact rk.ss _ (List.getElem_mem _)
  have hjn : ∀ j (hj : j < p.ss.length), p.ss[j] < W.H.n := fun j hj => rk.ss _ (List.getElem_mem _)
  have e1 : p.step W.H n = p.go W.H n := by simp [RP.step, hen, hz]
  rw [e1]
  have hph := rk.ph
  obtain ⟨n81, n82⟩ := ro.n8 h8
  have hlk0 : p.ph ≠ 2 → p.ph ≠ 5 → ¬ (p.enabled W.H = true ∧ p.looks = true) := fun a b h => by simp [RP.looks, hz, a, b] at h
  by_cases h2 : p.ph = 2
  · have hlk : p.looks = true := by simp [RP.looks, h2]
    rw [if_pos ⟨hen, hlk⟩, if_pos ⟨hen, hlk⟩]
    have : p.go W.H n = ({ p with t := W.H.t, looked := n, ph := 3 }, W.H.look p.who) := by simp [RP.go, h2]
    rw [this]
    have h0 := ro.a0 (.inl h2)
    refine ⟨ro.us, ro.of, ro.ss, x.c, fun j hj _ => ?_, fun _ => ⟨x.t.symm, rfl⟩, fun _ _ j hj hja => by dsimp only at hja; omega, fun h => by simp at h, fun h => by simp at h, fun h => by simp at h, fun _ => ⟨n81, n82⟩, fun h => by simp at h⟩
    obtain ⟨f1, f2⟩ := ro.e j hj (.inr (by omega))
    refine ⟨f1, fun hcl => ⟨fun h => by rcases h with h | h <;> simp at h, fun _ => ?_⟩⟩
    dsimp only
    obtain ⟨c1, c2, c3⟩ := hcl
    have c1 : (W.H.ss p.ss[j]).v = p.ep j := c1
    have c3 : p.ep j < (W.H.ss p.ss[j]).bound := c3
    rw [(f2 ⟨c1, c2, c3⟩).1 (.inr h2), x.quietC (hjn j hj) (by rw [c1]; exact c2) (by omega)]
  by_cases h5 : p.ph = 5
  · have hlk : p.looks = true := by simp [RP.looks, h5]
    rw [if_pos ⟨hen, hlk⟩, if_pos ⟨hen, hlk⟩]
    have : p.go W.H n = ({ p with t := W.H.t, looked := n, ph := 6, placed := n }, W.H.look p.who) := by simp [RP.go, h5]
    rw [this]
    have h0 := ro.a0 (.inr h5)
    refine ⟨ro.us, ro.of, ro.ss, x.c, fun j hj h => by simp at h, fun h => by simp at h, fun h => by simp at h, fun _ => ⟨⟨x.t.symm, rfl⟩, fun s hs' => ?_, fun j hj hja => by dsimp only at hja; omega⟩, fun h => by simp at h, fun h => by simp at h, fun _ => ⟨n81, n82⟩, fun h => by simp at h⟩
    have hd := x.free_of hp (rk.ss s hs') (.inr (.inl ⟨.inl h5, hs'⟩))
    have := congrArg Prod.fst hd.e
    exact this.symm
  rw [if_neg (hlk0 h2 h5), if_neg (hlk0 h2 h5)]
  by_cases h0 : p.ph = 0
  · obtain ⟨q, hq⟩ : ∃ q : RP, q = { p with ep := epset p.ep p.at_ (W.H.ss p.s).v, spent := p.spent || decide (evn W.H.c.epochs ≤ (W.H.ss p.s).v) } := ⟨_, rfl⟩
    have : p.go W.H n = (q.next 1, W.H.epoch p.who p.s) := by rw [hq]; simp [RP.go, h0]
    rw [this]
    have he : ∀ j (hj : j < p.ss.length), j < p.at_ + 1 → q.ep j ≤ (W.H.ss p.ss[j]).v := fun j hj hja => by
      rw [hq]; dsimp only
      unfold epset
      by_cases hjj : j = p.at_
      · subst hjj; rw [if_pos rfl, hss]; omega
      · rw [if_neg hjj]; exact (ro.e j hj (.inl ⟨h0, by omega⟩)).1
    have q1 : q.users = p.users := by rw [hq]
    have q2 : q.of = p.of := by rw [hq]
    have q3 : q.ss = p.ss := by rw [hq]
    have q4 : q.at_ = p.at_ := by rw [hq]
    have q5 : q.ph = 0 := by rw [hq]; exact h0
    have q6 : q.err = 0 ∧ q.vals = [] := by rw [hq]; exact ⟨n81, n82⟩
    clear hq
    rcases RP.next_cases q 1 with ⟨h, e⟩ | ⟨h, e⟩ <;> rw [e]
    · refine ⟨by dsimp only; rw [q1]; exact ro.us, by dsimp only; rw [q2]; exact ro.of, by dsimp only; rw [q1, q2, q3]; exact ro.ss, ro.lc, fun j hj hc => ⟨?_, fun _ => ⟨fun h => by dsimp only at h; omega, fun h => by dsimp only at h; omega⟩⟩, fun h => by dsimp only at h; omega, fun h => by dsimp only at h; omega, fun h => by dsimp only at h; omega, fun h => by dsimp only at h; omega, fun h => by dsimp only at h; omega, fun _ => q6, fun h => by dsimp only at h; omega⟩
      dsimp only at hj hc ⊢
      simp only [q3] at hj ⊢
      exact he j hj (by omega)
    · refine ⟨by dsimp only; rw [q1]; exact ro.us, by dsimp only; rw [q2]; exact ro.of, by dsimp only; rw [q1, q2, q3]; exact ro.ss, ro.lc, fun j hj hc => ⟨?_, fun _ => ⟨fun h => by dsimp only at h; omega, fun h => by dsimp only at h; omega⟩⟩, fun h => by dsimp only at h; omega, fun h => by dsimp only at h; omega, fun h => by dsimp only at h; omega, fun h => by dsimp only at h; omega, fun h => by dsimp only at h; omega, fun _ => q6, fun h => by dsimp only at h; omega⟩
      dsimp only at hj ⊢
      simp only [q3] at hj ⊢
      exact he j hj (by have : q.k = p.ss.length := by unfold RP.k; rw [q3]
                        omega)
  by_cases h1 : p.ph = 1
  · obtain ⟨q, hq⟩ : ∃ q : RP, q = { p with seen := seenset p.seen p.s (W.H.ss p.s).snap } := ⟨_, rfl⟩
    have : p.go W.H n = (q.next 2, W.H.snap p.who p.s) := by rw [hq]; simp [RP.go, h1]
    rw [this]
    have he : ∀ j (hj : j < p.ss.length), p.ep j ≤ (W.H.ss p.ss[j]).v ∧ (clean W.H p.ss[j] (p.ep j) → j < p.at_ + 1 → q.seen p.ss[j] = some (W.H.ss p.ss[j]).snap) := fun j hj => by
      obtain ⟨f1, f2⟩ := ro.e j hj (.inr (by omega))
      refine ⟨f1, fun hc hja => ?_⟩
      rw [hq]; dsimp only
      by_cases hjj : j = p.at_
      · subst hjj; rw [hss]; exact seenset_self _ _ _
      · rw [hss, seenset_ne (nd_ne nd hj hatl hjj)]
        exact (f2 hc).1 (.inl ⟨h1, by omega⟩)
    have q1 : q.users = p.users := by rw [hq]
    have q2 : q.of = p.of := by rw [hq]
    have q3 : q.ss = p.ss := by rw [hq]
    have q4 : q.at_ = p.at_ := by rw [hq]
    have q5 : q.ph = 1 := by rw [hq]; exact h1
    have q6 : q.err = 0 ∧ q.vals = [] := by rw [hq]; exact ⟨n81, n82⟩
    have q7 : q.ep = p.ep := by rw [hq]
    clear hq
    rcases RP.next_cases q 2 with ⟨h, e⟩ | ⟨h, e⟩ <;> rw [e]
    · refine ⟨by dsimp only; rw [q1]; exact ro.us, by dsimp only; rw [q2]; exact ro.of, by dsimp only; rw [q1, q2, q3]; exact ro.ss, ro.lc, fun j hj hc => ?_, fun h => by dsimp only at h; omega, fun h => by dsimp only at h; omega, fun h => by dsimp only at h; omega, fun h => by dsimp only at h; omega, fun h => by dsimp only at h; omega, fun _ => q6, fun h => by dsimp only at h; omega⟩
      dsimp only at hj ⊢
      simp only [q3, q7] at hj ⊢
      obtain ⟨f1, f2⟩ := he j hj
      exact ⟨f1, fun hc => ⟨fun h => f2 hc (by omega), fun h => by omega⟩⟩
    · refine ⟨by dsimp only; rw [q1]; exact ro.us, by dsimp only; rw [q2]; exact ro.of, by dsimp only; rw [q1, q2, q3]; exact ro.ss, ro.lc, fun j hj hc => ?_, fun h => by dsimp only at h; omega, fun h => by dsimp only at h; omega, fun h => by dsimp only at h; omega, fun h => by dsimp only at h; omega, fun h => by dsimp only at h; omega, fun _ => q6, fun h => rfl⟩
      dsimp only at hj ⊢
      simp only [q3, q7] at hj ⊢
      obtain ⟨f1, f2⟩ := he j hj
      exact ⟨f1, fun hc => ⟨fun h => f2 hc (by have : q.k = p.ss.length := by unfold RP.k; rw [q3]
                                               omega), fun h => by omega⟩⟩
  by_cases h3 : p.ph = 3
  · obtain ⟨t1, t2⟩ := ro.t3 h3
    obtain ⟨q, hq⟩ : ∃ q : RP, q = { p with valid := p.valid && validB (p.ep p.at_) (W.H.ss p.s).v W.H.c.epochs } := ⟨_, rfl⟩
    have : p.go W.H n = (if q.last then (q.next 8).judge else q.next 8, W.H.epoch p.who p.s) := by rw [hq]; simp [RP.go, h3]
    rw [this]
    have hva : q.valid = true → ∀ j (hj : j < p.ss.length), j < p.at_ + 1 → p.seen p.ss[j] = some (L.bk p.ss[j]) := fun hv j hj hja => by
      rw [hq] at hv
      simp only [Bool.and_eq_true] at hv
      by_cases hjj : j = p.at_
      · subst hjj
        have hvb := hv.2
        simp only [validB, Bool.and_eq_true, decide_eq_true_eq] at hvb
        have hb := bd p.s hsn
        have hc : clean W.H p.ss[p.at_] (p.ep p.at_) := by
          rw [← hss]
          refine ⟨hvb.1.symm, ?_, by rw [hb]; exact hvb.2.2⟩
          simp [wrt]; omega
        exact ((ro.e _ hj (.inr (by omega))).2 hc).2 h3
      · exact ro.va h3 hv.1 j hj (by omega)
    have q1 : q.users = p.users := by rw [hq]
    have q2 : q.of = p.of := by rw [hq]
    have q3 : q.ss = p.ss := by rw [hq]
    have q4 : q.at_ = p.at_ := by rw [hq]
    have q5 : q.ph = 3 := by rw [hq]; exact h3
    have q6 : q.err = 0 ∧ q.vals = [] := by rw [hq]; exact ⟨n81, n82⟩
    have q7 : q.ep = p.ep := by rw [hq]
    have q8 : q.seen = p.seen := by rw [hq]
    have q9 : q.t = p.t ∧ q.looked = p.looked := by rw [hq]; exact ⟨rfl, rfl⟩
    clear hq
    rcases RP.next_cases q 8 with ⟨h, e⟩ | ⟨h, e⟩
    · have hl : q.last = false := by simp [RP.last, h]
      rw [hl, e]
      simp only [Bool.false_eq_true, if_false]
      refine ⟨by dsimp only; rw [q1]; exact ro.us, by dsimp only; rw [q2]; exact ro.of, by dsimp only; rw [q1, q2, q3]; exact ro.ss, ro.lc, fun j hj hc => ?_, fun _ => ⟨q9.1.trans t1, q9.2.trans t2⟩, fun _ hv j hj hja => ?_, fun h => by dsimp only at h; omega, fun h => by dsimp only at h; omega, fun h => by dsimp only at h; omega, fun _ => q6, fun h => by dsimp only at h; omega⟩
      · dsimp only at hj ⊢
        simp only [q3, q7, q8] at hj ⊢
        obtain ⟨f1, f2⟩ := ro.e j hj (.inr (by omega))
        exact ⟨f1, fun hc => ⟨fun h => by omega, fun h => (f2 hc).2 h3⟩⟩
      · dsimp only at hj hja hv ⊢
        simp only [q3, q8] at hj ⊢
        exact hva hv j hj (by omega)
    · have hl : q.last = true := by simp [RP.last]; omega
      rw [hl, e]
      simp only [if_true]
      obtain ⟨r, hr⟩ : ∃ r : RP, r = { q with ph := 8, at_ := 0 } := ⟨_, rfl⟩
      rw [← hr]
      have r1 : r.users = p.users := by rw [hr]; exact q1
      have r2 : r.of = p.of := by rw [hr]; exact q2
      have r3 : r.ss = p.ss := by rw [hr]; exact q3
      have r4 : r.at_ = 0 := by rw [hr]
      have r6 : r.err = 0 ∧ r.vals = [] := by rw [hr]; exact q6
      have r8 : r.seen = p.seen := by rw [hr]; exact q8
      have r9 : r.t = p.t ∧ r.looked = p.looked := by rw [hr]; exact q9
      have hrv : r.valid = q.valid := by rw [hr]
      have us' : r.users = if badB o then [] else usersOf o := by rw [r1]; exact ro.us
      have of' : r.of = W.H.c.stripes := by rw [r2]; exact ro.of
      have ss' : r.ss = stripesOf r.users r.of := by rw [r1, r2, r3]; exact ro.ss
      have hk : q.k = p.ss.length := by unfold RP.k; rw [q3]
      unfold RP.judge
      split
      · rename_i hcv
        refine RO.ans (p := r) (H := W.H.epoch p.who p.s) (hs.epoch _ _) us' of' ss' ro.lc (r9.1.trans t1) (r9.2.trans t2) r6 (by rw [r3]; exact hz) (fun hcl s hs' => ?_) rfl
        have hv : q.valid = true := by rw [hcl, Bool.false_or] at hcv; rw [← hrv]; exact hcv
        rw [r3] at hs'
        obtain ⟨j, hj, rfl⟩ := List.getElem_of_mem hs'
        rw [r8]
        exact hva hv j hj (by omega)
      split
      · exact ⟨us', of', ss', ro.lc, fun j hj hc => by dsimp only at hc; omega, fun h => by dsimp only at h; omega, fun h => by dsimp only at h; omega, fun h => by dsimp only at h; omega, fun h => by dsimp only at h; omega, fun h => by dsimp only at h; omega, fun _ => r6, fun h => by dsimp only at h; omega⟩
      · exact ⟨us', of', ss', ro.lc, fun j hj hc => by simp [RP.begin] at hc, fun h => by simp [RP.begin] at h, fun h => by simp [RP.begin] at h, fun h => by simp [RP.begin] at h, fun h => by simp [RP.begin] at h, fun h => by simp [RP.begin] at h, fun _ => r6, fun h => by simp [RP.begin] at h⟩
  by_cases h4 : p.ph = 4
  · have : p.go W.H n = (p.next 5, W.H.lock p.who p.s) := by simp [RP.go, h4]
    rw [this]
    have hc : (W.H.lock p.who p.s).c = W.H.c := (lock_n _ _ _).2.1
    rcases RP.next_cases p 5 with ⟨h, e⟩ | ⟨h, e⟩ <;> rw [e]
    · exact ⟨ro.us, by rw [hc]; exact ro.of, ro.ss, by rw [hc]; exact ro.lc, fun j hj hc => by dsimp only at hc; omega, fun h => by dsimp only at h; omega, fun h => by dsimp only at h; omega, fun h => by dsimp only at h; omega, fun h => by dsimp only at h; omega, fun h => by dsimp only at h; omega, fun _ => ⟨n81, n82⟩, fun h => by dsimp only at h; omega⟩
    · exact ⟨ro.us, by rw [hc]; exact ro.of, ro.ss, by rw [hc]; exact ro.lc, fun j hj hc => by dsimp only at hc; omega, fun h => by dsimp only at h; omega, fun h => by dsimp only at h; omega, fun h => by dsimp only at h; omega, fun h => by dsimp only at h; omega, fun h => by dsimp only at h; omega, fun _ => ⟨n81, n82⟩, fun h => rfl⟩
  by_cases h6 : p.ph = 6
  · obtain ⟨⟨t1, t2⟩, b1, b2⟩ := ro.k6 h6
    obtain ⟨q, hq⟩ : ∃ q : RP, q = { p with seen := seenset p.seen p.s (W.H.ss p.s).book } := ⟨_, rfl⟩
    have : p.go W.H n = (q.next 7, W.H.read p.who p.s) := by rw [hq]; simp [RP.go, h6]
    rw [this]
    have he : ∀ j (hj : j < p.ss.length), j < p.at_ + 1 → q.seen p.ss[j] = some (L.bk p.ss[j]) := fun j hj hja => by
      rw [hq]; dsimp only
      by_cases hjj : j = p.at_
      · subst hjj; rw [hss, seenset_self, b1 _ (List.getElem_mem _)]
      · rw [hss, seenset_ne (nd_ne nd hj hatl hjj)]
        exact b2 j hj (by omega)
    have q1 : q.users = p.users := by rw [hq]
    have q2 : q.of = p.of := by rw [hq]
    have q3 : q.ss = p.ss := by rw [hq]
    have q4 : q.at_ = p.at_ := by rw [hq]
    have q5 : q.ph = 6 := by rw [hq]; exact h6
    have q6 : q.err = 0 ∧ q.vals = [] := by rw [hq]; exact ⟨n81, n82⟩
    have q9 : q.t = p.t ∧ q.looked = p.looked := by rw [hq]; exact ⟨rfl, rfl⟩
    clear hq
    rcases RP.next_cases q 7 with ⟨h, e⟩ | ⟨h, e⟩ <;> rw [e]
    · refine ⟨by dsimp only; rw [q1]; exact ro.us, by dsimp only; rw [q2]; exact ro.of, by dsimp only; rw [q1, q2, q3]; exact ro.ss, ro.lc, fun j hj hc => by dsimp only at hc; omega, fun h => by dsimp only at h; omega, fun h => by dsimp only at h; omega, fun _ => ⟨⟨q9.1.trans t1, q9.2.trans t2⟩, fun s hs' => ?_, fun j hj hja => ?_⟩, fun h => by dsimp only at h; omega, fun h => by dsimp only at h; omega, fun _ => q6, fun h => by dsimp only at h; omega⟩
      · dsimp only at hs'; rw [q3] at hs'; exact b1 s hs'
      · dsimp only at hj hja ⊢
        simp only [q3] at hj ⊢
        exact he j hj (by omega)
    · refine ⟨by dsimp only; rw [q1]; exact ro.us, by dsimp only; rw [q2]; exact ro.of, by dsimp only; rw [q1, q2, q3]; exact ro.ss, ro.lc, fun j hj hc => by dsimp only at hc; omega, fun h => by dsimp only at h; omega, fun h => by dsimp only at h; omega, fun h => by dsimp only at h; omega, fun _ => ⟨⟨q9.1.trans t1, q9.2.trans t2⟩, fun s hs' => ?_⟩, fun h => by dsimp only at h; omega, fun _ => q6, fun h => by dsimp only at h; omega⟩
      dsimp only at hs' ⊢
      rw [q3] at hs'
      obtain ⟨j, hj, rfl⟩ := List.getElem_of_mem hs'
      exact he j hj (by have : q.k = p.ss.length := by unfold RP.k; rw [q3]
                        omega)
  have h7 : p.ph = 7 := by omega
  obtain ⟨⟨t1, t2⟩, b1⟩ := ro.k7 h7
  have : p.go W.H n = (if p.last then (p.next 8).answer else p.next 8, W.H.unlock p.who p.s) := by simp [RP.go, h7]
  rw [this]
  have hc : (W.H.unlock p.who p.s).c = W.H.c := (unlock_n _ _ _).2.1
  rcases RP.next_cases p 8 with ⟨h, e⟩ | ⟨h, e⟩
  · have hl : p.last = false := by simp [RP.last, h]
    rw [hl, e]
    simp only [Bool.false_eq_true, if_false]
    exact ⟨ro.us, by rw [hc]; exact ro.of, ro.ss, by rw [hc]; exact ro.lc, fun j hj hc => by dsimp only at hc; omega, fun h => by dsimp only at h; omega, fun h => by dsimp only at h; omega, fun h => by dsimp only at h; omega, fun _ => ⟨⟨t1, t2⟩, b1⟩, fun h => by dsimp only at h; omega, fun _ => ⟨n81, n82⟩, fun h => by dsimp only at h; omega⟩
  · have hl : p.last = true := by simp [RP.last]; omega
    rw [hl, e]
    simp only [if_true]
    refine RO.ans (p := { p with ph := 8, at_ := 0 }) (H := W.H.unlock p.who p.s) (k := k + 1) (hs.unlock hsn) ro.us (by rw [hc]; exact ro.of) ro.ss (by rw [hc]; exact ro.lc) t1 t2 ⟨n81, n82⟩ hz (fun _ => b1) ?_
    have hp8 : ∀ r : RP, r.ph = 8 → r.answer = { r.answer with ph := 8 } := fun r hr => by
      have : r.answer.ph = 8 := by rw [answer_ph, hr]
      rw [← this]
    exact hp8 _ rfl
end Go.Den
namespace Go.Proofs.YtcnphhhcknhhaaaGreat
open Go Go.Den Go.MapKept
set_option linter.unusedSimpArgs false
set_option linter.unusedVariables false
set_option maxRecDepth 20000
@[simp] theorem cells_nilF:Value.cells .nilFunc=#[.nilFunc]:=rfl
theorem bdWP (who s:Int)(f:FuncId)(a b:Array Value):bdV (binf P qbXZ) [(0,.int .i64 who),(1,.int .i64 s),(2,.func (.func f) a b),(5,.int .i64 (-1))]=some (.agg #[.int .i64 who,.int .i64 s,.func (.func f) a b,.int .i64 0,.int .u64 0,.int .u64 0,.bool false,.int .i64 (-1),.int .i64 0,.slice none 0 0,.slice none 0 0,.bool false]):=by kernel_rfl
variable {K:KTy}
theorem section_ok (who:Int)(s:Nat)(k:WK)(f:FuncId)(a b:Array Value){h:Heap}(hk:∀ q h',h q=none→Ext h h'→h' q=some (.cells (wpC (sect who s k) (.func (.func f) a b)).toArray qbXZ (0,0))→K (ptr q) h'):callM P qjXZ #[.int .i64 who,.int .i64 s,.func (.func f) a b] h K:=by
 apply quAZ
 unfold qlvZ
 simp -implicitDefEqProofs only[bdWP,ov_s]
 exact nw_intro fun q h' n e c=>hk q h' n e c
def wp0 (H:Hall)(who:Int)(x:OpD):WP:=sect who (stripeOf x.user H.c.stripes).toNat (if badB x then .bad else .op x)
theorem wnew_ok (who:Int)(x:OpD)(xw:OpW x){T:Tags}{h:Heap}{g gh:Tag}{hp:Nat}{H:Hall}(w:Wf T h)(gg:Gd g)(y:HallR T h gh hp H){v:Value}(hv:Sl 1 StrR (fz T h) v x.users)(hl:x.users.length<1000000)(c8:1≤H.c.stripes∧H.c.stripes≤8)
  (hk:∀ T' h' q,Only non T h T' h'→h q=none→WPR T' h' g q (wp0 H who x)→K (ptr q) h'):callM P qihZ #[ptr hp,.int .i64 who,.agg (opC x v).toArray] h K:=by
 apply qvhZ
 unfold qqIZ
 have hone:=hv.one
 refine nw_intro fun v1 h1 n1 e1 c1=>?_
 refine nw_agg fun v3 h3 n3 e3 c3=>?_
 have o1:Only non T h T h3:=Only.of_ext w (e1.trans e3)
 have c1:=e3 _ _ c1
 have c3':=c3
 simp -implicitDefEqProofs only[opC] at c3
 simp -implicitDefEqProofs[ld_at c3,cel_of c3,stm_at c3,stm_upd,ld_same,cel_same,over]
 refine hstripe_ok x.user xw.s1 (y.up o1 (Off.non _) (not_non _)) c8.2 ?_
 unfold qspZ
 rw[zcInt]
 refine nw_st rfl rfl (by simp) fun v9 h9 n9 e9 c9=>?_
 have c1:=e9 _ _ c1
 have c3:=e9 _ _ c3
 have c3':=e9 _ _ c3'
 obtain⟨s,hs⟩:∃ s,(stripeOf x.user H.c.stripes).toNat=s:=⟨_,rfl⟩
 have hsi:stripeOf x.user H.c.stripes=(s:Int):=by have:=stripeOf_lt (u:=x.user) (n:=H.c.stripes) c8.1; omega
 rw[hsi] at c9
 simp -implicitDefEqProofs only[cells_i] at c1 c9
 simp -implicitDefEqProofs[ld_at c1,cel_of c1,stm_at c1,ld_at c9,cel_of c9,stm_at c9,stm_upd,ld_same,cel_same,over,hsi]
 refine section_ok who s (.op x) qfuZ _ _ fun q h4 n4 e4 c4=>?_
 have c1:=e4 _ _ c1
 have c3:=e4 _ _ c3
 have c3':=e4 _ _ c3'
 have c9':=e4 _ _ c9
 have e04:=((e1.trans e3).trans e9).trans e4
 have nq:h q=none:=fresh_of ((e1.trans e3).trans e9) n4
 have oa:ldV (some (some 7)) (ptr v3) h4=some (.agg (opC x v).toArray):=by simp[ld_at c3',opC]
 have ne1:v1≠q:=ne_fresh (e9 _ _ (e3 _ _ ‹_›)) n4
 have ne3:v3≠q:=ne_fresh (e9 _ _ ‹_›) n4
 have ne9:v9≠q:=ne_fresh c9 n4
 unfold qsoZ
 rw[seqM_eq]
 unfold qsnZ
 simp -implicitDefEqProofs only[oa,ov_s]
 refine modBad_ok x xw (hv.ext (@StrR.ext) ((fz_ext T h).trans e04)) hl fun h5 e5=>?_
 unfold qsmZ
 have c4:=e5 _ _ c4
 have cb1:=e5 _ _ c1
 have cb3:=e5 _ _ c3'
 have cb9:=e5 _ _ c9'
 have e05:=e04.trans e5
 have on:Only non T h (tset T q (g++[0])) h5:=Only.enew _ w e05 nq c4
 have hz:∀ b,b≠q→h b=none→∀ o,h5 b=some o→fz (tset T q (g++[0])) h5 b=some o:=fun b hb hn o ho=>fz_at ho (by rw[tset_ne hb]; exact w b hn)
 have n3':h v3=none:=fresh_of e1 n3
 have n9':h v9=none:=fresh_of (e1.trans e3) n9
 unfold wp0 at hk
 rw[hs] at hk
 cases hb:badB x with
 | false =>
  rw[hb] at hk
  simp -implicitDefEqProofs only[Bool.false_eq_true,if_false] at hk
  unfold qslZ
  simp -implicitDefEqProofs
  exact hk _ h5 q on nq ⟨_,c4,tset_same _ _ _,v1,v9,v3,v,rfl,hz _ ne1 n1 _ cb1,hz _ ne9 n9' _ cb9,hz _ ne3 n3' _ cb3,hone⟩
 | true =>
  rw[hb] at hk
  simp -implicitDefEqProofs only[if_true] at hk
  unfold qskZ
  simp -implicitDefEqProofs only[wpC,sect] at c4
  simp -implicitDefEqProofs[ld_at c4,cel_of c4,stm_at c4,stm_upd,ld_same,cel_same,over]
  rw[stm_at (n:=1) (v:=.nilFunc) c4 rfl (by simp) rfl]
  refine hk _ _ q (on.own nq c4) nq ⟨.nilFunc,?_,tset_same _ _ _,rfl⟩
  rw[upd_same']; simp[wpC,sect,over]
end Go.Proofs.YtcnphhhcknhhaaaGreat
namespace Go.Den
open Go
set_option linter.unusedVariables false
def wo (h:Heap)(l:List Nat):Heap:=fun q=>if q∈l then none else h q
theorem wo_out {h:Heap}{l:List Nat}{q:Nat}(hq:q ∉ l):wo h l q=h q:=if_neg hq
theorem wo_ext {F h:Heap}{l:List Nat}(e:Ext F h)(hl:∀ q∈l,F q=none):Ext F (wo h l):=fun b o hb=>by
 rw[wo_out (fun hm=>by rw[hl b hm] at hb; cases hb)]; exact e b o hb
theorem wo_get {h:Heap}{l:List Nat}{q:Nat}{o:Obj}(e:wo h l q=some o):q ∉ l∧h q=some o:=by
 unfold wo at e
 split at e
 ·cases e
 ·rename_i hq; exact⟨hq,e⟩
theorem wo_keep {h h' h'':Heap}{l:List Nat}{b:Nat}(e:Ext (wo h l) h')(hb:h b=none)(k:Keep (some b) h' h''):Ext (wo h l) h'':=fun q o hq=>by
 refine k q o (e q o hq) fun hh=>?_
 cases hh
 rw[(wo_get hq).2] at hb; cases hb
theorem wo_upd {h h':Heap}{l:List Nat}{b:Nat}{o:Obj}(e:Ext (wo h l) h')(hb:b∈l):Ext (wo h l) (upd h' b o):=fun q x hq=>by
 rw[upd_ne (fun hh=>(wo_get hq).1 (by rw[hh]; exact hb))]; exact e q x hq
theorem ext_wo {h0 h h':Heap}{l:List Nat}(e0:Ext h0 h)(hl:∀ q∈l,h0 q=none)(e:Ext (wo h l) h'):Ext h0 h':=(wo_ext e0 hl).trans e
end Go.Den
namespace Go.Proofs.YtcnphhhcknhhaaaGreat
open Go Go.Den Go.MapKept
set_option linter.unusedSimpArgs false
set_option linter.unusedVariables false
set_option maxRecDepth 20000
def small:Cfg:=⟨3,2,16,4,1,100,0⟩
theorem bdSmall:bdV (binf P qJZ) [(0,.int .i64 3),(1,.int .i64 2),(2,.int .i64 16),(3,.int .i64 4),(4,.int .i64 1),(5,.int .u64 100)]=some (.agg (cfgC small).toArray):=by kernel_rfl
theorem smallW:CfgW small:=by constructor<;>simp[small,I64,U64]
variable {K:KTy}
theorem small_ok {h:Heap}(hk:∀ h',Ext h h'→K (.agg (cfgC small).toArray) h'):callM P qfWZ #[] h K:=by
 apply qrOZ
 unfold qgvZ
 rw[zcCfg,bdSmall]
 simp -implicitDefEqProofs only[nwM_s]
 intro v1 n1
 simp -implicitDefEqProofs[stm_upd,ld_same,cel_same,over,cfgC]
 exact hk _ (Ext.upd n1 _)
def rdOp (x:OpD):OpD:={ x with kind:=4+x.kind % 2 }
theorem zcOp:zc P qEZ=some #[.int .i64 0,.string ⟨#[]⟩,.int .i64 0,.int .i64 0,.int .i64 0,.int .u64 0,.slice none 0 0]:=by kernel_rfl
theorem reading_ok (x:OpD){h:Heap}{v:Value}(ho:One v)(hk:∀ h',Ext h h'→K (.agg (opC (rdOp x) v).toArray) h'):callM P qctZ #[.agg (opC x v).toArray] h K:=by
 apply qqKZ
 unfold qfJZ
 refine nw_agg fun v1 h1 n1 e1 c1=>?_
 rw[zcOp]
 refine nw_intro fun v3 h3 n3 e3 c3=>?_
 have ne:=ne_fresh c1 n3
 have c1:=e3 _ _ c1
 simp -implicitDefEqProofs only[opC] at c1
 have m1:=tmod_rng x.kind (show (0:Int)<2 by omega)
 have m2:=Int.mul_tdiv_add_tmod x.kind 2
 have e2:(x.kind.tmod 2+2).tmod 2=x.kind % 2:=by rw[tmod_pos (by omega)]; omega
 have w1:IntKind.i64.wrap (x.kind.tmod 2+2)=x.kind.tmod 2+2:=wrap64_id (by omega) (by omega)
 have w2:IntKind.i64.wrap (4+x.kind % 2)=4+x.kind % 2:=wrap64_id (by omega) (by omega)
 simp -implicitDefEqProofs[ld_at c1,cel_of c1,stm_at c1,ld_at c3,cel_of c3,stm_at c3,stm_skip ne,stm_skip (Ne.symm ne),ld_skip ne,ld_skip (Ne.symm ne),cel_skip ne,cel_skip (Ne.symm ne),stm_upd,ld_same,cel_same,over,w1,e2,w2,ho.1,ho.2]
 refine kv (hk _ ?_) rfl
 exact ext_upd n1 (ext_upd (fresh_of e1 n3) (e1.trans e3))
end Go.Proofs.YtcnphhhcknhhaaaGreat
namespace Go.Den
open Go
set_option linter.unusedVariables false
set_option linter.unusedSimpArgs false
theorem evn_u {b:Int}(hb:U64 b):U64 (evn b):=by unfold U64 evn at *; omega
theorem HG.hall0 {c:Cfg}(cw:CfgW c)(hr:rightB c=true):HG (hall0 c c.stripes.toNat):=by
 have h8:1≤c.stripes∧c.stripes≤8:=by simp[rightB] at hr; omega
 exact⟨by simp[Den.hall0]; omega,by simp[Den.hall0],fun s _=>⟨BkG.nil,BkG.nil⟩,fun s _=>⟨by simp[Den.hall0,strp0,U64],by simpa [Den.hall0,strp0] using evn_u cw.u1⟩,fun s _=>by simp[Den.hall0,strp0],cw,h8.2⟩
theorem stripesOf_lt {us:List ByteArray}{n:Int}(hn:1≤n):∀ s∈stripesOf us n,(s:Int)<n:=by
 intro s hs
 simp only[stripesOf,List.mem_filter,inS,List.any_eq_true,decide_eq_true_eq] at hs
 obtain⟨_,u,_,hu⟩:=hs
 rw[← hu]
 unfold stripeOf
 rw[if_neg (by omega)]
 exact Int.emod_lt_of_pos _ (by omega)
theorem stripesOf_pos {us:List ByteArray}{n:Int}(hn:1≤n)(h8:n≤8)(hu:us≠[]):0<(stripesOf us n).length:=by
 obtain⟨u,us',rfl⟩:=List.exists_cons_of_ne_nil hu
 refine List.length_pos_of_mem (a:=(stripeOf u n).toNat) ?_
 have h:0≤stripeOf u n∧stripeOf u n<n:=by
  unfold stripeOf
  rw[if_neg (by omega)]
  exact⟨Int.emod_nonneg _ (by omega),Int.emod_lt_of_pos _ (by omega)⟩
 simp only[stripesOf,List.mem_filter,List.mem_range,inS,List.any_cons,Bool.or_eq_true,decide_eq_true_eq]
 exact⟨by omega,.inl (by omega)⟩
theorem stripesOf_nodup (us:List ByteArray)(n:Int):(stripesOf us n).Nodup:=List.Pairwise.filter _ List.nodup_range
theorem stripesOf_le (us:List ByteArray)(n:Int):(stripesOf us n).length≤8:=by
 have:=List.length_filter_le (inS us n) (List.range 8)
 simpa [stripesOf] using this
theorem stripesOf_nil (n:Int):stripesOf [] n=[]:=by simp[stripesOf,inS]
theorem usersOf_bad {x:OpD}(h:badB x=false)(hk:x.kind=4∨x.kind=5):usersOf x≠[]∧(usersOf x).length≤8:=by
 unfold badB at h
 unfold usersOf
 rcases hk with hk | hk
 ·simp[hk]
 ·simp[hk] at h ⊢
  constructor
  ·intro e; rw[e] at h; simp at h
  ·omega
theorem RK.rp0 {H:Hall}(hg:HG H)(hn:H.n=H.c.stripes.toNat)(h1:1≤H.c.stripes)(tr:0≤H.c.retries∧H.c.retries≤4)(who:Int)(hw:-1000≤who∧who≤900)(x:OpD)(hx:badB x=false→(usersOf x).length≤8):RK H.n (rp0 H who x):=by
 have hul:(if badB x then ([]:List ByteArray) else usersOf x).length≤8:=by
  cases hb:badB x with
  | true=>simp
  | false=>simpa using hx hb
 have c8:=hg.c8
 refine⟨⟨by simp only[Den.rp0,RP.begin]; omega,by simp only[Den.rp0,RP.begin]; omega,stripesOf_le _ _,tr,by simp[Den.rp0,RP.begin],fun i b h=>by simp[Den.rp0,RP.begin] at h⟩,fun _ h0=>by simpa [Den.rp0,RP.begin,RP.k] using List.length_pos_iff.2 h0,fun s hs=>?_,fun _=>rfl,by simp[Den.rp0,RP.begin],fun _=>.inl rfl,fun i _=>by simp[Den.rp0,RP.begin,U64],hw⟩
 have:=stripesOf_lt h1 s hs
 omega
theorem Tr.start {c:Cfg}{who:Int}{x:OpD}(hb:badB x=false)(hk:x.kind=4∨x.kind=5)(h1:1≤c.stripes)(h8:c.stripes≤8):Tr c (stripesOf (usersOf x) c.stripes) (usersOf x) 0 (rp0 (hall0 c c.stripes.toNat) who x) (hall0 c c.stripes.toNat):=by
 have hu:=usersOf_bad hb hk
 refine .a ⟨by simp[rp0,RP.begin,hb,hall0],rfl,fun _=>rfl,rfl,rfl,fun _=>rfl,by simp[rp0,RP.begin,hb],rfl⟩ (fun _=>rfl) (stripesOf_pos h1 h8 hu.1) rfl rfl rfl (by simp[rp0,RP.begin])
end Go.Den
namespace Go.Proofs.YtcnphhhcknhhaaaGreat
open Go Go.Den Go.MapKept
set_option linter.unusedSimpArgs false
set_option linter.unusedVariables false
set_option maxRecDepth 20000
def RdI (T0:Tags)(h0:Heap)(hp pp:Nat)(J:Nat→RP→Hall→Prop)(a0:Nat)(v:Value)(h':Heap):Prop :=
 ∃ (T':Tags) (n:Nat) (r:RP) (H:Hall),Only (two (pre [1]) (pre [2])) T0 h0 T' h'∧HallR T' h' [1] hp H∧RPR T' h' [2] pp r∧RK H.n r∧HG H∧H.acts.length≤n+a0∧J n r H∧v = .int .i64 n∧n≤1000
theorem g1:Gd [1]:=⟨0,[],rfl⟩
theorem g2:Gd [2]:=⟨1,[],rfl⟩
theorem d12:Off (pre [1]) [2]:=off_pre (g:=[]) (x:=[1]) (y:=[2]) (by simp) (by simp)
theorem d21:Off (pre [2]) [1]:=off_pre (g:=[]) (x:=[2]) (y:=[1]) (by simp) (by simp)
theorem two12:¬ two (pre [1]) (pre [2]) []:=by rintro (h | h)<;>simp[pre] at h
theorem rd_step {T0:Tags}{h0:Heap}{hp pp:Nat}{J:Nat→RP→Hall→Prop}{a0 n:Nat}{T':Tags}{h':Heap}{r:RP}{H:Hall}(ha:a0≤1000)(hn:n<1000)(o:Only (two (pre [1]) (pre [2])) T0 h0 T' h')(y:HallR T' h' [1] hp H)(x:RPR T' h' [2] pp r)(rk:RK H.n r)(hg:HG H)(hl:H.acts.length≤n+a0)
  (hj:J (n+1) (r.step H n).1 (r.step H n).2) {K:KTy} (hk:∀ h'',RdI T0 h0 hp pp J a0 (.int .i64 (n+1:Nat)) h''→K (.tuple #[]) h''):callM P qaSZ #[ptr pp,ptr hp,.int .i64 n] h' K:=by
 obtain⟨k1,k2,k3,k4,k5⟩:=rk.step hg n (by omega)
 refine rstep_ok n o.wf g2 g1 d12 d21 x y rk.rg hg rk.rs fun T2 h2 o2 y2 x2=>?_
 exact hk h2 ⟨T2,n+1,_,_,o.trans o2,y2,x2,by rw[k3]; exact k1,k2,by omega,hj,rfl,by omega⟩
theorem bdOpAnn:bdV (binf P qEZ) [(0,.int .i64 4),(1,.string ⟨#[97,110,110]⟩)]=some (.agg (opC ⟨4,⟨#[97,110,110]⟩,0,0,0,0,[]⟩ (.slice none 0 0)).toArray):=by kernel_rfl
def annOp:OpD:=⟨4,⟨#[97,110,110]⟩,0,0,0,0,[]⟩
variable {K:KTy}
set_option maxHeartbeats 1000000 in
theorem awake_ok {h:Heap}(hk:∀ h',Ext h h'→K (.bool true) h'):callM P qduZ #[] h K:=by
 apply qrQZ
 unfold qgxZ
 refine small_ok fun h1 e1=>?_
 unfold qjKZ
 have w1:=wf_nil h1
 refine hallNew_ok small smallW w1 g1 (fun hr T2 h2 q o2 y2=>?_) (fun hr=>by simp[rightB,small] at hr)
 have hg0:=HG.hall0 smallW hr
 unfold qjJZ
 have enil:binV .eql 4 true (ptr q) (.pointer none)=some (.bool false):=rfl
 simp -implicitDefEqProofs[enil]
 unfold qjIZ
 rw[bdOpAnn]
 simp -implicitDefEqProofs only[ov_s]
 have hb:badB annOp=false:=by decide
 refine rnew_ok 0 annOp ⟨by simp[annOp,I64],by simp[annOp,I64],by simp[annOp,I64],by simp[annOp,I64],by simp[annOp,U64],by simp[annOp,maxLen]; decide⟩ o2.wf g2 g1 d21 y2 (.inl ⟨rfl,_,_,rfl⟩) (by simp[annOp]) hg0.c8 fun T3 h3 p o3 x3=>?_
 have y3:=y2.up o3 d21 g2.nil
 unfold qjHZ
 rw[seqM_eq]
 unfold qjFZ
 have hss:(stripesOf (usersOf annOp) small.stripes).length=1:=by decide +kernel
 have hus:(usersOf annOp).length=1:=rfl
 have hst:=Tr.start (c:=small) (who:=0) hb (.inl rfl) (by decide) (by decide)
 have hnd:=stripesOf_nodup (usersOf annOp) small.stripes
 have hrk:RK (hall0 small small.stripes.toNat).n (rp0 (hall0 small small.stripes.toNat) 0 annOp):=RK.rp0 hg0 rfl (by decide) (by decide) 0 (by omega) _ (fun _=>by simp[hus])
 generalize hssn:stripesOf (usersOf annOp) small.stripes=ss at *
 generalize husn:usersOf annOp=us at *
 have hN:Nof small ss=4:=by unfold Nof; rw[hss]; decide
 refine loop_on [1,3] (fun s h'=>RdI T3 h3 q p (Tr small ss us) 0 (s 4) h') (fun s _=>(9-num (s 4)).toNat) ⟨T3,0,_,_,Only.refl o3.wf,y3,x3,hrk,hg0,by simp[hall0],hst,rfl,by omega⟩ ?_
 rintro s h4 hf ⟨T4,n,r,H,o4,y4,x4,rk,hg,hl,tr,s4,hn⟩
 have s1:s 1=ptr q:=by simpa using hf 1 (by simp)
 have s3:s 3=ptr p:=by simpa using hf 3 (by simp)
 have hp8:=tr.ph8 (by omega)
 rw[hN] at hp8
 have hn9:(n:Int)<9:=by omega
 have hw:IntKind.i64.wrap ((n:Int)+1)=n+1:=wrap64_id (by omega) (by omega)
 unfold qjEZ
 simp -implicitDefEqProofs[s3,s4,hn9]
 refine rdone_ok x4 ?_
 by_cases h8:r.ph=8
 ·have hn4:n=4:=hp8.1.1 h8
  subst hn4
  simp -implicitDefEqProofs[h8,s4,s3]
  unfold qjGZ
  simp -implicitDefEqProofs[s3,s4]
  refine rplaced_ok x4 ?_
  cases tr with
  | a b w h ph at_ va sp=>omega
  | b b w h ph at_ va sp=>omega
  | c b w h ph at_ va sp=>omega
  | d b w h ph at_ va sp tc lo=>omega
  | f b w h he ph at_=>omega
  | g b h he ph at_=>omega
  | i b h he ph at_ tc lo pl=>omega
  | j b h he ph at_ tc lo pl=>omega
  | k h he ph pl er=>omega
  | e h he ph pl er vl =>
   have hpl:r.placed=2:=by rw[pl,hss]; rfl
   simp -implicitDefEqProofs[hpl]
   refine rreply_ok o4.wf g2 x4 fun h5 vv e5 hv _=>?_
   have hv:=hv h8
   have hlen:=hv.len
   simp -implicitDefEqProofs[fdV,hlen,vl,hus]
   refine hk h5 ?_
   have o5:Only non T4 h4 T4 h5:=Only.of_ext o4.wf e5
   have ea:=o2.ext g1.nil
   have eb:=o3.ext g2.nil
   have ec:=o4.ext two12
   have ed:=o5.ext (not_non _)
   rw[fz_nil] at ea
   exact e1.trans (((ea.trans eb).trans ec).trans (ed.trans (fz_ext _ _)))
 ·have hn4:n<4:=by
   have:=hp8.2
   have:¬ n=4:=fun e=>h8 (hp8.1.2 e)
   omega
  simp -implicitDefEqProofs[h8]
  unfold qjDZ
  rw[s1,s3,s4]
  refine rd_step (a0:=0) (by omega) (by omega) o4 y4 x4 rk hg hl (tr.next (by omega) hnd (by rw[hN]; exact hn4) (by decide)) fun h5 hI=>?_
  unfold qjCZ
  simp -implicitDefEqProofs[s4,hw,s1,s3]
  exact⟨hI,by omega⟩
end Go.Proofs.YtcnphhhcknhhaaaGreat
namespace Go.Proofs.YtcnphhhcknhhaaaGreat
open Go Go.Den Go.MapKept
set_option linter.unusedSimpArgs false
set_option linter.unusedVariables false
set_option maxRecDepth 20000
def wrOp (x:OpD):OpD:={ x with kind:=1+x.kind % 3 }
theorem wrOp_w {x:OpD}(w:OpW x):OpW (wrOp x):=⟨(by show I64 (1+x.kind % 3); unfold I64; omega),w.i2,w.i3,w.i4,w.u1,w.s1⟩
theorem wrOp_k (x:OpD):(wrOp x).kind=1∨(wrOp x).kind=2∨(wrOp x).kind=3:=by
 show 1+x.kind % 3=1∨1+x.kind % 3=2∨1+x.kind % 3=3
 omega
variable {K:KTy}
theorem writing16_ok (x:OpD){h:Heap}{v:Value}(ho:One v)(hk:∀ h',Ext h h'→K (.agg (opC (wrOp x) v).toArray) h'):callM P qcuZ #[.agg (opC x v).toArray] h K:=by
 apply qqLZ
 unfold qfKZ
 refine nw_agg fun v1 h1 n1 e1 c1=>?_
 rw[zcOp]
 refine nw_intro fun v3 h3 n3 e3 c3=>?_
 have ne:=ne_fresh c1 n3
 have c1:=e3 _ _ c1
 simp -implicitDefEqProofs only[opC] at c1
 have m1:=tmod_rng x.kind (show (0:Int)<3 by omega)
 have m2:=Int.mul_tdiv_add_tmod x.kind 3
 have e2:(x.kind.tmod 3+3).tmod 3=x.kind % 3:=by rw[tmod_pos (by omega)]; omega
 have w1:IntKind.i64.wrap (x.kind.tmod 3+3)=x.kind.tmod 3+3:=wrap64_id (by omega) (by omega)
 have w2:IntKind.i64.wrap (1+x.kind % 3)=1+x.kind % 3:=wrap64_id (by omega) (by omega)
 simp -implicitDefEqProofs[ld_at c1,cel_of c1,stm_at c1,ld_at c3,cel_of c3,stm_at c3,stm_skip ne,stm_skip (Ne.symm ne),ld_skip ne,ld_skip (Ne.symm ne),cel_skip ne,cel_skip (Ne.symm ne),stm_upd,ld_same,cel_same,over,w1,e2,w2,ho.1,ho.2]
 refine kv (hk _ ?_) rfl
 exact ext_upd n1 (ext_upd (fresh_of e1 n3) (e1.trans e3))
end Go.Proofs.YtcnphhhcknhhaaaGreat
namespace Go.Proofs.YtcnphhhcknhhaaaGreat
open Go Go.Den Go.MapKept
set_option linter.unusedSimpArgs false
set_option linter.unusedVariables false
set_option maxRecDepth 20000
theorem ext_of_only {U:Tag→Prop}{h:Heap}{T':Tags}{h':Heap}(o:Only U (fun _=>[]) h T' h')(u:¬ U []):Ext h h':=by
 have:=(o.ext u).trans (fz_ext _ _)
 rw[fz_nil] at this; exact this
def c2:Cfg:=⟨2,2,16,4,1,100,0⟩
theorem cfg_nn {c:Cfg}(h:rightB c=true):((c.stripes.toNat:Nat):Int)=c.stripes∧0<c.stripes.toNat:=by
 simp -implicitDefEqProofs only[rightB,decide_eq_true_eq] at h; omega
end Go.Proofs.YtcnphhhcknhhaaaGreat
namespace Go.Den
open Go
set_option linter.unusedVariables false
set_option linter.unusedSimpArgs false
structure Idle (p:PR)(m:Mine)(c:Cfg):Prop where
 h:∀ s,¬ p.holds s
 e:p.em m c=m
theorem PR.done_w {p:WP}(h:p.done=true):7≤p.at_:=by simpa [WP.done] using h
theorem Idle.done {n i:Nat}{c:Cfg}{p:PR}{m:Mine}(g:PA n i c p)(hd:p.done=true)(h1:1≤n):Idle p m c:=by
 cases p with
 | w p =>
  have h7:=PR.done_w (p:=p) hd
  exact⟨fun s hs=>by have:=hs.2.2.1; omega,rfl⟩
 | r p =>
  have h8:p.ph=8:=by simpa [PR.done] using hd
  exact⟨fun s=>RP.nh (by omega) (by omega) (by omega) (by omega),rfl⟩
 | h p =>
  have hd':p.steps≤p.at_:=by simpa [PR.done,HP.done] using hd
  have hk:=g.1.k
  by_cases ho:p.one=true
  ·refine⟨fun s hs=>?_,?_⟩
   ·have:=hs.1; rw[ho] at this; cases this
   ·show p.em m c=m
    rw[HP.em_def,if_neg (by simp[ho])]
  ·have ho:p.one=false:=by simpa using ho
   have hb:badB p.x=false:=by simp[HP.one] at ho; exact ho.1
   have h9:p.x.kind≠9:=by simp[HP.one] at ho; exact ho.2
   by_cases h8:p.x.kind=8
   ·have:=(HP.poll_of hb h8).2
    refine⟨fun s hs=>?_,?_⟩
    ·have h2:=hs.2; rw[if_pos h8] at h2; omega
    ·show p.em m c=m
     rw[HP.em_def,if_neg (by simp[h8])]
   ·have:=(HP.kind_of hb h9 h8).2
    refine⟨fun s hs=>?_,?_⟩
    ·have h2:=hs.2; rw[if_neg h8] at h2; omega
    ·show p.em m c=m
     rw[HP.em_def,if_neg (by omega)]
theorem Idle.w {p:WP}(m:Mine)(c:Cfg)(h:p.at_=0):Idle (.w p) m c:=⟨fun s hs=>by have:=hs.2.1; omega,rfl⟩
theorem Idle.r {p:RP}(m:Mine)(c:Cfg)(h:p.ph=0):Idle (.r p) m c:=⟨fun s=>RP.nh (by omega) (by omega) (by omega) (by omega),rfl⟩
def wd0 (c:Cfg)(n:Nat):Wd:=⟨hall0 c n,fun _=>none,fun _=>[]⟩
theorem LI.init {c:Cfg}{n:Nat}:LI (wd0 c n) (tbl0 c n):=by
 refine⟨rfl,rfl,rfl,fun s hs=>.inl ⟨rfl,rfl,rfl,rfl⟩,fun i p s _ h=>by simp[wd0] at h,fun i p h=>by simp[wd0] at h,⟨fun i hi=>?_,fun s i u hs hi hu=>?_⟩⟩
 ·have:allWs (tbl0 c n) i=[]:=by
   unfold allWs
   rw[List.flatMap_eq_nil_iff]
   intro s _
   rfl
  rw[this]; exact List.Perm.refl _
 ·simp[tbl0,feed0,wsOf] at hu
theorem TS.init {c:Cfg}(cw:CfgW c)(hr:rightB c=true){n:Nat}(hn:(n:Int)=c.stripes):TS 0 (tbl0 c n):=(HS.new cw hr hn).tbl
theorem LI.start {W:Wd}{M:Tbl}(x:LI W M){i:Nat}{p:PR}(hp:PA W.H.n i W.H.c p)(h0:Idle p (W.ms i) W.H.c)(hi:∀ q,W.ps i=some q→Idle q (W.ms i) W.H.c):LI { W with ps:=bset W.ps i (some p) } M:=by
 have hP:∀ j,bset W.ps i (some p) j=if j=i then some p else W.ps j:=fun j=>rfl
 refine⟨x.t,x.c,x.n,fun s hs=>?_,fun j q s hs hq hh=>?_,fun j q hq=>?_,?_⟩
 ·rcases x.st s hs with h | ⟨j,q,h1,h2,h3,h4⟩
  ·exact .inl h
  ·have hji:j≠i:=fun h=>by subst h; exact (hi q h1).h s h2
   exact .inr ⟨j,q,by show bset _ _ _ _=_; rw[hP,if_neg hji]; exact h1,h2,h3,h4⟩
 ·have hq:bset W.ps i (some p) j=some q:=hq
  rw[hP] at hq
  split at hq
  ·simp only[Option.some.injEq] at hq; subst hq; exact absurd hh (h0.h s)
  ·exact x.own j q s hs hq hh
 ·have hq:bset W.ps i (some p) j=some q:=hq
  rw[hP] at hq
  split at hq
  ·rename_i h; simp only[Option.some.injEq] at hq; subst hq; subst h; exact hp
  ·exact x.pa j q hq
 ·refine x.ws.same rfl rfl (fun _ _=>rfl) fun j hj=>?_
  unfold Wd.em
  show (match bset W.ps i (some p) j with | some p=>p.em (W.ms j) W.H.c | none=>W.ms j)=_
  rw[hP]
  by_cases h:j=i
  ·subst h
   rw[if_pos rfl]
   dsimp only
   rw[h0.e]
   cases hq:W.ps j with
   | none=>rfl
   | some q=>exact (hi q hq).e.symm
  ·rw[if_neg h]<;>rfl
theorem LI.other {W:Wd}{M M':Tbl}{H':Hall}(x:LI W M)(h1:H'.ss=W.H.ss)(h2:H'.c=W.H.c)(h3:H'.n=W.H.n)(t:M'.t=H'.t)(m1:M'.c=M.c)(m2:M'.n=M.n)(m3:M'.bk=M.bk)(m4:M'.fd=M.fd):LI { W with H:=H' } M':=by
 have hst:∀ s,M'.st s=M.st s:=fun s=>by simp[Tbl.st,m3,m4]
 refine⟨t,m1.trans (x.c.trans h2.symm),m2.trans (x.n.trans h3.symm),fun s hs=>?_,fun j q s hs hq hh=>?_,fun j q hq=>?_,?_⟩
 ·have hs:s<W.H.n:=by rw[← h3]; exact hs
  show Free (H'.ss s) _∨_
  rw[hst,h1]
  rcases x.st s hs with h | ⟨j,q,g1,g2,g3,g4⟩
  ·exact .inl h
  ·exact .inr ⟨j,q,g1,g2,g3,by show Held q (W.ms j) H'.c s _ _; rw[h2]; exact g4⟩
 ·show (H'.ss s).who=_
  rw[h1]; exact x.own j q s (by rw[← h3]; exact hs) hq hh
 ·show PA H'.n j H'.c q
  rw[h2,h3]; exact x.pa j q hq
 ·refine x.ws.same m2 m1 (fun s _=>by rw[m4]) fun j hj=>?_
  unfold Wd.em
  show (match W.ps j with | some p=>p.em (W.ms j) H'.c | none=>W.ms j)=_
  rw[h2]<;>rfl
theorem LI.pass {W:Wd}{M:Tbl}(x:LI W M)(who b:Int):LI { W with H:=W.H.pass who b } (M.tick b):=x.other rfl rfl rfl (by simp[Tbl.tick,Hall.pass,Hall.did,x.t]) rfl rfl rfl rfl
end Go.Den
namespace Go.Proofs.YtcnphhhcknhhaaaGreat
open Go Go.Den Go.MapKept
set_option linter.unusedSimpArgs false
set_option linter.unusedVariables false
set_option maxRecDepth 20000
def UW (t:Tag):Prop:=pre [1] t∨pre [2] t
theorem UW.nil:¬ UW []:=by rintro (h | h)<;>simp[pre] at h
theorem UW.two (i:Nat){t:Tag}(h:two (pre [2,i]) (pre [1]) t):UW t:=h.elim (fun h=>.inr (pre_trans (g:=[2]) (s:=[i]) h)) .inl
theorem g2i (i:Nat):Gd [2,i]:=⟨1,[i],rfl⟩
theorem d12i (i:Nat):Off (pre [1]) [2,i]:=off_pre (g:=[]) (x:=[1]) (y:=[2,i]) (by simp) (by simp)
theorem d2i1 (i:Nat):Off (pre [2,i]) [1]:=off_pre (g:=[]) (x:=[2,i]) (y:=[1]) (by simp) (by simp)
theorem d2ij {i j:Nat}(h:i≠j):Off (pre [2,i]) [2,j]:=off_pre (g:=[2]) (x:=[i]) (y:=[j]) (by simpa using h) (by simpa using Ne.symm h)
theorem dtwo {i j:Nat}(h:i≠j):Off (two (pre [2,i]) (pre [1])) [2,j]:=fun t ht hh=>hh.elim (d2ij h t ht) (d12i j t ht)
def PRm (T:Tags)(h:Heap)(g:Tag)(q:Nat):PR→Prop
 | .w p=>WPR T h g q p
 | .r p=>RPR T h g q p
 | .h _=>False
theorem PRm.kp {U:Tag→Prop}{T T':Tags}{h h':Heap}{g:Tag}{q:Nat}{p:PR}(x:PRm T h g q p)(k:Kp U T h T' h')(o:Off U g)(n:¬ U []):PRm T' h' g q p:=by
 cases p with
 | w p=>exact WPR.kp x k o n
 | r p=>exact RPR.kp x k o n
 | h p=>exact x
structure WdM (T:Tags)(h:Heap)(hp:Nat)(A:Nat→Nat)(W:Wd):Prop where
 hl:HallR T h [1] hp W.H
 ps:∀ i p,W.ps i=some p→PRm T h [2,i] (A i) p
theorem WdM.up {U:Tag→Prop}{T T':Tags}{h h':Heap}{hp:Nat}{A:Nat→Nat}{W:Wd}(x:WdM T h hp A W)(o:Only U T h T' h')(f:∀ t,UW t→¬ U t)(n:¬ U []):WdM T' h' hp A W :=
 ⟨x.hl.up o (fun t ht=>f t (.inl ht)) n,fun i p hp=>(x.ps i p hp).kp o.k (fun t ht=>f t (.inr (pre_trans (g:=[2]) (s:=[i]) ht))) n⟩
theorem WdM.ext {T:Tags}{h h':Heap}{hp:Nat}{A:Nat→Nat}{W:Wd}(x:WdM T h hp A W)(w:Wf T h)(e:Ext h h'):WdM T h' hp A W:=x.up (Only.of_ext (U:=non) w e) (fun _ _ h=>h) (not_non _)
structure WdK (k:Nat)(W:Wd)(M:Tbl):Prop where
 li:LI W M
 hs:HS k W.H
 ts:TS k M
theorem WdK.step {k:Nat}{W:Wd}{M:Tbl}(x:WdK k W M)(hk:k<100000){i:Nat}{p:PR}(hp:W.ps i=some p)(n:Int):WdK (k+1) (W.step i n) (p.tb W.H M) :=
 have y:=x.li.step x.hs hk x.ts hp n
 ⟨y.1,y.2.1,y.2.2⟩
theorem WdM.put {U:Tag→Prop}{T T':Tags}{h h':Heap}{hp i:Nat}{A:Nat→Nat}{W:Wd}{p:PR}(x:WdM T h hp A W)(o:Only U T h T' h')(u:∀ j,j≠i→Off U [2,j])(n:¬ U []){k:Int}(hp':W.ps i=some p)
  (y':HallR T' h' [1] hp (p.step (W.ms i) W.H k).2.2) (x':PRm T' h' [2,i] (A i) (p.step (W.ms i) W.H k).1):WdM T' h' hp A (W.step i k):=by
 refine⟨?_,fun j q hq=>?_⟩
 ·have:(W.step i k).H=(p.step (W.ms i) W.H k).2.2:=by simp only[Wd.step,hp']
  rw[this]; exact y'
 ·have hP:(W.step i k).ps j=if j=i then some (p.step (W.ms i) W.H k).1 else W.ps j:=by simp only[Wd.step,hp',bset]
  rw[hP] at hq
  split at hq
  ·rename_i hj; subst hj
   simp -implicitDefEqProofs only[Option.some.injEq] at hq; subst hq
   exact x'
  ·rename_i hj
   exact (x.ps j q hq).kp o.k (u j hj) n
variable {K:KTy}
theorem wdstep_w {T:Tags}{h:Heap}{hp k i:Nat}{A:Nat→Nat}{W:Wd}{M:Tbl}{p:WP}(n:Int)(w:Wf T h)(x:WdM T h hp A W)(y:WdK k W M)(hk:k<100000)(hp':W.ps i=some (.w p))
  (hK:∀ T' h',Only UW T h T' h'→WdM T' h' hp A (W.step i n)→K (.tuple #[]) h'):callM P qcVZ #[ptr (A i),ptr hp,.int .i64 n] h K:=by
 have hpa:=y.li.pa i _ hp'
 refine wstep_ok n w g1 (d12i i) (d2i1 i) (g2i i) (x.ps i _ hp') x.hl y.hs hk hpa.1 fun T' h' o x' y'=>?_
 exact hK T' h' (o.mono fun _=>UW.two i) (x.put o (fun j hj=>dtwo (Ne.symm hj)) (by rintro (h | h)<;>simp[pre] at h) hp' y' x')
theorem wdstep_r {T:Tags}{h:Heap}{hp k i:Nat}{A:Nat→Nat}{W:Wd}{M:Tbl}{p:RP}(n:Int)(w:Wf T h)(x:WdM T h hp A W)(y:WdK k W M)(hk:k<100000)(hp':W.ps i=some (.r p))
  (hK:∀ T' h',Only UW T h T' h'→WdM T' h' hp A (W.step i n)→K (.tuple #[]) h'):callM P qaSZ #[ptr (A i),ptr hp,.int .i64 n] h K:=by
 have hpa:=y.li.pa i _ hp'
 refine rstep_ok n w (g2i i) g1 (d12i i) (d2i1 i) (x.ps i _ hp') x.hl hpa.1.rg (y.hs.g hk) hpa.1.rs fun T' h' o y' x'=>?_
 exact hK T' h' (o.mono fun _ h=>UW.two i h.symm) (x.put o (fun j hj t ht h=>dtwo (Ne.symm hj) t ht h.symm) (by rintro (h | h)<;>simp[pre] at h) hp' y' x')
theorem wdnew_w {T:Tags}{h:Heap}{hp k i:Nat}{A:Nat→Nat}{W:Wd}{M:Tbl}(hi:i≤900)(o:OpD)(ow:OpW o)(hl:o.users.length<1000000){v:Value}(hv:Sl 1 StrR (fz T h) v o.users)(w:Wf T h)(x:WdM T h hp A W)(y:WdK k W M)(hi':∀ q,W.ps i=some q→Idle q (W.ms i) W.H.c)
  (hK:∀ T' h' q,Only non T h T' h'→WdM T' h' hp (bset A i q) { W with ps:=bset W.ps i (some (.w (wp0 W.H i o))) }→WdK k { W with ps:=bset W.ps i (some (.w (wp0 W.H i o))) } M→K (ptr q) h'):callM P qihZ #[ptr hp,.int .i64 i,.agg (opC o v).toArray] h K:=by
 have n8:=y.hs.n8
 have nn:=y.hs.nn
 refine wnew_ok i o ow w (g2i i) x.hl hv hl (by omega) fun T' h' q o' nq x'=>?_
 have hst:=stripeOf_lt (u:=o.user) (n:=W.H.c.stripes) (by omega)
 have hsn:(stripeOf o.user W.H.c.stripes).toNat<W.H.n:=by omega
 refine hK T' h' q o' ⟨x.hl.up o' (Off.non _) (not_non _),fun j p hj=>?_⟩ ⟨y.li.start ?_ (Idle.w _ _ rfl) hi',y.hs,y.ts⟩
 ·have hj:bset W.ps i (some (.w (wp0 W.H i o))) j=some p:=hj
  by_cases hji:j=i
  ·subst hji
   rw[bset_same] at hj ⊢
   simp -implicitDefEqProofs only[Option.some.injEq] at hj; subst hj
   exact x'
  ·rw[bset_ne hji] at hj ⊢
   exact (x.ps j p hj).kp o'.k (Off.non _) (not_non _)
 ·refine⟨sect_g hsn (by omega) fun z hz=>?_,rfl,by simp[wp0,sect],fun z hz=>?_⟩
  ·split at hz
   ·cases hz
   ·cases hz; exact ow
  ·have hz:(if badB o then WK.bad else .op o) = .op z:=hz
   split at hz
   ·cases hz
   ·cases hz; rfl
theorem wd0M {T:Tags}{h:Heap}{hp:Nat}{c:Cfg}{n:Nat}(x:HallR T h [1] hp (hall0 c n))(A:Nat→Nat):WdM T h hp A (wd0 c n):=⟨x,fun i p h=>by simp[wd0] at h⟩
theorem wd0K {c:Cfg}(cw:CfgW c)(hr:rightB c=true){n:Nat}(hn:(n:Int)=c.stripes):WdK 0 (wd0 c n) (tbl0 c n):=⟨LI.init,HS.new cw hr hn,TS.init cw hr hn⟩
end Go.Proofs.YtcnphhhcknhhaaaGreat
namespace Go.Proofs.YtcnphhhcknhhaaaGreat
open Go Go.Den Go.MapKept
set_option linter.unusedSimpArgs false
set_option linter.unusedVariables false
set_option maxRecDepth 20000
theorem take_eq_succ {α:Type}{xs ys:List α}{i:Nat}(h:xs.take i=ys.take i)(h1:i<xs.length)(h2:i<ys.length)(e:xs[i]=ys[i]):xs.take (i+1)=ys.take (i+1):=by
 rw[List.take_succ_eq_append_getElem h1,List.take_succ_eq_append_getElem h2,h,e]
end Go.Proofs.YtcnphhhcknhhaaaGreat
namespace Go.Den
open Go
set_option linter.unusedVariables false
set_option linter.unusedSimpArgs false
def wkOf (x:OpD):WK:=if badB x then .bad else .op x
theorem bef_do {M:Tbl}{x:OpD}{s:Nat}(hk:x.kind=1∨x.kind=2∨x.kind=3){i:Nat}(hi:i<8):(wkOf x).bef s M=M.do_ i x:=by
 have hc:clientB (i:Int)=true:=by simp[clientB]; omega
 unfold wkOf Tbl.do_
 by_cases hb:badB x=true
 ·simp[hb,WK.bef]
 ·simp[hb,hc,hk,WK.bef]
end Go.Den
namespace Go.Proofs.YtcnphhhcknhhaaaGreat
open Go Go.Den Go.MapKept
set_option linter.unusedSimpArgs false
set_option linter.unusedVariables false
set_option maxRecDepth 20000
theorem g3:Gd [3]:=⟨2,[],rfl⟩
theorem opsAt {F:Heap}{v:Value}{xs:List OpD}(x:Sl 7 OpR F v xs){i:Nat}(hi:i<xs.length):∃ b p u,iaV (some (none,7)) v (.int .i64 i)=some (.pointer (some ⟨b,p,none⟩))∧(∀ h',Ext F h'→ldV (some (some 7)) (.pointer (some ⟨b,p,none⟩)) h'=some (.agg (opC xs[i] u).toArray))∧Sl 1 StrR F u xs[i].users∧OpW xs[i]:=by
 obtain⟨b,o,c,i1,i2,i3⟩:=x.at (k:=.i64) (i:=i) (by omega) (by omega)
 obtain⟨u,h1,h2,h3⟩:=i3
 simp -implicitDefEqProofs only[Int.toNat_natCast] at h1 h2 h3
 exact⟨b,o,u,i1,fun h' e=>by rw[ldV_n (cels_ext e i2),h1],h2,h3⟩
end Go.Proofs.YtcnphhhcknhhaaaGreat
namespace Go.Den
open Go
set_option linter.unusedVariables false
theorem Rw.appk {P:Program}{t ty e:TypeId}{sz bytes:Nat}{z:Array Value}{g:Tag}{v x:Value}{n:Nat}{xs:List Value}{T:Tags}{h:Heap}{K:Value→Value→Heap→Prop}
  (hb:bsI P t=some (e,sz,z)) (ht:P.underlying t=some (.slice e)) (hi:apC P e=some (sz,bytes,sz)) (hsz:0<sz) (hx:x.cells.size=sz) (h1:∀ u∈x.cells.toList,u.oneCell'=true) (w:Wf T h)
  (hv:Rw T h g sz e v n xs) (h63:n+1≤maxLen) (hby:(n+1)*bytes≤140737488355328) (hs:sz≤16777216) (hg:g≠[])
  (hk:∀ a v' T' h',Only (fun t=>t=g) T h T' h'→Rw T' h' g sz e v' (n+1) (xs++x.cells.toList)→(∀ b o,h b=some o→rowOf v≠some b→h' b=some o)→(rowOf v'=rowOf v∨∃ b,rowOf v'=some b∧h b=none)→K a v' h') :
  bsM (bsI P t) 1 [(0,x)] h fun a h'=>vvM P (Builtin.append_ #[t,t] ty #[v,a]) h' (K a):=by
 refine bs_one hb hx hs fun b h1' hbn he hc=>?_
 have o1:Only (fun t=>t=g) T h T h1':=Only.of_ext w he
 have hv1:Rw T h1' g sz e v n xs:=hv.kp (U:=non) (Only.of_ext w he).k (fun h=>h)
 refine vv_al ?_
 refine app_intro ht hi hsz hv1.1 (cels_one hc hx) h1 h63 hby fun v' h' hr hkp ha hal=>?_
 have hrow:∀ k,rowOf v=some k→T k=g:=hv.2
 have keep:∀ b o,h b=some o→rowOf v≠some b→h' b=some o:=fun k o ek hne=>hkp k o (he _ _ ek) (fun hh=>hne hh.symm)
 rcases ha with ha | ⟨k,ha,hn⟩
 ·have o2:Only (fun t=>t=g) T h1' T h':=by
   refine⟨fun k hk0=>?_,fun _ _ _=>rfl,fun k o e=>hal k o e,fun k o e n=>hkp k o e (fun hh=>n (hrow k hh.symm))⟩
   cases hh:h1' k with
   | none=>exact o1.wf k hh
   | some o=>obtain⟨o',ho'⟩:=hal k o hh; rw[ho'] at hk0; cases hk0
  exact hk _ v' T h' (o1.trans o2) ⟨hr,fun k hk0=>hrow k (by rw[← ha]; exact hk0)⟩ keep (.inl ha)
 ·have hne:∀ j o,h1' j=some o→j≠k:=fun j o e hj=>by subst hj; rw[hn] at e; cases e
  have o2:Only (fun t=>t=g) T h1' (tset T k g) h':=by
   refine⟨fun j hj=>?_,fun j o e=>tset_ne (hne j o e),fun j o e=>hal j o e,fun j o e n=>hkp j o e (fun hh=>n (hrow j hh.symm))⟩
   have hjk:j≠k:=fun e=>by
    subst e
    obtain⟨o,ho⟩:=hr.lt j ha
    rw[ho] at hj; cases hj
   rw[tset_ne hjk]
   cases hh:h1' j with
   | none=>exact o1.wf j hh
   | some o=>obtain⟨o',ho'⟩:=hal j o hh; rw[ho'] at hj; cases hj
  refine hk _ v' (tset T k g) h' (o1.trans o2) ⟨hr,fun j hj=>?_⟩ keep (.inr ⟨k,ha,fresh_of he hn⟩)
  rw[ha] at hj
  simp only[Option.some.injEq] at hj
  subst hj
  simp
theorem Only.keepk {U V:Tag→Prop}{T T1 T2:Tags}{h h1 h2:Heap}{r:Option Nat}(x:Only U T h T1 h1)(y:Only V T1 h1 T2 h2)(k:∀ b o,h1 b=some o→r≠some b→h2 b=some o)(hr:∀ b,r=some b→h b=none):Only U T h T2 h2:=by
 have kk:∀ b o o1,h b=some o→h1 b=some o1→h2 b=some o1:=fun b o o1 e e1=>k b o1 e1 fun hh=>by rw[hr b hh] at e; cases e
 refine⟨y.wf,fun b o e=>?_,fun b o e=>?_,fun b o e u=>?_⟩
 ·obtain⟨o1,e1⟩:=x.al b o e
  rw[y.tg b o1 e1,x.tg b o e]
 ·obtain⟨o1,e1⟩:=x.al b o e
  exact⟨o1,kk b o o1 e e1⟩
 ·exact kk b o o e (x.kp b o e u)
end Go.Den
namespace Go.Den
open Go
set_option linter.unusedVariables false
set_option linter.unusedSimpArgs false
theorem wstep_placed (p:WP)(H:Hall)(n:Int):(p.step H n).1.placed=if p.enabled H=true∧p.places=true then n else p.placed:=by
 cases he:p.enabled H with
 | false=>simp[WP.step,he]
 | true =>
  by_cases hb:p.k.isBad=true
  ·simp[WP.step,he,hb,WP.places]
  ·have hb:p.k.isBad=false:=by simpa using hb
   have e1:p.step H n=p.stp H n:=by simp[WP.step,he,hb]
   have hl:=enabled_at he
   rw[e1]
   have hc:p.at_=0∨p.at_=1∨p.at_=2∨p.at_=3∨p.at_=4∨p.at_=5∨p.at_=6:=by omega
   rcases hc with h | h | h | h | h | h | h
   ·rw[stp0 H n h]; simp[WP.places,hb,h]
   ·rw[stp1 H n h]; simp[WP.places,hb,h]
   ·rw[stp2 H n h]; simp[WP.places,hb,h]
   ·rw[stp3 H n h]; simp[WP.places,hb,h]
   ·rw[stp4 H n h]; simp[WP.places,hb,h]
   ·rw[stp5 H n h]; simp[WP.places,hb,h]
   ·rw[stp6 H n (by omega)]; simp[WP.places,hb,h]
def PlW (p:WP):Prop:=p.placed = -1∨(0≤p.placed∧if p.k.isBad=true then 7≤p.at_ else 3≤p.at_)
theorem PlW.no {p:WP}{H:Hall}(h:0≤p.placed)(x:PlW p):¬ (p.enabled H=true∧p.places=true):=by
 rintro⟨he,hp⟩
 have hl:=enabled_at he
 rcases x with x | ⟨_,x⟩
 ·omega
 ·unfold WP.places at hp
  by_cases hb:p.k.isBad=true
  ·rw[if_pos hb] at x; omega
  ·rw[if_neg hb] at x
   simp[hb] at hp; omega
theorem PlW.step {p:WP}(x:PlW p)(H:Hall){n:Int}(hn:0≤n):PlW (p.step H n).1:=by
 have hk:=(wstep_k p H n).1
 have hp:=wstep_placed p H n
 by_cases hpl:p.enabled H=true∧p.places=true
 ·rw[if_pos hpl] at hp
  refine .inr ⟨by rw[hp]; exact hn,?_⟩
  obtain⟨he,hq⟩:=hpl
  rw[hk]
  by_cases hb:p.k.isBad=true
  ·have e1:p.step H n=({ p with err:=1,placed:=n,at_:=7 },H):=by simp[WP.step,he,hb]
   rw[if_pos hb,e1]; exact Nat.le_refl 7
  ·have e1:p.step H n=p.stp H n:=by simp[WP.step,he,hb]
   have h2:p.at_=2:=by simpa [WP.places,hb] using hq
   rw[if_neg hb,e1,stp_at p H n (by omega)]; omega
 ·rw[if_neg hpl] at hp
  rcases x with x | ⟨x,y⟩
  ·exact .inl (by rw[hp]; exact x)
  ·refine .inr ⟨by rw[hp]; exact x,?_⟩
   rw[hk]
   have:p.at_≤(p.step H n).1.at_:=by
    cases he:p.enabled H with
    | false=>simp[WP.step,he]
    | true =>
     have hl:=enabled_at he
     by_cases hb:p.k.isBad=true
     ·rw[if_pos hb] at y; omega
     ·have e1:p.step H n=p.stp H n:=by simp[WP.step,he,hb]
      rw[e1,stp_at p H n hl]; omega
   split at y
   ·rename_i hb; rw[if_pos hb]; omega
   ·rename_i hb; rw[if_neg hb]; omega
theorem PlW.ev {p:WP}(x:PlW p)(H:Hall){n:Int}(hn:0≤n):(p.placed<0∧(p.step H n).1.placed=n)↔(p.enabled H=true∧p.places=true):=by
 rw[wstep_placed]
 constructor
 ·rintro⟨h1,h2⟩
  by_cases h:p.enabled H=true∧p.places=true
  ·exact h
  ·rw[if_neg h] at h2; omega
 ·intro h
  rw[if_pos h]
  refine⟨?_,rfl⟩
  by_cases h0:0≤p.placed
  ·exact absurd h (x.no h0)
  ·omega
end Go.Den
namespace Go.Den
open Go
set_option linter.unusedVariables false
set_option linter.unusedSimpArgs false
theorem LI.ss_away {W:Wd}{M:Tbl}{k m:Nat}(x:LI W M)(hs:HS k W.H)(ts:TS m M){i j:Nat}{p q:PR}(hp:W.ps i=some p)(hq:W.ps j=some q)(hij:j≠i)(n:Int){s:Nat}(hn:s<W.H.n)(h:q.holds s):(W.step i n).H.ss s=W.H.ss s:=by
 have hH:(W.step i n).H=(p.step (W.ms i) W.H n).2.2:=by simp only[Wd.step,hp]
 rw[hH]
 have hw:=x.own j q s hn hq h
 by_cases he:p.enabled W.H=true
 ·have l:=x.loc hs ts hp n he hn
  have nh:¬ p.holds s:=fun hh=>by have:=x.own i p s hn hp hh; omega
  rcases l.b nh with ⟨h1,_⟩ | ⟨h0,_⟩
  ·exact h1
  ·omega
 ·rw[pstep_off (by simpa using he)]
theorem Wd.step_ps {W:Wd}{i j:Nat}{p:PR}(hp:W.ps i=some p)(n:Int):(W.step i n).ps j=if j=i then some (p.step (W.ms i) W.H n).1 else W.ps j:=by simp only[Wd.step,hp,bset]
theorem Wd.step_H {W:Wd}{i:Nat}{p:PR}(hp:W.ps i=some p)(n:Int):(W.step i n).H=(p.step (W.ms i) W.H n).2.2:=by simp only[Wd.step,hp]
section
variable {nw nm i k:Nat}{X:Nat→OpD}{want:Nat→Reply}{W:Wd}{M:Tbl}
end
end Go.Den
namespace Go.Den
open Go
set_option linter.unusedVariables false
set_option linter.unusedSimpArgs false
theorem BD.keep {H H':Hall}(b:BD H)(hc:H'.c=H.c)(hn:H'.n=H.n)(v:∀ s,s<H.n→Vm (H.ss s) (H'.ss s)):BD H':=fun s hs=>by
 rw[hn] at hs
 rw[(v s hs).b,hc]; exact b s hs
theorem BD.init (c:Cfg)(n:Nat):BD (hall0 c n):=fun s hs=>rfl
theorem LI.ro_away {W:Wd}{M:Tbl}{k m:Nat}(x:LI W M)(hs:HS k W.H)(hk:k<100000)(ts:TS m M){i j:Nat}{p:PR}{q:RP}(hp:W.ps i=some p)(hq:W.ps j=some (.r q))(hij:j≠i)(n:Int){o:OpD}{L:Tbl}{tn:Int}(ro:RO q W.H o L tn):RO q (W.step i n).H o L tn:=by
 rw[Wd.step_H hp]
 refine ro.frame (x.pa j _ hq).1 (pstep_n (m:=W.ms i) hs n hk (x.pa i p hp)).2.1 (fun s h=>x.vm (k:=0) hp n s h) fun s h1 h2=>?_
 have:=x.ss_away hs ts hp hq hij n h2 h1
 rw[Wd.step_H hp] at this; exact this
theorem LI.bd_step {W:Wd}{M:Tbl}{k:Nat}(x:LI W M)(hs:HS k W.H)(hk:k<100000){i:Nat}{p:PR}(hp:W.ps i=some p)(n:Int)(b:BD W.H):BD (W.step i n).H:=by
 rw[Wd.step_H hp]
 have h:=pstep_n (m:=W.ms i) hs n hk (x.pa i p hp)
 exact b.keep h.2.1 h.1 fun s h=>x.vm (k:=0) hp n s h
structure CrR (nw nm n:Nat)(X:Nat→OpD)(Ms:Nat→Tbl)(W:Wd):Prop where
 w:∀ i q,i<nw→W.ps i=some q→∃ p,q = .w p∧p.k=wkOf (X i)∧PlW p
 r:∀ i q,nw≤i→W.ps i=some q→∃ p t,q = .r p∧t<n∧RO p W.H (X i) (Ms t) (t:Nat)
 o:∀ i,nm≤i→W.ps i=none
 k:∀ i,i<nw→(X i).kind=1∨(X i).kind=2∨(X i).kind=3
 kr:∀ i,nw≤i→i<nm→(X i).kind=4∨(X i).kind=5
 b:BD W.H
section
variable {nw nm n i k:Nat}{X:Nat→OpD}{Ms:Nat→Tbl}{W:Wd}{M:Tbl}
theorem CrR.step_w (c:CrR nw nm n X Ms W)(li:LI W M)(hs:HS k W.H)(hk:k<100000)(ts:TS k M){p:WP}(hp:W.ps i=some (.w p))(hi:i<nw)(hm:i<nm)(h8:nm≤8){z:Int}(hz:0≤z) :
  CrR nw nm n X Ms (W.step i z)∧(PR.w p).tb W.H M=(if p.placed<0∧(p.step W.H z).1.placed=z then (M.do_ i (X i)).1 else M):=by
 obtain⟨p',e,hkk,pl⟩:=c.w i _ hi hp
 cases e
 refine⟨⟨fun j q hj hq=>?_,fun j q hj hq=>?_,fun j hj=>?_,c.k,c.kr,li.bd_step hs hk hp z c.b⟩,?_⟩
 ·rw[Wd.step_ps hp] at hq
  by_cases hji:j=i
  ·subst hji
   rw[if_pos rfl] at hq; cases hq
   exact⟨_,rfl,by rw[(wstep_k p W.H z).1]; exact hkk,pl.step W.H hz⟩
  ·rw[if_neg hji] at hq
   exact c.w j q hj hq
 ·have hji:j≠i:=by omega
  rw[Wd.step_ps hp,if_neg hji] at hq
  obtain⟨r,t,e,ht,ro⟩:=c.r j q hj hq
  subst e
  exact⟨r,t,rfl,ht,li.ro_away hs hk ts hp hq hji z ro⟩
 ·rw[Wd.step_ps hp,if_neg (by omega)]; exact c.o j hj
 ·show (if p.enabled W.H=true∧p.places=true then (p.k.bef p.s M).1 else M)=_
  rw[hkk,bef_do (c.k i hi) (i:=i) (by omega)]
  by_cases h:p.enabled W.H=true∧p.places=true
  ·rw[if_pos h,if_pos ((pl.ev W.H hz).2 h)]
  ·rw[if_neg h,if_neg fun hh=>h ((pl.ev W.H hz).1 hh)]
theorem CrR.step_r (c:CrR nw nm (n+1) X Ms W)(li:LI W (Ms n))(hs:HS k W.H)(hk:k<100000)(ts:TS k (Ms n)){p:RP}(hp:W.ps i=some (.r p))(hi:nw≤i)(hm:i<nm) :
  CrR nw nm (n+1) X Ms (W.step i n)∧(PR.r p).tb W.H (Ms n)=Ms n:=by
 obtain⟨p',t,e,ht,ro⟩:=c.r i _ hi hp
 cases e
 refine⟨⟨fun j q hj hq=>?_,fun j q hj hq=>?_,fun j hj=>?_,c.k,c.kr,li.bd_step hs hk hp n c.b⟩,?_⟩
 ·have hji:j≠i:=by omega
  rw[Wd.step_ps hp,if_neg hji] at hq
  exact c.w j q hj hq
 ·rw[Wd.step_ps hp] at hq
  by_cases hji:j=i
  ·subst hji
   rw[if_pos rfl] at hq; cases hq
   have:=li.ro_step hs c.b hp n ro
   rw[Wd.step_H hp]
   by_cases h:p.enabled W.H=true∧p.looks=true
   ·rw[if_pos h,if_pos h] at this
    exact⟨_,n,rfl,by omega,this⟩
   ·rw[if_neg h,if_neg h] at this
    exact⟨_,t,rfl,ht,this⟩
  ·rw[if_neg hji] at hq
   obtain⟨r,t',e,ht',ro'⟩:=c.r j q hj hq
   subst e
   exact⟨r,t',rfl,ht',li.ro_away hs hk ts hp hq hji n ro'⟩
 ·rw[Wd.step_ps hp,if_neg (by omega)]; exact c.o j hj
 ·show (if p.enabled W.H=true∧false=true then _ else Ms n)=_
  simp
theorem CrR.new_w (c:CrR nw nm n X Ms W){p:WP}(hk:p.k=wkOf (X i))(hpl:p.placed = -1)(hi:i<nw)(hm:i<nm):CrR nw nm n X Ms { W with ps:=bset W.ps i (some (.w p)) }:=by
 refine⟨fun j q hj hq=>?_,fun j q hj hq=>?_,fun j hj=>?_,c.k,c.kr,c.b⟩
 ·by_cases hji:j=i
  ·subst hji
   have hq:bset W.ps j (some (.w p)) j=some q:=hq
   rw[bset_same] at hq; cases hq
   exact⟨_,rfl,hk,.inl hpl⟩
  ·have hq:bset W.ps i (some (.w p)) j=some q:=hq
   rw[bset_ne hji] at hq
   exact c.w j q hj hq
 ·have hji:j≠i:=by omega
  have hq:bset W.ps i (some (.w p)) j=some q:=hq
  rw[bset_ne hji] at hq
  exact c.r j q hj hq
 ·show bset W.ps i (some (.w p)) j=none
  rw[bset_ne (by omega)]; exact c.o j hj
theorem RO.init {H:Hall}(who:Int)(x:OpD){L:Tbl}(lc:L.c=H.c)(tn:Int):RO (rp0 H who x) H x L tn:=by
 refine⟨rfl,rfl,rfl,lc,fun j hj h=>?_,fun h=>?_,fun h=>?_,fun h=>?_,fun h=>?_,fun h=>?_,fun _=>⟨rfl,rfl⟩,fun h=>rfl⟩
 all_goals simp[rp0,RP.begin] at h
theorem CrR.new_r (c:CrR nw nm (n+1) X Ms W)(lc:(Ms n).c=W.H.c)(hi:nw≤i)(hm:i<nm):CrR nw nm (n+1) X Ms { W with ps:=bset W.ps i (some (.r (rp0 W.H i (X i)))) }:=by
 refine⟨fun j q hj hq=>?_,fun j q hj hq=>?_,fun j hj=>?_,c.k,c.kr,c.b⟩
 ·have hji:j≠i:=by omega
  have hq:bset W.ps i (some (.r (rp0 W.H i (X i)))) j=some q:=hq
  rw[bset_ne hji] at hq
  exact c.w j q hj hq
 ·by_cases hji:j=i
  ·subst hji
   have hq:bset W.ps j (some (.r (rp0 W.H j (X j)))) j=some q:=hq
   rw[bset_same] at hq; cases hq
   exact⟨_,n,rfl,by omega,RO.init _ _ lc _⟩
  ·have hq:bset W.ps i (some (.r (rp0 W.H i (X i)))) j=some q:=hq
   rw[bset_ne hji] at hq
   exact c.r j q hj hq
 ·show bset W.ps i (some (.r (rp0 W.H i (X i)))) j=none
  rw[bset_ne (by omega)]; exact c.o j hj
theorem CrR.more (c:CrR nw nm n X Ms W)(M:Tbl):CrR nw nm (n+1) X (bset Ms n M) W:=by
 refine⟨c.w,fun i q hi hq=>?_,c.o,c.k,c.kr,c.b⟩
 obtain⟨p,t,e,ht,ro⟩:=c.r i q hi hq
 exact⟨p,t,e,by omega,by rw[bset_ne (by omega)]; exact ro⟩
theorem CrR.pass (c:CrR nw nm n X Ms W)(li:LI W M)(who b:Int):CrR nw nm n X Ms { W with H:=W.H.pass who b }:=by
 refine⟨c.w,fun i q hi hq=>?_,c.o,c.k,c.kr,c.b.keep rfl rfl fun _ _=>Vm.refl _⟩
 obtain⟨p,t,e,ht,ro⟩:=c.r i q hi hq
 subst e
 exact⟨p,t,rfl,ht,ro.frame (li.pa i _ hq).1 rfl (fun _ _=>Vm.refl _) fun _ _ _=>rfl⟩
theorem do_read (M:Tbl){who:Int}{x:OpD}(hx:x.kind=4∨x.kind=5)(hw:clientB who=true):M.do_ who x=(M,if badB x=true then repE 1 else if M.t.closed then repE 5 else ⟨0,(usersOf x).map M.pres,[],false⟩):=by
 have h1:¬ (x.kind=1∨x.kind=2∨x.kind=3):=by omega
 have h2:¬ x.kind=8:=by omega
 have h3:¬ x.kind=6:=by omega
 have h4:¬ x.kind=7:=by omega
 have h5:¬ x.kind=9:=by omega
 unfold Tbl.do_
 by_cases hb:badB x=true
 ·simp[hb]
 ·have hb:badB x=false:=by simpa using hb
  simp only[hb,hw,Bool.true_eq_false,Bool.false_eq_true,or_self,if_false,if_neg h1,if_neg h2,if_neg h3,if_neg h4,if_neg h5]
  split<;>rfl
theorem users_ne {x:OpD}(hx:x.kind=4∨x.kind=5)(hb:¬ badB x=true):∃ u,u∈usersOf x:=by
 rcases hx with h | h
 ·exact⟨x.user,by simp[usersOf,h]⟩
 ·have:0<x.users.length:=by
   rcases Nat.eq_zero_or_pos x.users.length with h0 | h0
   ·exact absurd (by simp[badB,h,h0]) hb
   ·exact h0
  exact⟨x.users[0],by simp[usersOf,h]⟩
theorem CrR.fin (c:CrR nw nm n X Ms W)(hs:HS k W.H){p:RP}(hp:W.ps i=some (.r p))(hi:nw≤i)(hm:i<nm)(h8:p.ph=8){who:Int}(hw:clientB who=true):∃ t,t<n∧p.placed=(t:Nat)∧(PR.r p).rep=((Ms t).do_ who (X i)).2:=by
 obtain⟨p',t,e,ht,ro⟩:=c.r i _ hi hp
 cases e
 obtain⟨f1,f2,f3⟩:=ro.f8 h8
 refine⟨t,ht,f1,?_⟩
 have hx:=c.kr i hi hm
 have hrep:(PR.r p).rep=⟨p.err,p.vals,[],false⟩:=by simp[PR.rep,h8]
 rw[do_read _ hx hw,hrep]
 by_cases hb:badB (X i)=true
 ·have hss:p.ss=[]:=by rw[ro.ss,ro.us,if_pos hb]; exact stripesOf_nil _
  obtain⟨g1,g2⟩:=f2 hss
  simp[hb,g1,g2,repE]
 ·have hss:p.ss≠[]:=fun h=>by
   obtain⟨u,hu⟩:=users_ne hx hb
   have n8:=hs.n8; have nn:=hs.nn
   have:=(mem_stripes (users:=p.users) (n:=p.of) (by rw[ro.of]; omega) (u:=u) (by rw[ro.us,if_neg hb]; exact hu)).1
   rw[← ro.ss,h] at this; cases this
  obtain⟨g1,g2⟩:=f3 hss
  simp only[if_neg hb]
  by_cases hc:(Ms t).t.closed=true
  ·obtain⟨e1,e2⟩:=g1 hc
   simp[hc,e1,e2,repE]
  ·have hc:(Ms t).t.closed=false:=by simpa using hc
   obtain⟨e1,e2⟩:=g2 hc
   have hu:p.users=usersOf (X i):=by rw[ro.us,if_neg hb]
   simp[hc,e1,e2,hu]
end
end Go.Den
namespace Go.Proofs.YtcnphhhcknhhaaaGreat
open Go Go.Den Go.MapKept
set_option linter.unusedSimpArgs false
set_option linter.unusedVariables false
set_option maxRecDepth 20000
def mdC (c:Cfg)(t:Tm)(bv fv:Value):List Value:=[.int .i64 c.stripes,.int .i64 c.sessions,.int .i64 c.queue,.int .i64 c.watches,.int .i64 c.retries,.int .u64 c.epochs,.int .u64 c.start,.int .u64 t.now,.int .u64 t.seq,.bool t.closed,bv,fv]
structure MdX (T:Tags)(h:Heap)(g:Tag)(p:Nat)(M:Tbl)(bv fv:Value)(K V:Nat→Value)(F:Nat→Nat):Prop where
 hp:h p=some (.cells (mdC M.c M.t bv fv).toArray qaqZ (0,0))
 tp:T p=g++[0]
 bk:Rw T h (g++[1]) 2 qaZ bv M.n (seqF M.n fun i=>[K i,V i])
 fd:Rw T h (g++[2]) 1 qeeZ fv M.n (seqF M.n fun i=>[ptr (F i)])
 br:∀ s,s<M.n→BookR (fz T h) (K s) (V s) (M.bk s)
 fr:∀ s,s<M.n→FeedR T h (g++[3,s]) (F s) (M.fd s)
def MdR (T:Tags)(h:Heap)(g:Tag)(p:Nat)(M:Tbl):Prop:=∃ bv fv K V F,MdX T h g p M bv fv K V F
theorem MdX.kp {U:Tag→Prop}{T T':Tags}{h h':Heap}{g:Tag}{p:Nat}{M:Tbl}{bv fv:Value}{K V:Nat→Value}{F:Nat→Nat}(x:MdX T h g p M bv fv K V F)(k:Kp U T h T' h')(o:Off U g)(n:¬ U []):MdX T' h' g p M bv fv K V F :=
 ⟨(k.at x.hp x.tp (o.at [0])).1,(k.at x.hp x.tp (o.at [0])).2,x.bk.kp k (o.at [1]),x.fd.kp k (o.at [2]),fun s hs=>(x.br s hs).ext (k.ext n),fun s hs=>(x.fr s hs).kp k (o.app [3,s]) n⟩
theorem MdR.kp {U:Tag→Prop}{T T':Tags}{h h':Heap}{g:Tag}{p:Nat}{M:Tbl}(x:MdR T h g p M)(k:Kp U T h T' h')(o:Off U g)(n:¬ U []):MdR T' h' g p M:=by
 obtain⟨bv,fv,K,V,F,x⟩:=x
 exact⟨bv,fv,K,V,F,x.kp k o n⟩
theorem MdR.up {U:Tag→Prop}{T T':Tags}{h h':Heap}{g:Tag}{p:Nat}{M:Tbl}(x:MdR T h g p M)(k:Only U T h T' h')(o:Off U g)(n:¬ U []):MdR T' h' g p M:=x.kp k.k o n
theorem MdX.st {T:Tags}{h:Heap}{g:Tag}{p:Nat}{M M':Tbl}{bv fv:Value}{K V:Nat→Value}{F:Nat→Nat}(x:MdX T h g p M bv fv K V F)(w:Wf T h)(gg:Gd g){c:Array Value}(hc:c=(mdC M'.c M'.t bv fv).toArray)(h3:M'.n=M.n)(h4:M'.bk=M.bk)(h5:M'.fd=M.fd) :
  Only (fun t=>t=g++[0]) T h T (upd h p (.cells c qaqZ (0,0)))∧MdX T (upd h p (.cells c qaqZ (0,0))) g p M' bv fv K V F:=by
 have o:Only (fun t=>t=g++[0]) T h T (upd h p (.cells c qaqZ (0,0))):=Only.upd w x.hp x.tp
 refine⟨o,by rw[upd_same',hc],x.tp,?_,?_,fun s hs=>?_,fun s hs=>?_⟩
 ·rw[h3]; exact x.bk.kp o.k (ne_tag (by simp))
 ·rw[h3]; exact x.fd.kp o.k (ne_tag (by simp))
 ·rw[h4]; exact (x.br s (by rw[← h3]; exact hs)).ext (o.ext (by simp))
 ·rw[h5]; exact (x.fr s (by rw[← h3]; exact hs)).kp o.k (off_eq (by simp)) (by simp)
theorem MdX.ldb {T:Tags}{h:Heap}{g:Tag}{p:Nat}{M:Tbl}{bv fv:Value}{K V:Nat→Value}{F:Nat→Nat}(x:MdX T h g p M bv fv K V F){s:Nat}(hs:s<M.n):∃ b,rowOf bv=some b∧iaV (some (none,2)) bv (.int .i64 s)=some (.pointer (some ⟨b,s*2,none⟩))∧ldV (some (some 2)) (.pointer (some ⟨b,s*2,none⟩)) h=some (.agg #[K s,V s]):=by
 obtain⟨b,h1,h2⟩:=x.bk.1.ia (k:=.i64) hs
 refine⟨b,h1,h2,?_⟩
 have hc:cels h b (s*2) 2=some [K s,V s]:=by
  rw[x.bk.1.cels h1 (by have:(s+1)*2≤M.n*2:=Nat.mul_le_mul_right _ hs; omega)]
  exact congrArg some (seqF_at (F:=fun i=>[K i,V i]) (fun _ _=>rfl) hs)
 rw[ldV_n hc]
theorem MdX.ldf {T:Tags}{h:Heap}{g:Tag}{p:Nat}{M:Tbl}{bv fv:Value}{K V:Nat→Value}{F:Nat→Nat}(x:MdX T h g p M bv fv K V F){s:Nat}(hs:s<M.n):∃ b,iaV (some (none,1)) fv (.int .i64 s)=some (.pointer (some ⟨b,s,none⟩))∧cel h b s=some (ptr (F s)):=by
 obtain⟨b,h1,h2⟩:=x.fd.1.ia (k:=.i64) hs
 rw[Nat.mul_one] at h2
 refine⟨b,h2,?_⟩
 have hc:cels h b s 1=some [ptr (F s)]:=by
  rw[x.fd.1.cels h1 (by omega)]
  have:=seqF_at (F:=fun i=>[ptr (F i)]) (sz:=1) (n:=M.n) (fun _ _=>rfl) hs
  rw[Nat.mul_one] at this
  exact congrArg some this
 have:=(cels_get hc).2 0 (by simp)
 simpa using this
theorem MdX.stb {T:Tags}{h:Heap}{g:Tag}{p:Nat}{M:Tbl}{bv fv:Value}{K V:Nat→Value}{F:Nat→Nat}(x:MdX T h g p M bv fv K V F)(w:Wf T h){s b:Nat}(hs:s<M.n)(hb:rowOf bv=some b){k v:Value}{B:Book}(hB:BookR (fz T h) k v B){Q:Heap→Prop}
  (hk:∀ h',Only (fun t=>t=g++[1]) T h T h'→MdX T h' g p { M with bk:=bset M.bk s B } bv fv (bset K s k) (bset V s v) F→Q h'):stM (some 2) (.pointer (some ⟨b,s*2,none⟩)) (.agg #[k,v]) h Q:=by
 have tb:=x.bk.2 b hb
 have u1:=hB.1.one
 have u2:=hB.2.1.one
 refine x.bk.1.st hb (m:=2) (by simp) (by have:(s+1)*2≤M.n*2:=Nat.mul_le_mul_right _ hs; omega) (by simp[u1.1,u2.1]) fun h' hk' hrow=>?_
 obtain⟨ob,hob⟩:=x.bk.1.lt b hb
 obtain⟨ob',hob'⟩:=hrow.lt b hb
 have e:h'=upd h b ob':=upd_of hk' hob'
 have o1:Only (fun t=>t=g++[1]) T h T h':=by rw[e]; exact Only.upd w hob tb
 refine hk h' o1 ⟨(o1.k.at x.hp x.tp (ne_tag (by simp))).1,x.tp,⟨?_,x.bk.2⟩,x.fd.kp o1.k (ne_tag (by simp)),fun i hi=>?_,fun i hi=>(x.fr i hi).kp o1.k (off_eq (by simp)) (by simp)⟩
 ·have hsp:=seqF_spl (F:=fun i=>[K i,V i]) (sz:=2) (n:=M.n) (off:=0) (l:=[k,v]) (fun i _=>rfl) hs (by simp)
  rw[Nat.add_zero] at hsp
  have:seqF M.n (fset (fun i=>[K i,V i]) s (spl [K s,V s] 0 [k,v]))=seqF M.n fun i=>[bset K s k i,bset V s v i]:=by
   refine seqF_congr fun i hi=>?_
   simp -implicitDefEqProofs only[fset,bset]
   by_cases his:i=s
   ·subst his; simp[spl]
   ·simp -implicitDefEqProofs[his]
  rw[show (Value.agg #[k,v]).cells.toList=[k,v] from by simp] at hrow
  rw[hsp,this] at hrow
  exact hrow
 ·by_cases his:i=s
  ·subst his
   show BookR _ (bset K i k i) (bset V i v i) (bset M.bk i B i)
   rw[bset_same,bset_same,bset_same]
   exact hB.ext (o1.ext (by simp))
  ·show BookR _ (bset K s k i) (bset V s v i) (bset M.bk s B i)
   rw[bset_ne his,bset_ne his,bset_ne his]
   exact (x.br i hi).ext (o1.ext (by simp))
theorem MdX.fed {T T':Tags}{h h':Heap}{g:Tag}{p:Nat}{M:Tbl}{bv fv:Value}{K V:Nat→Value}{F:Nat→Nat}(x:MdX T h g p M bv fv K V F){s:Nat}{f:Feed}(o:Only (pre (g++[3,s])) T h T' h')(gg:Gd g)(r:FeedR T' h' (g++[3,s]) (F s) f) :
  MdX T' h' g p (M.fed s f) bv fv K V F:=by
 have b:=o.k.at x.hp x.tp (not_pre (by simp))
 have n:¬ pre (g++[3,s]) []:=(gg.app _).nil
 refine⟨b.1,b.2,x.bk.kp o.k (not_pre (by simp)),x.fd.kp o.k (not_pre (by simp)),fun i hi=>(x.br i hi).ext (o.ext n),fun i hi=>?_⟩
 show FeedR T' h' _ _ (bset M.fd s f i)
 by_cases his:i=s
 ·subst his; rw[bset_same]; exact r
 ·rw[bset_ne his]; exact (x.fr i hi).kp o.k (off_pre (by simp; omega) (by simp; omega)) n
section
variable {T:Tags}{h:Heap}{g:Tag}{p m:Nat}{M:Tbl}{K:KTy}
theorem mstripe_ok (u:ByteArray)(hu:u.size≤maxLen)(x:MdR T h g p M)(hc:M.c.stripes≤8)(hk:K (.int .i64 (stripeOf u M.c.stripes)) h):callM P qaCZ #[ptr p,.string u] h K:=by
 apply qrXZ
 unfold qgzZ
 obtain⟨bv,fv,Kk,V,F,x⟩:=x
 have cp:=x.hp
 simp -implicitDefEqProofs only[mdC] at cp
 simp -implicitDefEqProofs[ld_at cp,cel_of cp,stm_at cp,stm_upd,ld_same,cel_same,over]
 exact stripe_ok u _ (by omega) hu hk
theorem mtick_ok (by_:Int)(hb:U64 by_)(w:Wf T h)(gg:Gd g)(x:MdR T h g p M)(ht:U64 M.t.now)(hk:∀ T' h',Only (pre g) T h T' h'→MdR T' h' g p (M.tick by_)→K (.tuple #[]) h'):callM P qeBZ #[ptr p,.int .u64 by_] h K:=by
 apply qtcZ
 unfold qixZ
 obtain⟨bv,fv,Kk,V,F,x⟩:=x
 have cp:=x.hp
 simp -implicitDefEqProofs only[mdC] at cp
 have hld:ldV (some (some 3)) (.pointer (some ⟨p,7,none⟩)) h=some (.agg (tmC M.t).toArray):=by simp[ld_at cp,tmC]
 simp -implicitDefEqProofs only[ncV_p,faV_p,ov_s,Nat.zero_add,hld]
 refine tickPass_ok M.t ht hb fun h1 e1=>?_
 have o1:Only non T h T h1:=Only.of_ext w e1
 have x1:=x.kp o1.k (Off.non _) (not_non _)
 have cp:=x1.hp
 simp -implicitDefEqProofs only[mdC] at cp
 obtain⟨o2,x2⟩:=x1.st (M':=M.tick by_) o1.wf gg rfl rfl rfl rfl
 simp -implicitDefEqProofs[ld_at cp,cel_of cp,stm_at cp,stm_upd,ld_same,cel_same,over,tmC]
 exact hk T _ ((o1.mono fun _=>non_up _).up o2 fun t=>eq_pre) ⟨bv,fv,Kk,V,F,x2⟩
theorem mtake_ok (w:Wf T h)(gg:Gd g){bv fv:Value}{Kk V:Nat→Value}{F:Nat→Nat}(x:MdX T h g p M bv fv Kk V F)(ht:U64 M.t.seq)(hk:∀ h',Only (fun t=>t=g++[0]) T h T h'→MdX T h' g p M.take bv fv Kk V F→K (.int .u64 M.take.t.seq) h'):callM P qhsZ #[ptr p] h K:=by
 apply qtvZ
 unfold qiDZ
 have cp:=x.hp
 simp -implicitDefEqProofs only[mdC] at cp
 have hld:ldV (some (some 3)) (.pointer (some ⟨p,7,none⟩)) h=some (.agg (tmC M.t).toArray):=by simp[ld_at cp,tmC]
 simp -implicitDefEqProofs only[ncV_p,faV_p,ov_s,Nat.zero_add,hld]
 refine tickTake_ok M.t ht fun h1 e1=>?_
 have o1:Only non T h T h1:=Only.of_ext w e1
 have x1:=x.kp o1.k (Off.non _) (not_non _)
 have cp:=x1.hp
 simp -implicitDefEqProofs only[mdC] at cp
 obtain⟨o2,x2⟩:=x1.st (M':=M.take) o1.wf gg rfl rfl rfl rfl
 simp -implicitDefEqProofs[ld_at cp,cel_of cp,stm_at cp,stm_upd,ld_same,cel_same,over,tmC]
 exact hk _ ((o1.mono non_up).trans o2) x2
theorem mbook_tell {s b:Nat}{bv fv k v cv:Value}{Kk V:Nat→Value}{F:Nat→Nat}(w:Wf T h)(gg:Gd g)(x:MdX T h g p M bv fv Kk V F)(hs:s<M.n)(rb:rowOf bv=some b){B:Book}{l:List Chg}{seq:Int}
  (hb:BookR (fz T h) k v B) (hc:Sl 7 ChgR (fz T h) cv l) (hl:l.length<1000000) (fg:FdG (M.fd s)) {Q:Heap→Prop}
  (hk:∀ h3,Only (fun t=>t=g++[1]) T h T h3→(∃ fb,iaV (some (none,1)) fv (.int .i64 s)=some (.pointer (some ⟨fb,s,none⟩))∧cel h3 fb s=some (ptr (F s)))→h3 p=some (.cells (mdC M.c M.t bv fv).toArray qaqZ (0,0))→(∀ K':Value→Heap→Prop,(∀ T' h',Only (pre g) T h T' h'→MdR T' h' g p { M with bk:=bset M.bk s B,fd:=bset M.fd s ((M.fd s).tell l seq) }→K' (.tuple #[]) h')→callM P qaTZ #[ptr (F s),cv,.int .u64 seq] h3 K')→Q h3) :
  stM (some 2) (.pointer (some ⟨b,s*2,none⟩)) (.agg #[k,v]) h Q:=by
 refine x.stb w hs rb hb fun h3 o3 x3=>?_
 obtain⟨fb,i1,i2⟩:=x3.ldf (s:=s) hs
 refine hk h3 o3 ⟨fb,i1,i2⟩ x3.hp fun K' hk'=>?_
 have hf:=x3.fr s hs
 refine tell_ok l seq o3.wf (gg.app [3,s]) hf fg (hc.ext (R:=ChgR) (@ChgR.ext) (o3.ext (by simp))) hl fun T4 h4 o4 r4=>?_
 have x4:=x3.fed o4 gg (f:=(M.fd s).tell l seq) r4
 exact hk' T4 h4 ((o3.mono fun t=>eq_pre).up o4 fun t=>pre_trans) ⟨bv,fv,_,_,F,x4⟩
end
end Go.Proofs.YtcnphhhcknhhaaaGreat
namespace Go.Proofs.YtcnphhhcknhhaaaGreat
open Go Go.Den Go.MapKept
set_option linter.unusedSimpArgs false
set_option linter.unusedVariables false
set_option maxRecDepth 20000
theorem unSlBook:P.underlying qbRZ=some (.slice qaZ):=by kernel_rfl
theorem apBook:apC P qaZ=some (2,48,2):=by kernel_rfl
theorem bsFeedP:bsI P qbfZ=some (qeeZ,1,#[.pointer none]):=by kernel_rfl
theorem unSlFeedP:P.underlying qbfZ=some (.slice qeeZ):=by kernel_rfl
theorem apFeedP:apC P qeeZ=some (1,8,1):=by kernel_rfl
theorem bdModel (c:Cfg)(n m:Int)(b:Bool)(a:Option Addr)(i j:Nat):bdV (binf P qaqZ) [(0,.agg (cfgC c).toArray),(1,.agg #[.int .u64 n,.int .u64 m,.bool b]),(2,.slice a i j)] =
 some (.agg #[.int .i64 c.stripes,.int .i64 c.sessions,.int .i64 c.queue,.int .i64 c.watches,.int .i64 c.retries,.int .u64 c.epochs,.int .u64 c.start,.int .u64 n,.int .u64 m,.bool b,.slice a i j,.slice none 0 0]):=by kernel_rfl
theorem bdTime1 (n:Int):bdV (binf P qzZ) [(0,.int .u64 n)]=some (.agg #[.int .u64 n,.int .u64 0,.bool false]):=by kernel_rfl
theorem made_at (z:Array Value)(n i:Nat)(hi:i<n)(hz:0<z.size):(madeCells z n)[i]?=z[i % z.size]?:=by
 have:i % z.size<z.size:=Nat.mod_lt _ hz
 simp -implicitDefEqProofs[madeCells,hi,this]
theorem made_seq {e:TypeId}{h:Heap}{b n:Nat}(hn:n≤maxLen)(hb:h b=some (.cells (madeCells #[.slice none 0 0,.slice none 0 0] (n*2)) e (0,0))):Row 2 e h (.slice (some ⟨b,0,none⟩) n n) n (seqF n fun _=>[.slice none 0 0,.slice none 0 0]):=by
 have hsz:(madeCells #[Value.slice none 0 0,.slice none 0 0] (n*2)).size=n*2:=by simp[madeCells]
 refine⟨by rw[seqF_len (sz:=2) (fun _ _=>rfl)],.inr ⟨b,n,_,rfl,hb,Nat.le_refl _,hn,by simpa using hsz,?_⟩⟩
 rw[List.take_of_length_le (by simp[hsz])]
 have hl:(seqF n fun _=>[Value.slice none 0 0,.slice none 0 0]).length=n*2:=seqF_len (sz:=2) (fun _ _=>rfl)
 apply List.ext_getElem?
 intro i
 by_cases hi:i<n*2
 ·have h1:=seqF_get (F:=fun _=>[Value.slice none 0 0,.slice none 0 0]) (n:=n) (sz:=2) (fun _ _=>rfl) (i:=i / 2) (j:=i % 2) (by omega) (by omega)
  rw[show i / 2*2+i % 2=i by omega] at h1
  rw[h1,Array.getElem?_toList,made_at _ _ _ hi (by simp)]
  simp -implicitDefEqProofs
 ·rw[List.getElem?_eq_none (by simp[hsz]; omega),List.getElem?_eq_none (by omega)]
def MdNewI (T:Tags)(h:Heap)(g:Tag)(p:Nat)(c:Cfg)(n:Nat)(bv:Value)(v:Value)(h':Heap):Prop :=
 ∃ (T':Tags) (i:Nat) (fv:Value) (F:Nat→Nat),Only (pre g) T h T' h'∧h' p=some (.cells (mdC c ⟨c.start,0,false⟩ bv fv).toArray qaqZ (0,0))∧T' p=g++[0] ∧
  Rw T' h' (g++[1]) 2 qaZ bv n (seqF n fun _=>[.slice none 0 0,.slice none 0 0])∧Rw T' h' (g++[2]) 1 qeeZ fv i (seqF i fun k=>[ptr (F k)])∧(∀ k,k<i→FeedR T' h' (g++[3,k]) (F k) (feed0 c.queue))∧i≤n∧v = .int .i64 i
variable {K:KTy}
set_option maxHeartbeats 2000000 in
theorem mnew_ok (c : Cfg) (cw : CfgW c) {T : Tags} {h : Heap} (w : Wf T h) {g : Tag} (gg : Gd g)
    (hk1 : rightB c = true → ∀ T' h' p, Only (pre g) T h T' h' → MdR T' h' g p (tbl0 c c.stripes.toNat) → K (.tuple #[ptr p, .int .i64 0]) h')
    (hk2 : rightB c = false → ∀ h', Ext h h' → K (.tuple #[.pointer none, .int .i64 1]) h') : callM P qpJZ #[.agg (cfgC c).toArray] h K := by
  apply qviZ
  unfold qqJZ
  refine nw_agg fun v1 h1 n1 e1 c1 => ?_
  have og : ∀ h', h' v1 = some (.cells (cfgC c).toArray qJZ (0, 0)) → ldV (some (some 7)) (ptr v1) h' = some (.agg (cfgC c).toArray) := fun h' hc => by simp [ld_at hc, cfgC]
  have os : ∀ h', h' v1 = some (.cells (cfgC c).toArray qJZ (0, 0)) → cel h' v1 0 = some (.int .i64 c.stripes) ∧ cel h' v1 6 = some (.int .u64 c.start) ∧ cel h' v1 2 = some (.int .i64 c.queue) := fun h' hc => by simp [cel_of hc, cfgC]
  simp -implicitDefEqProofs only [og _ c1, ov_s]
  refine modRight_ok c fun h2 e2 => ?_
  have c1 := e2 _ _ c1
  have e0 := e1.trans e2
  unfold qswZ
  simp -implicitDefEqProofs only [unV_n, ov_s, cd_b]
  refine ⟨fun hr => hk2 (by simpa using hr) _ e0, fun hr => ?_⟩
  have hr : rightB c = true := by simpa using hr
  have hn : 1 ≤ c.stripes ∧ c.stripes ≤ 8 := by simp [rightB] at hr; omega
  obtain ⟨N, hN⟩ : ∃ N : Nat, c.stripes = N := ⟨c.stripes.toNat, by omega⟩
  have hNt : c.stripes.toNat = N := by omega
  unfold qsvZ
  simp -implicitDefEqProofs [og _ c1, os _ c1, bdTime1, hN]
  refine makeSlice_vv (n := N) unSlBook apBook zcMap (by omega) (by omega) (by unfold maxLen; omega) fun sb h3 n3 e3 c3 => ?_
  have c12 := c1
  have c1 := e3 _ _ c1
  have e0 := e0.trans e3
  have w2 := w.ext (e1.trans e2)
  have o3 : Only (pre g) T h2 (tset T sb (g ++ [1])) h3 := Only.enew _ w2 e3 n3 c3
  have t3 : (tset T sb (g ++ [1])) sb = g ++ [1] := tset_same _ _ _
  have o03 : Only (pre g) T h (tset T sb (g ++ [1])) h3 := ((Only.of_ext (U := non) w (e1.trans e2)).mono non_up).trans o3
  have b1 : h2 v1 = _ ∧ T v1 = [] := ⟨(show h2 v1 = some (.cells (cfgC c).toArray qJZ (0, 0)) from by
    exact c12), w v1 n1⟩
  have c1 := c1
  generalize tset T sb (g ++ [1]) = T3 at *
  unfold qsuZ
  simp -implicitDefEqProofs [og _ c1, os _ c1]
  rw [bdModel]
  simp -implicitDefEqProofs
  refine nw_tag o3.wf (g ++ [0]) fun p T4 h4 n4 o4 t4 c4 => ?_
  have b3 : h3 sb = _ ∧ T3 sb = g ++ [1] := ⟨c3, t3⟩
  have b3 := o4.see b3 (not_non _)
  have b1 : h3 v1 = _ ∧ T3 v1 = [] := ⟨c1, (o3.k.at c12 (w v1 n1) gg.nil).2⟩
  have b1 := o4.see b1 (not_non _)
  have c1 := b1.1
  rw [seqM_eq]
  unfold qstZ
  simp -implicitDefEqProofs [os _ c1, hN]
  have hbv : Rw T4 h4 (g ++ [1]) 2 qaZ (.slice (some ⟨sb, 0, none⟩) N N) N (seqF N fun _ => [.slice none 0 0, .slice none 0 0]) := ⟨made_seq (by unfold maxLen; omega) b3.1, fun b hb => by simp [rowOf] at hb; subst hb; exact b3.2⟩
  refine loop_on [1, 4, 18] (fun s h' => MdNewI T4 h4 g p c N (.slice (some ⟨sb, 0, none⟩) N N) (s 19) h') (fun s _ => (N - num (s 19)).toNat) ⟨T4, 0, .slice none 0 0, fun _ => 0, Only.refl o4.wf, by simpa [mdC] using c4, t4, hbv, Rw.nil _ _ _ _ _, fun k hk => by omega, by omega, rfl⟩ ?_
  rintro s h5 hf ⟨T5, i, fv, F, o5, cp, tp, rb, rf, fr, hi, s19⟩
  have s1 : s 1 = ptr v1 := by simpa using hf 1 (by simp)
  have s4 : s 4 = ptr p := by simpa using hf 4 (by simp)
  have s18 : s 18 = .int .i64 N := by simpa using hf 18 (by simp)
  have b1 := o5.see b1 gg.nil
  have c1 := b1.1
  unfold qssZ
  simp -implicitDefEqProofs only [s19, s18, bin_lss, ov_s, cd_b]
  refine ⟨fun hc => ?_, fun hc => ?_⟩
  rotate_left
  · have : i = N := by have : ¬ ((i : Int) < N) := by simpa using hc
                       omega
    subst this
    simp -implicitDefEqProofs [s4]
    refine hk1 hr T5 h5 p (((o03.trans (o4.mono non_up)).trans o5)) ⟨.slice (some ⟨sb, 0, none⟩) i i, fv, fun _ => .slice none 0 0, fun _ => .slice none 0 0, F, ?_⟩
    rw [hNt]
    exact ⟨cp, tp, rb, rf, fun s hs => BookR.nil _, fun s hs => fr s hs⟩
  have hlt : i < N := by have : ((i : Int) < N) := by simpa using hc
                         omega
  simp -implicitDefEqProofs only [mdC] at cp
  have bp : h5 p = _ ∧ T5 p = _ := ⟨cp, tp⟩
  unfold qsrZ
  simp -implicitDefEqProofs [s1, s4, ld_at cp, cel_of cp, stm_at cp, stm_upd, ld_same, cel_same, over, os _ c1]
  refine feedNew_ok _ o5.wf (gg.app [3, i]) fun T6 h6 fp o6 r6 => ?_
  have bp := o6.see bp (not_pre (by simp))
  have cp := bp.1
  unfold qsqZ
  simp -implicitDefEqProofs [ld_at cp, cel_of cp, stm_at cp, stm_upd, ld_same, cel_same, over]
  refine bs_one bsFeedP (by simp) (by omega) fun nb h7 n7 e7 c7 => ?_
  have o7 : Only non T6 h6 T6 h7 := Only.of_ext o6.wf e7
  have bp := o7.see bp (not_non _)
  have cp := bp.1
  have r7 := r6.kp o7.k (Off.non _) (not_non _)
  refine ⟨by simp [ld_at cp, cel_of cp, stm_at cp, stm_upd, ld_same, cel_same, over], ?_⟩
  have rf7 := (rf.kp o6.k (not_pre (by simp))).kp o7.k (not_non _)
  have rb7 := (rb.kp o6.k (not_pre (by simp))).kp o7.k (not_non _)
  refine Rw.app1 (m := 1) (news := _) unSlFeedP apFeedP (by omega) o7.wf rf7 (cels_one c7 (by simp)) (by simp) (by unfold maxLen; omega) (by omega) fun fv' T8 h8 o8 rf8 => ?_
  have bp := o8.see bp (ne_tag (by simp))
  have cp := bp.1
  have ho := rf8.one
  have hw : IntKind.i64.wrap ((i : Int) + 1) = i + 1 := wrap64_id (by omega) (by omega)
  simp -implicitDefEqProofs [ld_at cp, cel_of cp, stm_at cp, stm_upd, ld_same, cel_same, over, ho.1, ho.2, s18, s19, s1, s4, hw]
  refine ⟨?_, by omega⟩
  have o9 := fun o' => Only.upd (U := fun t => t = g ++ [0]) (o' := o') o8.wf bp.1 bp.2
  have f9 := (o9 (.cells (mdC c ⟨c.start, 0, false⟩ (.slice (some ⟨sb, 0, none⟩) N N) fv').toArray qaqZ (0, 0))).k
  have a8 : ∀ k, Off (fun t => t = g ++ [2]) (g ++ [3, k]) := fun k => off_eq (by simp)
  have a9 : ∀ k, Off (fun t => t = g ++ [0]) (g ++ [3, k]) := fun k => off_eq (by simp)
  refine ⟨T8, i + 1, fv', fun k => if k = i then fp else F k, (((o5.up o6 fun t => pre_trans).up o7 non_up).up o8 fun t e => e ▸ pre_app _ _).up (o9 _) fun t e => e ▸ pre_app _ _, upd_same' _ _ _, bp.2, (rb7.kp o8.k (ne_tag (by simp))).kp f9 (ne_tag (by simp)), ?_, fun k hk => ?_, by omega, by simp⟩
  · have := rf8.kp f9 (ne_tag (by simp))
    rw [seqF_succ]
    have e1 : seqF i (fun k => [ptr (if k = i then fp else F k)]) = seqF i fun k => [ptr (F k)] := seqF_congr fun k hk => by rw [if_neg (by omega)]
    have e2 : (fun k => if k = i then fp else F k) i = fp := if_pos rfl
    rw [e1, e2]
    simpa [mdC] using this
  · by_cases hki : k = i
    · subst hki
      simp -implicitDefEqProofs only [if_true]
      exact (r7.kp o8.k (a8 _) (by simp)).kp f9 (a9 _) (by simp)
    · simp -implicitDefEqProofs only [if_neg hki]
      exact ((((fr k (by omega)).kp o6.k (off_pre (by simp; omega) (by simp; omega)) ((gg.app _).nil)).kp o7.k (Off.non _) (not_non _)).kp o8.k (a8 _) (by simp)).kp f9 (a9 _) (by simp)
theorem tgRep86:tagg P 86=some (some 4):=by kernel_rfl
set_option maxHeartbeats 4000000 in
theorem mwrite_ok (o:OpD)(ow:OpW o){uv:Value}(ou:One uv){T:Tags}{h:Heap}{g:Tag}{p m:Nat}{M:Tbl}(w:Wf T h)(gg:Gd g)(x:MdR T h g p M)(hs:TS m M)(hm:m<100000)
  (hk:∀ T' h',Only (pre g) T h T' h'→MdR T' h' g p (M.write o).1→K (.agg (repC (M.write o).2.err).toArray) h'):callM P qgmZ #[ptr p,.agg (opC o uv).toArray] h K:=by
 have n8:1≤M.c.stripes∧M.c.stripes≤8:=by have:=hs.rt; simp[rightB] at this; omega
 have nn:=hs.nn
 apply qsMZ
 unfold qhNZ
 refine nw_agg fun v1 h0 n0 e0 c0=>?_
 have w0:=w.ext e0
 rw[zcRep]
 refine nw_tag w0 lc fun v3 T1 h1 n1 o1 t3 c3=>?_
 have o01:Only non T h T1 h1:=(Only.of_ext (U:=non) w e0).trans o1
 have b0:h0 v1=_∧T v1=[]:=⟨c0,w v1 n0⟩
 have b0:=o1.see b0 (not_non _)
 have b3:h1 v3=_∧T1 v3=lc:=⟨c3,t3⟩
 obtain⟨bv,fv,Kk,V,F,x1⟩:=x.up o01 (Off.non _) (not_non _)
 refine mtake_ok o1.wf gg x1 hs.ts fun h2 o2 x2=>?_
 have b0:=o2.see b0 (by simp)
 have b3:=o2.see b3 (lc_ne g gg [0])
 have oh:Only (pre g) T h T1 h2:=(o01.mono non_up).up o2 fun _=>eq_pre
 have cp:=x2.hp
 simp -implicitDefEqProofs only[mdC] at cp
 have c3':=b3.1
 have n3:h v3=none:=by
  cases hh:h v3 with
  | none=>rfl
  | some ob=>rw[e0 _ _ hh] at n1; cases n1
 unfold qkYZ
 cases htc:M.t.closed with
 | true =>
  have e:M.write o=(M.take,repE 5):=by simp[Tbl.write,htc]
  rw[e] at hk
  have htc':M.take.t.closed=true:=htc
  rw[htc'] at cp
  simp -implicitDefEqProofs[ld_at cp,cel_of cp,stm_at cp,stm_upd,ld_same,cel_same,over]
  unfold qkRZ
  rw[bdRepE]
  simp -implicitDefEqProofs[ld_at c3',cel_of c3',stm_at c3',stm_upd,ld_same,cel_same,over]
  have x3:MdR T1 (upd h2 v3 (.cells #[.int .i64 5,.slice none 0 0,.slice none 0 0,.bool false] qcZ (0,0))) g p M.take:=⟨bv,fv,Kk,V,F,x2.kp (Only.lst o2.wf b3).k gg.off (by simp)⟩
  exact hk T1 _ (oh.own n3 b3.1) x3
 | false =>
 obtain⟨s,hs'⟩:∃ s:Nat,M.stripe o.user=s:=⟨_,rfl⟩
 have hst:=stripeOf_lt (u:=o.user) (n:=M.c.stripes) n8.1
 have hsn:s<M.n:=by rw[← hs']; unfold Tbl.stripe; omega
 have hse:stripeOf o.user M.c.stripes=(s:Int):=by rw[← hs']; unfold Tbl.stripe; omega
 obtain⟨r,hr⟩:∃ r,writeB (M.bk s) o M.t.now M.c.sessions=r:=⟨_,rfl⟩
 have e:M.write o=({ M.take with bk:=bset M.bk s r.1,fd:=bset M.fd s ((M.fd s).tell r.2.1 M.take.t.seq) },repE r.2.2):=by
  simp -implicitDefEqProofs only[Tbl.write,htc,Bool.false_eq_true,if_false,hs',Tbl.writeAt,← hr]
  rfl
 rw[e] at hk
 have htc':M.take.t.closed=false:=htc
 rw[htc'] at cp
 simp -implicitDefEqProofs[ld_at cp,cel_of cp,stm_at cp,stm_upd,ld_same,cel_same,over]
 unfold qkXZ
 have c0':=b0.1
 have c0u:cel h2 v1 1=some (.string o.user):=by simp[cel_of c0',opC]
 simp -implicitDefEqProofs[c0u]
 refine mstripe_ok o.user ow.s1 ⟨bv,fv,Kk,V,F,x2⟩ n8.2 ?_
 rw[show M.take.c.stripes=M.c.stripes from rfl,hse]
 unfold qkWZ
 rw[seqM_eq]
 unfold qkVZ
 obtain⟨b,rb,ia,l1⟩:=x2.ldb (s:=s) hsn
 have hbr:=x2.br s hsn
 have hlen:r.2.1.length≤1:=by rw[← hr]; exact settle_chg _ _ _ _
 have bm:=hs.bk s hsn
 have fg:=(hs.fd s hsn).g hm
 have oa:ldV (some (some 7)) (ptr v1) h2=some (.agg (opC o uv).toArray):=by simp[ld_at c0',opC]
 have fin:∀ (h5:Heap) (s6:Env) (k v cv:Value) (vb:Nat),Ext h2 h5→BookR (fz T1 h5) k v r.1→Sl 7 ChgR (fz T1 h5) cv r.2.1→h5 vb=some (.cells #[k,v] qaZ (0,0))→s6 0=ptr p→s6 4=ptr v3→s6 5 = .int .u64 M.take.t.seq→s6 6 = .int .i64 s→s6 7=ptr vb→s6 8=cv→s6 9 = .int .i64 r.2.2→qgaZ s6 h5 K []:=by
  intro h5 s6 k v cv vb e5 hb hc cvb s0 s4 s5 s6' s7 s8 s9
  have o5:Only non T1 h2 T1 h5:=Only.of_ext o2.wf e5
  have x5:=x2.kp o5.k (Off.non _) (not_non _)
  have b35:=o5.see b3 (not_non _)
  have cp5:=x5.hp
  simp -implicitDefEqProofs only[mdC] at cp5
  unfold qgaZ
  simp -implicitDefEqProofs[s0,s7,s6',ld_at cp5,cel_of cp5,stm_at cp5,ld_at cvb,cel_of cvb,stm_at cvb,stm_upd,ld_same,cel_same,over,ia]
  refine mbook_tell (seq:=M.take.t.seq) o5.wf gg x5 hsn rb hb hc (by omega) fg fun h6 o6 ⟨fb,f1,f2⟩ cp6 hT=>?_
  have b36:=o6.see b35 (lc_ne g gg [1])
  simp -implicitDefEqProofs only[mdC] at cp6
  simp -implicitDefEqProofs[ld_at cp6,cel_of cp6,stm_at cp6,stm_upd,ld_same,cel_same,over,f1,f2,s0,s6',s8,s5]
  refine hT _ fun T7 h7 o7 x7=>?_
  have ne3:¬ pre g lc:=fun hh=>gg.off lc hh rfl
  have b37:=o7.see b35 ne3
  have c37:=b37.1
  unfold qjSZ
  simp -implicitDefEqProofs[s9,bdRepE,s4,ld_at c37,cel_of c37,stm_at c37,stm_upd,ld_same,cel_same,over,tgRep86]
  have o27:Only (pre g) T h T7 h7:=(oh.up o5 non_up).trans o7
  refine hk T7 _ (o27.own n3 b37.1) (x7.kp (Only.lst o7.wf b37).k gg.off (by simp))
 have ht0:M.take.t.now=M.t.now:=rfl
 have c0s:M.take.c.sessions=M.c.sessions:=rfl
 simp -implicitDefEqProofs[ld_at cp,cel_of cp,stm_at cp,stm_upd,ld_same,cel_same,over,ia,l1,oa,ht0,c0s]
 refine⟨?_,?_⟩
 ·unfold qkTZ
  refine bwrite_ok _ bm.bw o ow ou hs.tn M.c.sessions o2.wf hbr (by have:=bm.bl; omega) ?_ fun h5 k v cv e5 hb hc=>?_
  ·have:=bm.ent o.user
   show (entOf (M.bk s) o.user).ss.length<_
   omega
  have hb:BookR (fz T1 h5) k v r.1:=by rw[← hr]; exact hb
  have hc:Sl 7 ChgR (fz T1 h5) cv r.2.1:=by rw[← hr]; exact hc
  have hrr:(writeB (M.take.bk s) o M.t.now M.c.sessions).2.2=r.2.2:=by rw[← hr]; rfl
  unfold qkSZ
  have p1:=hb.1.one
  have p2:=hb.2.1.one
  simp -implicitDefEqProofs only[exV_0,exV_1,exV_2,ov_s,zcMap,hrr]
  refine nw_st (by simp) (by simp) (by simp[p1.1,p2.1]) fun vb h6 n6 e6 c6=>?_
  simp -implicitDefEqProofs only[cells_agg] at c6
  try simp only[thenM_n]
  refine fin h6 _ k v cv vb (e5.trans e6) (hb.ext (fz_of_ext e6)) (hc.ext (R:=ChgR) (@ChgR.ext) (fz_of_ext e6)) c6 ?_ ?_ ?_ ?_ ?_ ?_ ?_<;>simp[hr]
 ·unfold qkUZ
  rw[zcMap]
  refine nw_intro fun vb h5 n5 e5 c5=>?_
  have o5:Only non T1 h2 T1 h5:=Only.of_ext o2.wf e5
  have x5:=x2.kp o5.k (Off.non _) (not_non _)
  obtain⟨b',rb',ia',l1'⟩:=x5.ldb (s:=s) hsn
  have hbb:b'=b:=by rw[rb] at rb'; cases rb'; rfl
  subst hbb
  have c1:=e5 _ _ c0'
  have cp:=x5.hp
  simp -implicitDefEqProofs only[mdC] at cp
  have oa:ldV (some (some 7)) (ptr v1) h5=some (.agg (opC o uv).toArray):=by simp[ld_at c1,opC]
  refine⟨by simp[ld_at cp,cel_of cp,stm_at cp,stm_upd,ld_same,cel_same,over],l1',oa,by simp[ld_at cp,cel_of cp,stm_at cp,stm_upd,ld_same,cel_same,over,ht0],by simp[ld_at cp,cel_of cp,stm_at cp,stm_upd,ld_same,cel_same,over,c0s],?_⟩
  have wt:Wf (tset T1 vb lc) h5:=wf_loc o5.wf c5
  refine bwrite_ok _ bm.bw o ow ou hs.tn M.c.sessions wt (hbr.ext (fz_in n5 e5)) (by have:=bm.bl; omega) ?_ fun h6 k v cv e6 hb hc=>?_
  ·have:=bm.ent o.user
   show (entOf (M.bk s) o.user).ss.length<_
   omega
  have hb:BookR (fz (tset T1 vb lc) h6) k v r.1:=by rw[← hr]; exact hb
  have hc:Sl 7 ChgR (fz (tset T1 vb lc) h6) cv r.2.1:=by rw[← hr]; exact hc
  have hrr:(writeB (M.take.bk s) o M.t.now M.c.sessions).2.2=r.2.2:=by rw[← hr]; rfl
  have p1:=hb.1.one
  have p2:=hb.2.1.one
  have c6:=e6 _ _ c5
  try simp only[hrr]
  simp -implicitDefEqProofs[ld_at c6,cel_of c6,stm_at c6,stm_upd,ld_same,cel_same,over,p1.1,p2.1]
  try simp only[thenM_n]
  refine fin _ _ k v cv vb (ext_upd n5 (e5.trans e6)) (hb.ext fz_loc) (hc.ext (R:=ChgR) (@ChgR.ext) fz_loc) (upd_same' _ _ _) ?_ ?_ ?_ ?_ ?_ ?_ ?_<;>simp[hr]
end Go.Proofs.YtcnphhhcknhhaaaGreat
namespace Go.Proofs.YtcnphhhcknhhaaaGreat
open Go Go.Den Go.MapKept
set_option linter.unusedSimpArgs false
set_option linter.unusedVariables false
set_option maxRecDepth 20000
theorem evNe (p q:Evt){x y:Operand}{K:Value→Prop}:pvM P (do eqGuard .neq quZ x y (.agg (evC p).toArray) (.agg (evC q).toArray); binOp .neq quZ (.agg (evC p).toArray) (.agg (evC q).toArray)) K=K (.bool (!decide (p=q))):=by
 simp -implicitDefEqProofs only[evC,presC,List.cons_append,List.nil_append]
 rw[pv_neq (d:=5) (b:=(p.user.toList == q.user.toList) && (((p.old.st == q.old.st) && ((p.old.pr == q.old.pr) && ((p.old.lv == q.old.lv) && true))) && (((p.new.st == q.new.st) && ((p.new.pr == q.new.pr) && ((p.new.lv == q.new.lv) && true))) && ((p.seq == q.seq) && true)))) (by kernel_rfl) (by omega) (by kernel_rfl)]
 have:((p.user.toList == q.user.toList) && (((p.old.st == q.old.st) && ((p.old.pr == q.old.pr) && ((p.old.lv == q.old.lv) && true))) && (((p.new.st == q.new.st) && ((p.new.pr == q.new.pr) && ((p.new.lv == q.new.lv) && true))) && ((p.seq == q.seq) && true))))=decide (p=q):=by
  rw[str_beq,Bool.eq_iff_iff]
  obtain⟨u,⟨a,b,c⟩,⟨d,e,f⟩,s⟩:=p
  obtain⟨u',⟨a',b',c'⟩,⟨d',e',f'⟩,s'⟩:=q
  simp -implicitDefEqProofs[and_assoc]
 rw[this]
theorem ev_ld {F:Heap}{v:Value}{l:List Evt}(x:Sl 8 EvR F v l){i:Nat}(hi:i<l.length){k:IntKind}:∃ b p,iaV (some (none,8)) v (.int k i)=some (.pointer (some ⟨b,p,none⟩))∧∀ h',Ext F h'→cels h' b p 8=some (evC l[i]):=by
 obtain⟨b,p,c,h1,h2,h3⟩:=x.at (k:=k) (i:=i) (by omega) (by omega)
 refine⟨b,p,h1,fun h' e=>?_⟩
 have hc:c=evC l[i]:=h3
 subst hc
 exact cels_ext e h2
theorem pres_ld {F:Heap}{v:Value}{l:List Pres}(x:Sl 3 PresR F v l){i:Nat}(hi:i<l.length){k:IntKind}:∃ b p,iaV (some (none,3)) v (.int k i)=some (.pointer (some ⟨b,p,none⟩))∧∀ h',Ext F h'→cels h' b p 3=some (presC l[i]):=by
 obtain⟨b,p,c,h1,h2,h3⟩:=x.at (k:=k) (i:=i) (by omega) (by omega)
 refine⟨b,p,h1,fun h' e=>?_⟩
 have hc:c=presC l[i]:=h3
 subst hc
 exact cels_ext e h2
variable {K:KTy}
set_option maxHeartbeats 1000000 in
theorem evSame_ok (xs ys : List Evt) {h : Heap} {v u : Value} (x : Sl 8 EvR h v xs) (y : Sl 8 EvR h u ys) (hl : xs.length < 1000000) (hk : K (.bool (decide (xs = ys))) h) : callM P qglZ #[v, u] h K := by
  apply qsKZ
  unfold qhLZ
  have lx := x.len
  have ly := y.len
  by_cases hlen : xs.length = ys.length
  rotate_left
  · have hne : xs ≠ ys := fun e => hlen (by rw [e])
    have hi : ¬ (xs.length : Int) = ys.length := by omega
    simp -implicitDefEqProofs [lx, ly, hi]
    rw [decide_eq_false hne] at hk; exact hk
  · have hi : (xs.length : Int) = ys.length := by omega
    simp -implicitDefEqProofs [lx, ly, hi]
    unfold qkQZ
    rw [seqM_eq]
    unfold qkPZ
    refine loop_on [0, 1, 4] (fun s h' => h' = h ∧ ∃ i : Nat, i ≤ xs.length ∧ s 5 = .int .i64 i ∧ xs.take i = ys.take i) (fun s _ => (xs.length - num (s 5)).toNat) ⟨rfl, 0, by omega, rfl, by simp⟩ ?_
    rintro s h1 hf ⟨rfl, i, hi, s5, hT⟩
    have s0 : s 0 = v := by simpa using hf 0 (by simp)
    have s1 : s 1 = u := by simpa using hf 1 (by simp)
    have s4 : s 4 = .bool false := by simpa using hf 4 (by simp)
    unfold qkOZ
    simp -implicitDefEqProofs only [s5, s0, lx, bin_lss, ov_s, cd_b]
    refine ⟨fun hc => ?_, fun hc => ?_⟩
    · have hlt : i < xs.length := by have : ((i : Int) < xs.length) := by simpa using hc
                                     omega
      have hly : i < ys.length := by omega
      have hw : IntKind.i64.wrap ((i : Int) + 1) = (i + 1 : Nat) := by rw [wrap64_id (by omega) (by omega)]; omega
      obtain ⟨b, p, i1, i2⟩ := ev_ld x (k := .i64) hlt
      obtain ⟨b', p', j1, j2⟩ := ev_ld y (k := .i64) hly
      unfold qkNZ
      simp -implicitDefEqProofs only [s0, s1, s5, i1, j1, ov_s, ldV_n (i2 _ (Ext.refl _)), ldV_n (j2 _ (Ext.refl _)), evNe, cd_b]
      refine ⟨fun hd => ?_, fun hd => ?_⟩
      · have hne : xs[i] ≠ ys[i] := by simpa using hd
        have hne' : xs ≠ ys := fun e => hne (by subst e; rfl)
        unfold qkLZ
        simp -implicitDefEqProofs [s4]
        rw [decide_eq_false hne'] at hk; exact hk
      · have he : xs[i] = ys[i] := by simpa using hd
        unfold qkMZ
        simp -implicitDefEqProofs [s0, s1, s4, s5, hw, -Int.natCast_add]
        exact ⟨⟨i + 1, by omega, rfl, take_eq_succ hT hlt hly he⟩, by omega⟩
    · have : i = xs.length := by have : ¬ ((i : Int) < xs.length) := by simpa using hc
                                 omega
      subst this
      have he : xs = ys := by
        rw [List.take_of_length_le (Nat.le_refl _), List.take_of_length_le (by omega)] at hT; exact hT
      simp -implicitDefEqProofs
      rw [decide_eq_true he] at hk; exact hk
deriving instance DecidableEq for Reply
def rplC (r:Reply)(vv ev:Value):List Value:=[.int .i64 r.err,vv,ev,.bool r.lost]
structure RpX (h:Heap)(r:Reply)(vv ev:Value):Prop where
 v:Sl 3 PresR h vv r.vals
 e:Sl 8 EvR h ev r.evs
theorem RpX.ext {h h':Heap}{r:Reply}{vv ev:Value}(x:RpX h r vv ev)(e:Ext h h'):RpX h' r vv ev:=⟨x.v.ext (@PresR.ext) e,x.e.ext (@EvR.ext) e⟩
theorem RpX.no (h:Heap){r:Reply}(h1:r.vals=[])(h2:r.evs=[]):RpX h r (.slice none 0 0) (.slice none 0 0):=⟨.inl ⟨h1,_,_,rfl⟩,.inl ⟨h2,_,_,rfl⟩⟩
theorem rep_eq (a b:Reply):a=b↔a.err=b.err∧a.lost=b.lost∧a.vals=b.vals∧a.evs=b.evs:=by
 cases a; cases b; simp only[Reply.mk.injEq]; constructor<;>(rintro⟨h1,h2,h3,h4⟩; exact⟨h1,by assumption,by assumption,by assumption⟩)
set_option maxHeartbeats 4000000 in
theorem repSame_ok (a b:Reply){h:Heap}{va ea vb eb:Value}(x:RpX h a va ea)(y:RpX h b vb eb)(h1:a.vals.length<1000000)(h2:a.evs.length<1000000)(hk:∀ h',Ext h h'→K (.bool (decide (a=b))) h'):callM P qghZ #[.agg (rplC a va ea).toArray,.agg (rplC b vb eb).toArray] h K:=by
 apply qsGZ
 unfold qhyZ
 refine nw_agg fun v1 g1 n1 e1 c1=>?_
 refine nw_agg fun v3 g3 n3 e3 c3=>?_
 have c1:=e3 _ _ c1
 have e0:=e1.trans e3
 have lx:=x.v.len
 have ly:=y.v.len
 have lex:=x.e.len
 have ley:=y.e.len
 have c1:g3 v1=some (.cells #[.int .i64 a.err,va,ea,.bool a.lost] qcZ (0,0)):=c1
 have c3:g3 v3=some (.cells #[.int .i64 b.err,vb,eb,.bool b.lost] qcZ (0,0)):=c3
 have ne:a≠b↔¬ (a.err=b.err∧a.lost=b.lost∧a.vals=b.vals∧a.evs=b.evs):=not_congr (rep_eq a b)
 by_cases q1:a.err=b.err
 rotate_left
 ·have:a≠b:=ne.2 fun hh=>q1 hh.1
  simp -implicitDefEqProofs[ld_at c1,cel_of c1,stm_at c1,ld_at c3,cel_of c3,stm_at c3,stm_upd,ld_same,cel_same,over,q1]
  exact kb (hk _ e0) (by simp[this])
 by_cases q2:a.lost=b.lost
 rotate_left
 ·have:a≠b:=ne.2 fun hh=>q2 hh.2.1
  have hbq:(a.lost == b.lost)=false:=by simpa using q2
  simp -implicitDefEqProofs[ld_at c1,cel_of c1,stm_at c1,ld_at c3,cel_of c3,stm_at c3,stm_upd,ld_same,cel_same,over,q1,hbq]
  exact kb (hk _ e0) (by simp[this])
 by_cases q3:a.vals.length=b.vals.length
 rotate_left
 ·have:a≠b:=ne.2 fun hh=>q3 (by rw[hh.2.2.1])
  have q3':¬ (a.vals.length:Int)=b.vals.length:=by omega
  simp -implicitDefEqProofs[ld_at c1,cel_of c1,stm_at c1,ld_at c3,cel_of c3,stm_at c3,stm_upd,ld_same,cel_same,over,q1,q2,lx,ly,q3']
  exact kb (hk _ e0) (by simp[this])
 simp -implicitDefEqProofs[ld_at c1,cel_of c1,stm_at c1,ld_at c3,cel_of c3,stm_at c3,stm_upd,ld_same,cel_same,over,q1,q2,lx,ly,q3]
 refine evSame_ok a.evs b.evs (x.e.ext (@EvR.ext) e0) (y.e.ext (@EvR.ext) e0) h2 ?_
 by_cases q4:a.evs=b.evs
 rotate_left
 ·have:a≠b:=ne.2 fun hh=>q4 hh.2.2.2
  simp -implicitDefEqProofs[q4]
  exact kb (hk _ e0) (by simp[this])
 simp -implicitDefEqProofs[q4]
 unfold qkxZ
 rw[seqM_eq]
 unfold qkwZ
 have hab:a=b↔a.vals=b.vals:=⟨fun e=>by rw[e],fun e=>(rep_eq a b).2 ⟨q1,q2,e,q4⟩⟩
 refine loop_on [2,3,4] (fun s h'=>h'=g3∧∃ i:Nat,i≤a.vals.length∧s 5 = .int .i64 i∧a.vals.take i=b.vals.take i) (fun s _=>(a.vals.length-num (s 5)).toNat) ⟨rfl,0,by omega,rfl,by simp⟩ ?_
 rintro s h3 hf ⟨rfl,i,hi,s5,hT⟩
 have s2:s 2=ptr v1:=by simpa using hf 2 (by simp)
 have s3:s 3=ptr v3:=by simpa using hf 3 (by simp)
 have s4:s 4 = .bool false:=by simpa using hf 4 (by simp)
 unfold qkvZ
 by_cases hlt:i<a.vals.length
 ·have hlt':(i:Int)<a.vals.length:=by omega
  have hly:i<b.vals.length:=by omega
  have hw:IntKind.i64.wrap ((i:Int)+1)=(i+1:Nat):=by rw[wrap64_id (by omega) (by omega)]; omega
  obtain⟨p1,p2,i1,i2⟩:=pres_ld x.v (k:=.i64) hlt
  obtain⟨p1',p2',j1,j2⟩:=pres_ld y.v (k:=.i64) hly
  simp -implicitDefEqProofs[s2,s5,ld_at c1,cel_of c1,stm_at c1,stm_upd,ld_same,cel_same,over,lx,hlt']
  unfold qkuZ
  simp -implicitDefEqProofs[s2,s3,s5,ld_at c1,cel_of c1,stm_at c1,ld_at c3,cel_of c3,stm_at c3,stm_upd,ld_same,cel_same,over,i1,j1,ldV_n (i2 _ e0),ldV_n (j2 _ e0)]
  simp -implicitDefEqProofs only[presC,presNe]
  by_cases he:a.vals[i]=b.vals[i]
  ·simp -implicitDefEqProofs[he]
   unfold qktZ
   simp -implicitDefEqProofs[s2,s3,s4,s5,hw,-Int.natCast_add]
   exact⟨⟨i+1,by omega,rfl,take_eq_succ hT hlt hly he⟩,by omega⟩
  ·have:a≠b:=fun e=>he (by simp only[e])
   simp -implicitDefEqProofs[he]
   unfold qksZ
   simp -implicitDefEqProofs[s4]
   exact kb (hk _ e0) (by simp[this])
 ·have:i=a.vals.length:=by omega
  subst this
  have he:a.vals=b.vals:=by
   rw[List.take_of_length_le (Nat.le_refl _),List.take_of_length_le (by omega)] at hT; exact hT
  simp -implicitDefEqProofs[s2,s5,ld_at c1,cel_of c1,stm_at c1,stm_upd,ld_same,cel_same,over,lx]
  exact kb (hk _ e0) (by simp[hab.2 he])
end Go.Proofs.YtcnphhhcknhhaaaGreat
namespace Go.Proofs.YtcnphhhcknhhaaaGreat
open Go Go.Den Go.MapKept
set_option linter.unusedSimpArgs false
set_option linter.unusedVariables false
set_option maxRecDepth 20000
theorem g4:Gd [4]:=⟨3,[],rfl⟩
theorem dUW4:Off UW [4]:=fun t ht hh=>hh.elim (off_pre (g:=[]) (x:=[1]) (y:=[4]) (by simp) (by simp) t ht) (off_pre (g:=[]) (x:=[2]) (y:=[4]) (by simp) (by simp) t ht)
theorem d4UW:∀ t,UW t→¬ pre [4] t:=fun t ht h=>dUW4 t h ht
def U5 (t:Tag):Prop:=UW t∨pre [4] t
theorem U5.nil:¬ U5 []:=by rintro (h | h); exact UW.nil h; simp[pre] at h
end Go.Proofs.YtcnphhhcknhhaaaGreat
namespace Go.Proofs.YtcnphhhcknhhaaaGreat
open Go Go.Den Go.MapKept
set_option linter.unusedSimpArgs false
set_option linter.unusedVariables false
set_option maxRecDepth 20000
theorem u8At {F:Heap}{v:Value}{bs:List Int}(x:Sl 1 (IntR .u8) F v bs){i:Nat}(hi:i<bs.length):∃ b p,iaV (some (none,1)) v (.int .i64 i)=some (.pointer (some ⟨b,p,none⟩))∧(∀ h',Ext F h'→cel h' b p=some (.int .u8 bs[i]))∧0≤bs[i]∧bs[i]≤255:=by
 obtain⟨b,o,c,i1,i2,i3,i4⟩:=x.at (k:=.i64) (i:=i) (by omega) (by omega)
 simp -implicitDefEqProofs only[Int.toNat_natCast] at i3 i4
 subst i3
 have hw:=wf_u8 i4
 refine⟨b,o,i1,fun h' e=>?_,hw.1,hw.2⟩
 have:=(cels_get (cels_ext e i2)).2 0 (by simp)
 simpa using this
end Go.Proofs.YtcnphhhcknhhaaaGreat
namespace Go.Proofs.YtcnphhhcknhhaaaGreat
open Go Go.Den Go.MapKept
set_option linter.unusedSimpArgs false
set_option linter.unusedVariables false
set_option maxRecDepth 20000
theorem rdOp_w {x:OpD}(w:OpW x):OpW (rdOp x):=⟨(by show I64 (4+x.kind % 2); unfold I64; omega),w.i2,w.i3,w.i4,w.u1,w.s1⟩
theorem rdOp_k (x:OpD):(rdOp x).kind=4∨(rdOp x).kind=5:=by
 show 4+x.kind % 2=4∨4+x.kind % 2=5
 omega
theorem rp0_pa2 {i:Nat}{H:Hall}{o:OpD}{k:Nat}(hs:HS k H)(hk:k<100000)(hi:i≤900)(hx:o.kind=4∨o.kind=5):PA H.n i H.c (.r (rp0 H i o)):=by
 have n8:=hs.n8
 have nn:=hs.nn
 have hr:=hs.rt
 simp -implicitDefEqProofs only[rightB,decide_eq_true_eq] at hr
 exact⟨RK.rp0 (hs.g hk) (by omega) (by omega) (by omega) i (by omega) o fun hb=>(usersOf_bad hb hx).2,rfl,stripesOf_nodup _ _⟩
variable {K:KTy}
theorem wdnew_r {T:Tags}{h:Heap}{hp k i:Nat}{A:Nat→Nat}{W:Wd}{M:Tbl}(hkk:k<100000)(hi:i≤900)(o:OpD)(ow:OpW o)(hx:o.kind=4∨o.kind=5)(hl:o.users.length<1000000){v:Value}(hv:Sl 1 StrR (fz T h) v o.users)(w:Wf T h)(x:WdM T h hp A W)(y:WdK k W M)(hi':∀ q,W.ps i=some q→Idle q (W.ms i) W.H.c)
  (hK:∀ T' h' q,Only (pre [2,i]) T h T' h'→WdM T' h' hp (bset A i q) { W with ps:=bset W.ps i (some (.r (rp0 W.H i o))) }→WdK k { W with ps:=bset W.ps i (some (.r (rp0 W.H i o))) } M→K (ptr q) h'):callM P qhpZ #[ptr hp,.int .i64 i,.agg (opC o v).toArray] h K:=by
 have n8:=y.hs.n8
 have nn:=y.hs.nn
 refine rnew_ok i o ow w (g2i i) g1 (d2i1 i) x.hl hv hl (by omega) fun T' h' q o' x'=>?_
 refine hK T' h' q o' ⟨x.hl.up o' (d2i1 i) (by simp[pre]),fun j p hj=>?_⟩ ⟨y.li.start (rp0_pa2 y.hs hkk hi hx) (Idle.r _ _ rfl) hi',y.hs,y.ts⟩
 have hj:bset W.ps i (some (.r (rp0 W.H i o))) j=some p:=hj
 by_cases hji:j=i
 ·subst hji
  rw[bset_same] at hj ⊢
  simp -implicitDefEqProofs only[Option.some.injEq] at hj; subst hj
  exact x'
 ·rw[bset_ne hji] at hj ⊢
  exact (x.ps j p hj).kp o'.k (d2ij (Ne.symm hji)) (by simp[pre])
section
variable {T5:Tags}{h5:Heap}{hp rp n did st:Nat}{ss:List Nat}{av:Value}{W:Wd}{M:Tbl}{A:Nat→Nat}{p:RP}{q:WP}{T':Tags}{h':Heap}
end
end Go.Proofs.YtcnphhhcknhhaaaGreat
namespace Go.Proofs.YtcnphhhcknhhaaaGreat
open Go Go.Den Go.MapKept
set_option linter.unusedSimpArgs false
set_option linter.unusedVariables false
set_option maxRecDepth 20000
theorem u32_id {a:Int}(h0:0≤a)(h1:a<4294967296):IntKind.u32.wrap a=a:=by
 unfold IntKind.wrap
 simp -implicitDefEqProofs[IntKind.bits,IntKind.signed]
 omega
theorem pow8 {w:Nat}(hw:w<8):(2:Int) ^ w≤128∧0<(2:Int) ^ w:=by
 have:w=0∨w=1∨w=2∨w=3∨w=4∨w=5∨w=6∨w=7:=by omega
 rcases this with rfl | rfl | rfl | rfl | rfl | rfl | rfl | rfl<;>decide
theorem b_shl {w:Nat}(hw:w<8):binV .shl 2 true (.int .u32 1) (.int .i64 w)=some (.int .u32 (2 ^ w)):=by
 have h:=pow8 hw
 have h0:¬ (w:Int)<0:=by omega
 have hm:min w 32=w:=by omega
 simp -implicitDefEqProofs only[binV,intV,if_neg h0,Int.toNat_natCast,IntKind.bits,hm,Int.one_mul]
 rw[u32_id (by omega) (by omega)]
theorem b_or {m:Int}{w:Nat}(hw:w<8):binV .or 2 false (.int .u32 m) (.int .u32 (2 ^ w))=some (.int .u32 (mor m w)):=by
 have:=mor_rng m w
 simp -implicitDefEqProofs only[binV,intV,if_true,bitV,IntKind.bits]
 show some (Value.int .u32 (IntKind.u32.wrap ((BitVec.ofInt 32 m ||| BitVec.ofInt 32 (2 ^ w)).toNat:Int)))=_
 have e:((BitVec.ofInt 32 m ||| BitVec.ofInt 32 (2 ^ w)).toNat:Int)=mor m w:=by simp[mor]
 rw[e,u32_id this.1 this.2]
theorem b_clr {m:Int}{w:Nat}(hw:w<8):binV .andNot 2 false (.int .u32 m) (.int .u32 (2 ^ w))=some (.int .u32 (mclr m w)):=by
 have:=mclr_rng m w
 simp -implicitDefEqProofs only[binV,intV,if_true,bitV,IntKind.bits]
 show some (Value.int .u32 (IntKind.u32.wrap ((BitVec.ofInt 32 m &&& ~~~BitVec.ofInt 32 (2 ^ w)).toNat:Int)))=_
 have e:((BitVec.ofInt 32 m &&& ~~~BitVec.ofInt 32 (2 ^ w)).toNat:Int)=mclr m w:=by simp[mclr]
 rw[e,u32_id this.1 this.2]
theorem FeedX.stw {T:Tags}{h:Heap}{g:Tag}{p:Nat}{f:Feed}{kw vw k v:Value}{q:Nat→Nat}(x:FeedX T h g p f kw vw q)(w:Wf T h)(gg:Gd g){ws:List (ByteArray × Int)}(y:WsR (fz T h) k v ws){c:Array Value}(hc:c=(feedC k v fun j=>ptr (q j)).toArray) :
  Only (fun t=>t=g++[0]) T h T (upd h p (.cells c qamZ (0,0)))∧FeedX T (upd h p (.cells c qamZ (0,0))) g p { f with ws:=ws } k v q:=by
 have o:Only (fun t=>t=g++[0]) T h T (upd h p (.cells c qamZ (0,0))):=Only.upd w x.hp x.tp
 have e:=o.ext (by simp)
 exact⟨o,by rw[upd_same',hc],x.tp,y.1.ext (@StrR.ext) e,y.2.1.ext (@MaskR.ext) e,fun j hj=>(x.xq j hj).kp o.k (off_eq (by simp)),y.2.2.1,y.2.2.2⟩
variable {K:KTy}
theorem fwatch_ok (who:Int)(u:ByteArray)(hu:u.size≤maxLen){T:Tags}{h:Heap}{g:Tag}{p:Nat}{f:Feed}(w:Wf T h)(gg:Gd g)(x:FeedR T h g p f)(fg:FdG f)(hl:f.ws.length<999999)
  (hk:∀ T' h',Only (pre g) T h T' h'→FeedR T' h' g p (f.watch who u)→K (.tuple #[]) h'):callM P qimZ #[ptr p,.int .i64 who,.string u] h K:=by
 apply quaZ
 unfold qjlZ
 refine client_ok who ?_
 unfold qnRZ
 cases hc:clientB who with
 | false =>
  simp -implicitDefEqProofs
  have e:f.watch who u=f:=by simp[Feed.watch,hc]
  rw[e] at hk
  exact hk T h (Only.refl w) x
 | true =>
 have e:f.watch who u={ f with ws:=putB f.ws u (mor (valL 0 f.ws u) who) }:=by simp[Feed.watch,hc]
 rw[e] at hk
 obtain⟨n,rfl⟩:∃ n:Nat,who=n:=⟨who.toNat,by simp[clientB] at hc; omega⟩
 have hn:n<8:=by simp[clientB] at hc; omega
 simp -implicitDefEqProofs
 unfold qnQZ
 obtain⟨kw,vw,q,x⟩:∃ kw vw q,FeedX T h g p f kw vw q:=by
  obtain⟨kw,vw,q,a1,a2,a3,a4,a5,a6,a7⟩:=x
  exact⟨kw,vw,q,a1,a2,a3,a4,a5,a6,a7⟩
 have cp:=x.hp
 have hws:WsR (fz T h) kw vw f.ws:=⟨x.x1,x.x2,x.s1,x.s2⟩
 have ldw:∀ h',h' p=some (.cells (feedC kw vw fun j=>ptr (q j)).toArray qamZ (0,0))→ldV (some (some 2)) (.pointer (some ⟨p,0,none⟩)) h'=some (.agg #[kw,vw]):=fun h' c=>by simp[ld_at c,feedC,feedG,List.range_succ]
 simp -implicitDefEqProofs[ldw _ cp]
 refine mget_ok f.ws fg.so u (fz_ext T h) hws (by omega) fun h1 e1=>?_
 have o1:Only non T h T h1:=Only.of_ext w e1
 have x1:=x.kp o1.k (Off.non _) (not_non _)
 unfold qnPZ
 simp -implicitDefEqProofs[ldw _ x1.hp,b_shl hn,b_or hn]
 refine mwith_ok f.ws fg.so u hu _ o1.wf ⟨x1.x1,x1.x2,x1.s1,x1.s2⟩ (by omega) fun h2 k v e2 y2=>?_
 have o2:Only non T h1 T h2:=Only.of_ext o1.wf e2
 have x2:=x1.kp o2.k (Off.non _) (not_non _)
 have cp2:=x2.hp
 have p1:=y2.1.one
 have p2:=y2.2.1.one
 obtain⟨o3,x3⟩:=x2.stw o2.wf gg y2 (c:=(feedC k v fun j=>ptr (q j)).toArray) rfl
 simp -implicitDefEqProofs only[feedC,feedG,List.range_succ] at cp2 o3 x3
 simp at cp2 o3 x3
 simp -implicitDefEqProofs[ld_at cp2,cel_of cp2,stm_at cp2,stm_upd,ld_same,cel_same,over,p1.1,p1.2,p2.1,p2.2]
 exact hk T _ (((o1.trans o2).mono fun _=>non_up _).up o3 fun t=>eq_pre) x3.r
theorem funwatch_ok (who:Int)(u:ByteArray)(hu:u.size≤maxLen){T:Tags}{h:Heap}{g:Tag}{p:Nat}{f:Feed}(w:Wf T h)(gg:Gd g)(x:FeedR T h g p f)(fg:FdG f)(hl:f.ws.length<999999)
  (hk:∀ T' h',Only (pre g) T h T' h'→FeedR T' h' g p (f.unwatch who u)→K (.tuple #[]) h'):callM P qgoZ #[ptr p,.int .i64 who,.string u] h K:=by
 apply qsOZ
 unfold qhPZ
 obtain⟨kw,vw,q,x⟩:∃ kw vw q,FeedX T h g p f kw vw q:=by
  obtain⟨kw,vw,q,a1,a2,a3,a4,a5,a6,a7⟩:=x
  exact⟨kw,vw,q,a1,a2,a3,a4,a5,a6,a7⟩
 have cp:=x.hp
 have hws:WsR (fz T h) kw vw f.ws:=⟨x.x1,x.x2,x.s1,x.s2⟩
 have ldw:∀ h',h' p=some (.cells (feedC kw vw fun j=>ptr (q j)).toArray qamZ (0,0))→ldV (some (some 2)) (.pointer (some ⟨p,0,none⟩)) h'=some (.agg #[kw,vw]):=fun h' c=>by simp[ld_at c,feedC,feedG,List.range_succ]
 simp -implicitDefEqProofs[ldw _ cp]
 refine mget_ok f.ws fg.so u (fz_ext T h) hws (by omega) fun h1 e1=>?_
 have o1:Only non T h T h1:=Only.of_ext w e1
 have x1:=x.kp o1.k (Off.non _) (not_non _)
 have p1':Only (pre g) T h T h1:=o1.mono fun _=>non_up _
 unfold qllZ
 simp -implicitDefEqProofs
 refine client_ok who ?_
 unfold qlkZ
 cases hc:clientB who with
 | false =>
  have e:f.unwatch who u=f:=by simp[Feed.unwatch,hc]
  rw[e] at hk
  simp -implicitDefEqProofs
  exact hk T h1 p1' x1.r
 | true =>
 obtain⟨n,rfl⟩:∃ n:Nat,who=n:=⟨who.toNat,by simp[clientB] at hc; omega⟩
 have hn:n<8:=by simp[clientB] at hc; omega
 by_cases hm:valL 0 f.ws u=0
 ·have e:f.unwatch n u=f:=by simp[Feed.unwatch,hm]
  rw[e] at hk
  simp -implicitDefEqProofs[hm]
  exact hk T h1 p1' x1.r
 simp -implicitDefEqProofs[hm]
 unfold qljZ
 simp -implicitDefEqProofs[b_shl hn,b_clr hn]
 by_cases hz:mclr (valL 0 f.ws u) n=0
 ·have e:f.unwatch n u={ f with ws:=delB f.ws u }:=by simp[Feed.unwatch,hc,hm,hz]
  rw[e] at hk
  simp -implicitDefEqProofs[hz]
  unfold qlhZ
  simp -implicitDefEqProofs[ldw _ x1.hp]
  refine mwithout_ok f.ws fg.so u o1.wf ⟨x1.x1,x1.x2,x1.s1,x1.s2⟩ (by omega) fun h2 k v e2 y2=>?_
  have o2:Only non T h1 T h2:=Only.of_ext o1.wf e2
  have x2:=x1.kp o2.k (Off.non _) (not_non _)
  have cp2:=x2.hp
  have p1:=y2.1.one
  have p2:=y2.2.1.one
  obtain⟨o3,x3⟩:=x2.stw o2.wf gg y2 (c:=(feedC k v fun j=>ptr (q j)).toArray) rfl
  simp -implicitDefEqProofs only[feedC,feedG,List.range_succ] at cp2 o3 x3
  simp at cp2 o3 x3
  simp -implicitDefEqProofs[ld_at cp2,cel_of cp2,stm_at cp2,stm_upd,ld_same,cel_same,over,p1.1,p1.2,p2.1,p2.2]
  exact hk T _ (((o1.trans o2).mono fun _=>non_up _).up o3 fun t=>eq_pre) x3.r
 ·have e:f.unwatch n u={ f with ws:=putB f.ws u (mclr (valL 0 f.ws u) n) }:=by simp[Feed.unwatch,hc,hm,hz]
  rw[e] at hk
  simp -implicitDefEqProofs[hz]
  unfold qliZ
  simp -implicitDefEqProofs[ldw _ x1.hp]
  refine mwith_ok f.ws fg.so u hu _ o1.wf ⟨x1.x1,x1.x2,x1.s1,x1.s2⟩ (by omega) fun h2 k v e2 y2=>?_
  have o2:Only non T h1 T h2:=Only.of_ext o1.wf e2
  have x2:=x1.kp o2.k (Off.non _) (not_non _)
  have cp2:=x2.hp
  have p1:=y2.1.one
  have p2:=y2.2.1.one
  obtain⟨o3,x3⟩:=x2.stw o2.wf gg y2 (c:=(feedC k v fun j=>ptr (q j)).toArray) rfl
  simp -implicitDefEqProofs only[feedC,feedG,List.range_succ] at cp2 o3 x3
  simp at cp2 o3 x3
  simp -implicitDefEqProofs[ld_at cp2,cel_of cp2,stm_at cp2,stm_upd,ld_same,cel_same,over,p1.1,p1.2,p2.1,p2.2]
  exact hk T _ (((o1.trans o2).mono fun _=>non_up _).up o3 fun t=>eq_pre) x3.r
end Go.Proofs.YtcnphhhcknhhaaaGreat
namespace Go.Proofs.YtcnphhhcknhhaaaGreat
open Go Go.Den Go.MapKept
set_option linter.unusedSimpArgs false
set_option linter.unusedVariables false
set_option maxRecDepth 20000
def evX (l:List Evt):List (Array Value):=l.map fun e=>#[.agg (evC e).toArray]
theorem zcEv:zc P quZ=some #[.string ⟨#[]⟩,.int .i64 0,.int .i64 0,.int .i64 0,.int .i64 0,.int .i64 0,.int .i64 0,.int .u64 0]:=by kernel_rfl
theorem rall_it (r : Ring) {hA : Heap} {b p : Nat} {lv : Value} (cb : hA b = some (.cells #[ptr p] qUZ (0, 0))) (cp : hA p = some (.cells (ringC r lv).toArray qAZ (0, 0))) (x : Sl 8 EvR hA lv r.l) (hl : r.l.length < 1000000) :
    It P qcmZ #[ptr b] (evX r.l) hA := by
  intro yv I S h K hx hs h0 hround hK1 hK2
  apply qorZ
  unfold qcIZ
  have cb0 := hx _ _ h0 _ _ cb
  have cp0 := hx _ _ h0 _ _ cp
  simp -implicitDefEqProofs only [ringC] at cp0
  have hlen := x.len
  simp -implicitDefEqProofs [ld_at cb0, cel_of cb0, stm_at cb0, ld_at cp0, cel_of cp0, stm_at cp0, stm_upd, ld_same, cel_same, over, hlen]
  refine loop_on [0, 8, 9] (fun s h' => ∃ k : Nat, k ≤ r.l.length ∧ s 10 = .int .i64 k ∧ I k h') (fun s _ => (r.l.length - num (s 10)).toNat) ⟨0, by omega, rfl, h0⟩ ?_
  rintro s h1 hf ⟨k, hk, s10, hI⟩
  have s0 : s 0 = yv := by simpa using hf 0 (by simp)
  have s8 : s 8 = lv := by simpa using hf 8 (by simp)
  have s9 : s 9 = .int .i64 r.l.length := by simpa using hf 9 (by simp)
  unfold qfHZ
  simp -implicitDefEqProofs only [s9, s10, bin_lss, ov_s, cd_b]
  refine ⟨fun hc => ?_, fun hc => ?_⟩
  rotate_left
  · have : k = r.l.length := by have : ¬ ((k : Int) < r.l.length) := by simpa using hc
                                omega
    subst this
    simp -implicitDefEqProofs
    exact hK1 _ _ (by simpa [evX] using hI)
  have hlt : k < r.l.length := by have : ((k : Int) < r.l.length) := by simpa using hc
                                  omega
  have hw : IntKind.i64.wrap ((k : Int) + 1) = k + 1 := wrap64_id (by omega) (by omega)
  have eA := hx _ _ hI
  obtain ⟨eb, eo, i1, i2⟩ := ev_ld x (k := .i64) hlt
  unfold qfGZ
  simp -implicitDefEqProofs only [s8, s10, i1, ov_s, ldV_n (i2 _ eA), zcEv]
  refine nw_st rfl (by simp [evC, presC]) (by simp [evC, presC]) fun vb h3 n3 e3 c3 => ?_
  have c3 : h3 vb = some (.cells (evC r.l[k]).toArray quZ (0, 0)) := by simpa using c3
  have hld : ldV (some (some 8)) (ptr vb) h3 = some (.agg (evC r.l[k]).toArray) := by simp [ld_at c3, evC, presC]
  simp -implicitDefEqProofs only [hld, ov_s, s0]
  have hj : k < (evX r.l).length := by simpa [evX] using hlt
  have hr := hround k hj h3
  have hx' : (evX r.l)[k] = #[.agg (evC r.l[k]).toArray] := by simp [evX]
  rw [hx'] at hr
  refine hr _ (hs _ _ _ hI e3) (fun h4 hI4 => ?_) (fun h4 hS => ?_)
  · unfold qbUZ qfFZ
    simp -implicitDefEqProofs [s10, hw, s0, s8, s9]
    exact ⟨⟨k + 1, by omega, by simp, hI4⟩, by omega⟩
  · unfold qbUZ
    simp -implicitDefEqProofs
    exact hK2 _ _ hS
def DrJ (hB:Heap)(v1:Nat)(l:List Evt)(q b' i:Nat)(h':Heap):Prop :=
 ∃ ov,h' v1=some (.cells #[ov] qqZ (0,0))∧Row 8 quZ h' ov i ((l.take i).flatMap evC)∧Ext (wo hB [v1]) h'∧∀ r,rowOf ov=some r→r≠v1∧r≠q∧r≠b'∧hB r=none
def DrC (hB:Heap)(v1:Nat)(l:List Evt)(q b' i:Nat)(s2:Env)(h':Heap):Prop:=DrJ hB v1 l q b' i h'∧s2 4=ptr v1∧∃ (hi:i<l.length) (xb:Nat),s2 5=ptr xb∧xb≠q∧xb≠v1∧h' xb=some (.cells (evC l[i]).toArray quZ (0,0))
theorem DrJ.keep {hB:Heap}{v1:Nat}{l:List Evt}{q b' i:Nat}{h' h'':Heap}(J:DrJ hB v1 l q b' i h')(hl':hB q=none)(h3:hB v1≠none)(k:Keep (some q) h' h''):DrJ hB v1 l q b' i h'':=by
 obtain⟨ov,c,r,e,n⟩:=J
 refine⟨ov,k _ _ c (fun hh=>by cases hh; exact h3 hl'),r.of_at fun g hg=>?_,wo_keep e hl' k,n⟩
 obtain⟨o,ho⟩:=r.lt g hg
 rw[ho]; exact k _ _ ho (fun hh=>(n g hg).2.1 (by cases hh; rfl))
theorem zcSlEv:zc P qqZ=some #[.slice none 0 0]:=by kernel_rfl
variable {K:KTy}
set_option maxHeartbeats 2000000 in
theorem rdrain_ok {T:Tags}{h:Heap}{g:Tag}{p:Nat}{r:Ring}(w:Wf T h)(gg:Gd g)(x:RingR T h g p r)(hl:r.l.length<1000000)
  (hk:∀ T' h' v,Only (pre g) T h T' h'→RingR T' h' g p ⟨r.room,[],false⟩→Sl 8 EvR (fz T' h') v r.l→K (.tuple #[v,.bool r.lost]) h'):callM P qDZ #[ptr p] h K:=by
 apply qpiZ
 unfold qcXZ
 rw[zcSlEv]
 refine nw_intro fun v1 h1 n1 e1 c1=>?_
 obtain⟨lv,cp,tp,rl⟩:=x
 have cp1:=e1 _ _ cp
 have xs:Sl 8 EvR h lv r.l:=Row.slE (enc:=evC) (R:=EvR) (fun e=>by simp[evC,presC]) (fun _=>rfl) rl.1
 have n1p:p≠v1:=fun hh=>by subst hh; rw[cp] at n1; cases n1
 rw[seqM_eq]
 unfold qfOZ
 apply qpIZ
 unfold qdXZ
 simp -implicitDefEqProofs only[nwM_s,Value.cells]
 intro bA nA
 have eA:Ext h1 (upd h1 bA _):=Ext.upd nA (.cells #[ptr p] qUZ (0,0))
 have cA:=upd_same' h1 bA (.cells #[ptr p] qUZ (0,0))
 generalize upd h1 bA _=hB at *
 have nA1:v1≠bA:=ne_fresh c1 nA
 have c1:=eA _ _ c1
 have cp2:=eA _ _ cp1
 have e0B:=e1.trans eA
 have h1B:hB v1≠none:=by rw[c1]; simp
 have F1:Ext h (wo hB [v1]):=wo_ext e0B (by simpa using n1)
 have hlx:(evX r.l).length=r.l.length:=by simp[evX]
 simp -implicitDefEqProofs only[ov_s]
 unfold qfNZ
 refine rf_go good mixed rfl (by kernel_rfl) (rall_it r (hA:=wo hB [v1]) (b:=bA) (p:=p) (lv:=lv) (by rw[wo_out (by simpa using Ne.symm nA1)]; exact cA) (by rw[wo_out (by simpa using n1p)]; exact cp2) (xs.ext (@EvR.ext) F1) hl)
  (fun q b' i h'=>DrJ hB v1 r.l q b' i h') (fun _ _ _ _=>False) (fun q b' i s2 h'=>DrC hB v1 r.l q b' i s2 h') ?_ ?_ ?_ (fun _ _ _ _ _ _ _ h _=>h) ?_ ?_ ?_ ?_ ?_ (fun _ _ _ _ _ _ _ h=>h.elim) (fun _ _ _ _ _ _ _ _ h=>h.elim)
 ·intro q b' hq hb'
  exact⟨_,c1,by simpa using (Rf.nil (sz:=8) (e:=quZ) (Ext.refl hB)).row,fun k o hk=>(wo_get hk).2,fun k hk=>by simp[rowOf] at hk⟩
 ·intro q b' i h' J; obtain⟨ov,_,_,e,_⟩:=J; exact e
 ·intro q b' hq hb' i h' h'' J k
  exact J.keep hq h1B k
 ·rintro q b' i s2 ha hb hq hb' ⟨J,s4,hi,xb,s5,nx,nx1,cx⟩ k
  exact⟨J.keep hq h1B k,s4,hi,xb,s5,nx,nx1,k _ _ cx (fun hh=>nx (by cases hh; rfl))⟩
 ·intro i hi; simp[evX]
 ·rintro i hi q b' h2 hq hb' ⟨ol,hol⟩ ⟨ob,hob⟩ J
  rw[qmdZ]
  unfold qfDZ
  rw[zcEv]
  have hib:i<r.l.length:=by omega
  have hxi:(evX r.l)[i]=#[.agg (evC r.l[i]).toArray]:=by simp[evX]
  rw[hxi]
  simp -implicitDefEqProofs
  refine nw_st rfl (by simp[evC,presC]) (by simp[evC,presC]) fun xb h4 n4 e4 c4=>?_
  have nx:xb≠q:=fun hh=>by subst hh; rw[hol] at n4; cases n4
  obtain⟨ov,cv,rr,e,nr⟩:=J
  refine⟨⟨⟨ov,e4 _ _ cv,rr.ext e4,e.trans e4,nr⟩,by simp,hib,xb,by simp,nx,fun hh=>(by subst hh; rw[cv] at n4; cases n4),by simpa using c4⟩,by rw[hol,e4 _ _ hol],by rw[hob,e4 _ _ hob]⟩
 ·rintro i hi q b' s2 h3 hq hb' ⟨ol,hol⟩ ⟨ob,hob⟩ ⟨⟨ov,cv,rr,e,nr⟩,s4,hib,xb,s5,nx,nx1,cx⟩
  rw[qmeZ]
  unfold qfEZ
  have hld:ldV (some (some 8)) (ptr xb) h3=some (.agg (evC r.l[i]).toArray):=by simp[ld_at cx,evC,presC]
  simp -implicitDefEqProofs[s4,s5,ld_at cv,cel_of cv,stm_at cv,stm_upd,ld_same,cel_same,over,hld]
  refine app_one (x:=.agg (evC r.l[i]).toArray) bsEv unSlEv apEv (by omega) (by simp[evC,presC]) (by simp[evC,presC]) rr (by unfold maxLen; omega) (by omega) (by omega) fun a ov' h4 r4 k4 ha=>?_
  have hl3:q≠v1:=fun hh=>by subst hh; rw[hq] at c1; cases c1
  have hb3:b'≠v1:=fun hh=>by subst hh; rw[hb'] at c1; cases c1
  have cv4:h4 v1=some (.cells #[ov] qqZ (0,0)):=k4 _ _ cv (fun hh=>(nr v1 hh.symm).1 rfl)
  have hol4:h4 q=some ol:=k4 _ _ hol (fun hh=>(nr q hh.symm).2.1 rfl)
  have hob4:h4 b'=some ob:=k4 _ _ hob (fun hh=>(nr b' hh.symm).2.2.1 rfl)
  have nr':∀ k,rowOf ov'=some k→k≠v1∧k≠q∧k≠b'∧hB k=none:=fun k hk=>by
   rcases ha with ha | ⟨j,ha,hj⟩
   ·exact nr k (by rw[← ha]; exact hk)
   ·rw[ha] at hk; cases hk
    refine⟨fun hh=>?_,fun hh=>?_,fun hh=>?_,?_⟩
    ·subst hh; rw[cv] at hj; cases hj
    ·subst hh; rw[hol] at hj; cases hj
    ·subst hh; rw[hob] at hj; cases hj
    ·by_cases hg3:k=v1
     ·subst hg3; rw[cv] at hj; cases hj
     ·cases hh:hB k with
      | none=>rfl
      | some o =>
       have:=e k o (by rw[wo_out (by simpa using hg3)]; exact hh)
       rw[this] at hj; cases hj
  have okv:ov'.cells=#[ov']:=r4.one.2
  simp -implicitDefEqProofs[ld_at cv4,cel_of cv4,stm_at cv4,stm_upd,ld_same,cel_same,over,okv,r4.one.1]
  refine⟨by rw[upd_ne hl3,hol4,hol],by rw[upd_ne hb3,hob4,hob],ov',upd_same' _ _ _,?_,wo_upd ?_ (by simp),nr'⟩
  ·have:r.l.take (i+1)=r.l.take i++[r.l[i]]:=by rw[List.take_succ_eq_append_getElem hib]
   rw[this,List.flatMap_append]
   exact (by simpa using r4:Row 8 quZ h4 ov' (i+1) _).of_at fun k hk=>upd_ne (nr' k hk).1
  ·intro k o hk
   have hkB:=wo_get hk
   have:=e k o hk
   exact k4 k o this fun hh=>by rw[(nr k hh.symm).2.2.2] at hkB; cases hkB.2
 ·intro q b' h' hq hne hb' hd J
  rw[hlx] at J
  obtain⟨ov,cv,rr,e,nr⟩:=J
  rw[List.take_of_length_le (Nat.le_refl _)] at rr
  have cp3:=e _ _ (show wo hB [v1] p=_ by rw[wo_out (by simpa using n1p)]; exact cp2)
  have nb1:v1≠b':=fun hh=>by subst hh; rw[hb'] at c1; cases c1
  have nbp:p≠b':=fun hh=>by subst hh; rw[hb'] at cp2; cases cp2
  simp -implicitDefEqProofs only[ringC] at cp3
  simp -implicitDefEqProofs only[blkM_n,thenM_n]
  unfold qfPZ
  simp -implicitDefEqProofs[ld_at cp3,cel_of cp3,stm_at cp3,ld_at cv,cel_of cv,stm_at cv,stm_skip n1p,stm_skip (Ne.symm n1p),ld_skip n1p,ld_skip (Ne.symm n1p),cel_skip n1p,cel_skip (Ne.symm n1p),stm_upd,ld_same,cel_same,over,hd,ld_skip nb1,cel_skip nb1,upd_ne (Ne.symm nbp)]
  obtain⟨X,hX⟩:∃ X,X=Obj.cells #[Value.int .i64 r.room,.slice none 0 0,.bool false] qAZ (0,0):=⟨_,rfl⟩
  rw[← hX]
  have ec:upd (upd h' p X) b' (.deferred none)=upd (upd h' b' (.deferred none)) p X:=by
   funext k
   by_cases h1:k=b'
   ·subst h1; rw[upd_same',upd_ne (Ne.symm nbp),upd_same']
   ·rw[upd_ne h1]
    by_cases h2:k=p
    ·subst h2; rw[upd_same',upd_same']
    ·rw[upd_ne h2,upd_ne h2,upd_ne h1]
  rw[ec]
  have E1:Ext h (upd h' b' (.deferred none)):=ext_upd (fresh_of e0B hb') (ext_wo e0B (by simpa using n1) e)
  have o1:Only non T h T (upd h' b' (.deferred none)):=Only.of_ext w E1
  have o2:Only (fun t=>t=g++[0]) T (upd h' b' (.deferred none)) T (upd (upd h' b' (.deferred none)) p X):=Only.upd o1.wf (E1 _ _ cp) tp
  have nrh:∀ k,rowOf ov=some k→h k=none:=fun k hk=>fresh_of e0B (nr k hk).2.2.2
  refine hk T _ ov ((o1.mono fun _=>non_up _).up o2 fun t=>eq_pre) ⟨.slice none 0 0,by rw[upd_same',hX]; rfl,tp,Rw.nil _ _ _ _ _⟩ ?_
  have r2:Row 8 quZ (upd (upd h' b' (.deferred none)) p X) ov r.l.length (r.l.flatMap evC):=rr.of_at fun j hj=>by
   have hjp:j≠p:=fun hh=>by have:=nrh j hj; rw[hh,cp] at this; cases this
   rw[upd_ne hjp,upd_ne (nr j hj).2.2.1]
  exact Row.slE (enc:=evC) (R:=EvR) (fun e=>by simp[evC,presC]) (fun _=>rfl) (r2.fz w nrh)
end Go.Proofs.YtcnphhhcknhhaaaGreat
namespace Go.Proofs.YtcnphhhcknhhaaaGreat
open Go Go.Den Go.MapKept
set_option linter.unusedSimpArgs false
set_option linter.unusedVariables false
set_option maxRecDepth 20000
variable {K:KTy}
theorem fdrain_ok (who:Int){T:Tags}{h:Heap}{g:Tag}{p:Nat}{f:Feed}(w:Wf T h)(gg:Gd g)(x:FeedR T h g p f)(hl:∀ j,j<8→(f.qs j).l.length<1000000)
  (hk:∀ T' h' v,Only (pre g) T h T' h'→FeedR T' h' g p (f.drain who)→Sl 8 EvR (fz T' h') v (f.told who)→K (.tuple #[v,.bool (f.lost who)]) h'):callM P qinZ #[ptr p,.int .i64 who] h K:=by
 apply qubZ
 unfold qjmZ
 refine client_ok who ?_
 unfold qnTZ
 cases hc:clientB who with
 | false =>
  simp -implicitDefEqProofs
  have e1:f.drain who=f:=by simp[Feed.drain,hc]
  have e2:f.told who=[]:=by simp[Feed.told,hc]
  have e3:f.lost who=false:=by simp[Feed.lost,hc]
  rw[e1,e2,e3] at hk
  exact hk T h _ (Only.refl w) x (.inl ⟨rfl,_,_,rfl⟩)
 | true =>
 obtain⟨n,rfl⟩:∃ n:Nat,who=n:=⟨who.toNat,by simp[clientB] at hc; omega⟩
 have hn:n<8:=by simp[clientB] at hc; omega
 have e1:f.drain n={ f with qs:=qset f.qs n ⟨(f.qs n).room,[],false⟩ }:=by simp[Feed.drain,hc]
 have e2:f.told n=(f.qs n).l:=by simp[Feed.told,hc]
 have e3:f.lost n=(f.qs n).lost:=by simp[Feed.lost,hc]
 rw[e1,e2,e3] at hk
 obtain⟨kw,vw,q,cp,tp,a3,a4,a5,a6,a7⟩:=x
 simp -implicitDefEqProofs
 unfold qnSZ
 have hcel:cel h p (2+n)=some (ptr (q n)):=by
  rw[cel_of cp]
  have:n=0∨n=1∨n=2∨n=3∨n=4∨n=5∨n=6∨n=7:=by omega
  rcases this with rfl | rfl | rfl | rfl | rfl | rfl | rfl | rfl<;>simp[feedC,feedG,List.range_succ]
 simp -implicitDefEqProofs[ia_arr hn,hcel]
 refine rdrain_ok w (gg.app [1,n]) (a5 n hn) (hl n hn) fun T2 h2 v o2 r2 s2=>?_
 simp -implicitDefEqProofs
 have b:=o2.k.at cp tp (not_pre (by simp))
 have nn:¬ pre (g++[1,n]) []:=(gg.app _).nil
 refine hk T2 h2 v (o2.mono fun t=>pre_trans) ⟨kw,vw,q,b.1,b.2,a3.ext (@StrR.ext) (o2.ext nn),a4.ext (@MaskR.ext) (o2.ext nn),fun j hj=>?_,a6,a7⟩ s2
 show RingR T2 h2 _ _ (qset f.qs n _ j)
 by_cases hjn:j=n
 ·subst hjn; simp[qset]; exact r2
 ·simp -implicitDefEqProofs[qset,hjn]; exact (a5 j hj).kp o2.k (off_pre (by simp; omega) (by simp; omega))
end Go.Proofs.YtcnphhhcknhhaaaGreat
namespace Go.Proofs.YtcnphhhcknhhaaaGreat
open Go Go.Den Go.MapKept
set_option linter.unusedSimpArgs false
set_option linter.unusedVariables false
set_option maxRecDepth 20000
theorem unSlSlEv:P.underlying qbzZ=some (.slice qqZ):=by kernel_rfl
theorem apSlEv:apC P qqZ=some (1,24,1):=by kernel_rfl
theorem made_one (v:Value)(n:Nat):madeCells #[v] (n*1)=((List.range n).map fun _=>v).toArray:=by
 apply Array.ext
 ·simp -implicitDefEqProofs[madeCells]
 ·intro i h1 h2
  simp -implicitDefEqProofs[madeCells,Nat.mod_one]
end Go.Proofs.YtcnphhhcknhhaaaGreat
