/- Words, plain data and contracts of the Go functions that this claim reaches. No condition beyond the hypotheses that each theorem states. -/
import Derived.Test.YtmbningljbcpkaaGreatWpl4
set_option linter.unusedSimpArgs false
set_option linter.unusedVariables false
namespace Go.Den
open Go
set_option linter.unusedVariables false
structure Chg where
 user:ByteArray
 old:Pres
 new:Pres
def chgC (c:Chg):List Value:=.string c.user::(presC c.old++presC c.new)
def ChgR (_:Heap)(l:List Value)(c:Chg):Prop:=l=chgC c
theorem ChgR.ext {h h':Heap}{c:List Value}{x:Chg}(_:Ext h h')(r:ChgR h c x):ChgR h' c x:=r
theorem chgC_one (c:Chg):∀ u∈chgC c,u.oneCell'=true:=by
 intro u hu
 simp[chgC,presC] at hu; rcases hu with rfl | rfl | rfl | rfl | rfl | rfl | rfl<;>rfl
def settleB (b:Book)(u:ByteArray)(ss:List Sess)(now:Int):Book × List Chg :=
 (if ss=[] then delB b u else putB b u ⟨ss,presOf ss now⟩,if presOf ss now=(entOf b u).told then [] else [⟨u,(entOf b u).told,presOf ss now⟩])
def workS (ss:List Sess)(x:OpD)(now most:Int):List Sess × Int :=
 if x.kind=1 then setS ss ⟨x.id,x.status,x.prio,addU now x.ttl⟩ most else if x.kind=2 then beatS ss x.id (addU now x.ttl) else if x.kind=3 then clearS ss x.id else (ss,0)
def writeB (b:Book)(x:OpD)(now most:Int):Book × List Chg × Int :=
 let w:=workS (purgeS (entOf b x.user).ss now) x now most
 let s:=settleB b x.user w.1 now
 (s.1,s.2,w.2)
def sweepTo (b0:Book)(now:Int):Nat→Book × List Chg
 | 0=>(b0,[])
 | n+1 =>
  let p:=sweepTo b0 now n
  let x:=b0.getD n (⟨#[]⟩,ent0)
  let s:=settleB p.1 x.1 (purgeS x.2.ss now) now
  (s.1,p.2++s.2)
def sweepB (b:Book)(now:Int):Book × List Chg:=sweepTo b now b.length
def storedB (b:Book):Nat:=(b.map fun x=>x.2.ss.length).sum
structure BkW (b:Book):Prop where
 so:SrtK (keysB b)
 us:∀ x∈b,SrtI x.2.ss∧∀ s∈x.2.ss,U64 s.un
theorem entOf_cases (b:Book)(u:ByteArray):entOf b u=ent0∨∃ x∈b,x.1=u∧entOf b u=x.2:=by
 induction b with
 | nil=>exact .inl rfl
 | cons x b ih =>
  obtain⟨k,e⟩:=x
  simp only[entOf]
  by_cases h:k=u
  ·rw[if_pos h]; exact .inr ⟨(k,e),by simp,h,rfl⟩
  ·rw[if_neg h]
   rcases ih with ih | ⟨x,h1,h2,h3⟩
   ·exact .inl ih
   ·exact .inr ⟨x,by simp[h1],h2,h3⟩
theorem BkW.ent {b:Book}(w:BkW b)(u:ByteArray):SrtI (entOf b u).ss∧∀ s∈(entOf b u).ss,U64 s.un:=by
 rcases entOf_cases b u with h | ⟨x,h1,h2,h3⟩
 ·rw[h]; exact⟨List.Pairwise.nil,by simp[ent0]⟩
 ·rw[h3]; exact w.us x h1
theorem SrtI.beat {l:List Sess}(s:SrtI l)(id un:Int):SrtI (beatS l id un).1:=by
 unfold beatS
 split
 ·refine List.pairwise_map.2 (s.imp fun {a b} h=>?_)
  split<;>split<;>exact h
 ·exact s
theorem SrtI.set {l:List Sess}(s:SrtI l)(x:Sess)(most:Int):SrtI (setS l x most).1:=by
 unfold setS
 split
 ·exact s
 ·exact s.put
theorem SrtI.clear {l:List Sess}(s:SrtI l)(id:Int):SrtI (clearS l id).1:=by
 unfold clearS
 split
 ·exact s.del id
 ·exact s
theorem work_srt {ss:List Sess}(s:SrtI ss)(x:OpD)(now most:Int):SrtI (workS ss x now most).1:=by
 unfold workS
 split
 ·exact s.set _ _
 ·split
  ·exact s.beat _ _
  ·split
   ·exact s.clear _
   ·exact s
theorem work_un {ss:List Sess}(s:∀ y∈ss,U64 y.un)(x:OpD){now:Int}(most:Int)(hn:U64 now)(ht:U64 x.ttl):∀ y∈(workS ss x now most).1,U64 y.un:=by
 have ha:=addU_rng hn ht
 intro y hy
 unfold workS at hy
 split at hy
 ·unfold setS at hy
  split at hy
  ·exact s y hy
  ·rcases mem_putS hy with rfl | hy
   ·exact ha
   ·exact s y hy
 ·split at hy
  ·unfold beatS at hy
   split at hy
   ·obtain⟨z,hz,rfl⟩:=List.mem_map.1 hy
    have:=s z hz
    split
    ·unfold U64 at *; simp only; omega
    ·exact this
   ·exact s y hy
  ·split at hy
   ·unfold clearS at hy
    split at hy
    ·exact s y (List.mem_filter.1 hy).1
    ·exact s y hy
   ·exact s y hy
theorem work_len {ss:List Sess}(x:OpD)(now most:Int):(workS ss x now most).1.length≤ss.length+1:=by
 unfold workS
 split
 ·unfold setS; split
  ·exact Nat.le_succ _
  ·exact putS_len
 ·split
  ·unfold beatS; split<;>simp
  ·split
   ·unfold clearS; split
    ·have:=List.length_filter_le (fun s:Sess=>!decide (s.id=x.id)) ss; unfold delS; simp only; omega
    ·exact Nat.le_succ _
   ·exact Nat.le_succ _
theorem mem_putB {b:Book}{u:ByteArray}{e:Ent}{x:ByteArray × Ent}:x∈putB b u e→x=(u,e)∨x∈b:=by
 induction b with
 | nil=>intro h; simp[putB] at h; exact .inl h
 | cons y b ih =>
  obtain⟨k,f⟩:=y
  intro h
  simp only[putB] at h
  split at h
  ·rcases List.mem_cons.1 h with h | h
   ·exact .inr (by simp[h])
   ·rcases ih h with h | h
    ·exact .inl h
    ·exact .inr (by simp[h])
  ·split at h
   ·rcases List.mem_cons.1 h with h | h
    ·exact .inl h
    ·exact .inr (by simp[h])
   ·rcases List.mem_cons.1 h with h | h
    ·exact .inl h
    ·exact .inr h
theorem BkW.settle {b:Book}(w:BkW b)(u:ByteArray){ss:List Sess}(now:Int)(h1:SrtI ss)(h2:∀ s∈ss,U64 s.un):BkW (settleB b u ss now).1:=by
 unfold settleB
 dsimp only
 split
 ·exact⟨delB_srt w.so,fun x hx=>w.us x (List.mem_filter.1 hx).1⟩
 ·refine⟨putB_srt w.so,fun x hx=>?_⟩
  rcases mem_putB hx with rfl | hx
  ·exact⟨h1,h2⟩
  ·exact w.us x hx
theorem settle_len (b:Book)(u:ByteArray)(ss:List Sess)(now:Int):(settleB b u ss now).1.length≤b.length+1:=by
 unfold settleB
 dsimp only
 split
 ·exact Nat.le_succ_of_le delB_len
 ·exact putB_len
theorem BkW.purge {l:List Sess}(h1:SrtI l)(h2:∀ s∈l,U64 s.un)(now:Int):SrtI (purgeS l now)∧∀ s∈purgeS l now,U64 s.un:=⟨h1.purge now,fun s hs=>h2 s (List.mem_filter.1 hs).1⟩
theorem BkW.sweepTo {b:Book}(w:BkW b)(now:Int):∀ n,n≤b.length→BkW (sweepTo b now n).1
 | 0,_=>w
 | n+1,hn=>by
  have ih:=BkW.sweepTo w now n (by omega)
  have hm:b.getD n (⟨#[]⟩,ent0)∈b:=by rw[List.getD_eq_getElem?_getD,List.getElem?_eq_getElem (by omega)]; exact List.getElem_mem _
  obtain⟨h1,h2⟩:=w.us _ hm
  obtain⟨h3,h4⟩:=BkW.purge h1 h2 now
  exact ih.settle _ _ h3 h4
end Go.Den
namespace Go.Den
open Go
theorem fz_loc {T:Tags}{h:Heap}{b:Nat}{o:Obj}:Ext (fz (tset T b lc) h) (fz T (upd h b o)):=fun k z e=>by
 unfold fz at e ⊢
 by_cases hk:k=b
 ·subst hk; rw[tset_same] at e; simp at e
 ·rw[tset_ne hk] at e; rw[upd_ne hk]; exact e
theorem fz_in {T:Tags}{h h':Heap}{b:Nat}(n:h b=none)(e:Ext h h'):Ext (fz T h) (fz (tset T b lc) h'):=fun k z ek=>by
 unfold fz at ek ⊢
 split at ek
 ·rename_i ht
  have hk:k≠b:=fun hh=>by subst hh; rw[n] at ek; cases ek
  rw[tset_ne hk,if_pos ht]; exact e k z ek
 ·cases ek
theorem wf_loc {T:Tags}{h:Heap}{b:Nat}{o:Obj}{t:Tag}(w:Wf T h)(c:h b=some o):Wf (tset T b t) h:=fun k n=>by
 have hk:k≠b:=fun hh=>by subst hh; rw[n] at c; cases c
 rw[tset_ne hk]; exact w k n
end Go.Den
namespace Go.Den
open Go
variable {K:KTy}
theorem Rf.app2 {P:Program}{t ty e:TypeId}{sz bytes m:Nat}{v x:Value}{n:Nat}{xs news:List Value}{h0 h:Heap}
  (ht:P.underlying t=some (.slice e)) (hi:apC P e=some (sz,bytes,sz)) (hsz:0<sz) (hv:Rf sz e h0 h v n xs) (hx:SlC sz h x m news) (h1:∀ u∈news,u.oneCell'=true)
  (h63:n+m≤maxLen) (hby:(n+m)*bytes≤140737488355328) (hk:∀ v' h',Rf sz e h0 h' v' (n+m) (xs++news)→(∀ b o,h b=some o→rowOf v≠some b→h' b=some o)→(rowOf v'=rowOf v∨∃ b,rowOf v'=some b∧h b=none)→K v' h') :
  vvM P (Builtin.append_ #[t,t] ty #[v,x]) h K:=by
 rcases hx with ⟨rfl,rfl,a,c,rfl⟩ | ⟨b,o,cap,rfl,hc⟩
 ·refine app_none ht hi hv.row (hk v h ?_ (fun b o e _=>e) (.inl rfl))
  simpa using hv
 ·refine app_intro ht hi hsz hv.row hc h1 h63 hby fun v' h' hr hkp ha=>hk v' h' ⟨hv.ex.keep hkp fun b hb=>hv.new b hb,hr,fun b hb=>?_,fun u hu=>?_⟩ (fun b o e n=>hkp b o e fun hh=>n hh.symm) ha
  ·rcases ha with ha | ⟨k,ha,hn⟩
   ·exact hv.new b (by rw[← ha]; exact hb)
   ·rw[ha] at hb; simp only[Option.some.injEq] at hb; subst hb; exact fresh_of hv.ex hn
  ·rcases List.mem_append.1 hu with hu | hu
   ·exact hv.one u hu
   ·exact h1 u hu
theorem fz_keep {T:Tags}{h h':Heap}{l:Nat}(ht:T l≠[])(k:Keep (some l) h h'):Ext (fz T h) (fz T h'):=fun b o e=>by
 unfold fz at e ⊢
 split at e
 ·rename_i hb
  rw[if_pos hb]
  exact k b o e fun hh=>ht (by cases hh; exact hb)
 ·cases e
theorem fz_of {T T':Tags}{h h':Heap}(hk:∀ b,T b=[]→T' b=[]∧∀ o,h b=some o→h' b=some o):Ext (fz T h) (fz T' h'):=fun b o e=>by
 unfold fz at e ⊢
 split at e
 ·rename_i hb
  rw[if_pos (hk b hb).1]; exact (hk b hb).2 o e
 ·cases e
theorem Rf.keep {sz:Nat}{e:TypeId}{h0 h h':Heap}{v:Value}{n:Nat}{xs:List Value}{l:Nat}(r:Rf sz e h0 h v n xs)(k:Keep (some l) h h')(hl:h0 l=none)(hv:rowOf v≠some l):Rf sz e h0 h' v n xs :=
 ⟨fun b o e=>k b o (r.ex b o e) (fun hh=>by cases hh; rw[hl] at e; cases e),r.row.of_at fun g hg=>by
  obtain⟨o,ho⟩:=r.row.lt g hg
  rw[ho,k g o ho (fun hh=>hv (by rw[hg,hh]))],r.new,r.one⟩
def tls (T:Tags)(l:List Nat):Tags:=fun b=>if b∈l then lc else T b
theorem tls_in {T:Tags}{l:List Nat}{b:Nat}(h:b∈l):tls T l b=lc:=if_pos h
theorem tls_out {T:Tags}{l:List Nat}{b:Nat}(h:b ∉ l):tls T l b=T b:=if_neg h
theorem tls_nil {T:Tags}{l:List Nat}{b:Nat}(h:tls T l b=[]):b ∉ l∧T b=[]:=by
 by_cases hb:b∈l
 ·rw[tls_in hb] at h; simp at h
 ·rw[tls_out hb] at h; exact⟨hb,h⟩
theorem wf_tls {T:Tags}{h:Heap}{l:List Nat}(w:Wf T h)(hl:∀ b∈l,∃ o,h b=some o):Wf (tls T l) h:=fun b n=>by
 rw[tls_out (fun hb=>by obtain⟨o,ho⟩:=hl b hb; rw[n] at ho; cases ho)]; exact w b n
theorem fz_tls {T:Tags}{h h':Heap}{l:List Nat}(hl:∀ b∈l,h b=none)(e:Ext h h'):Ext (fz T h) (fz (tls T l) h'):=fun b o eb=>by
 unfold fz at eb ⊢
 split at eb
 ·rename_i ht
  rw[tls_out (fun hb=>by rw[hl b hb] at eb; cases eb),if_pos ht]; exact e b o eb
 ·cases eb
theorem fz_untls {T:Tags}{h h':Heap}{l:List Nat}(hk:∀ b o,b ∉ l→h b=some o→h' b=some o):Ext (fz (tls T l) h) (fz T h'):=fz_of fun b hb=>⟨(tls_nil hb).2,fun o ho=>hk b o (tls_nil hb).1 ho⟩
theorem ChgR.one {h:Heap}:∀ c y,ChgR h c y→∀ u∈c,u.oneCell'=true:=fun c y r u hu=>by
 have:c=chgC y:=r
 subst this; exact chgC_one y u hu
theorem chg_els {h:Heap}{v:Value}{l:List Chg}(x:Sl 7 ChgR h v l):SlC 7 h v l.length (l.flatMap chgC):=by
 obtain⟨L,h1,h2⟩:=x.els ChgR.one
 have:L=l.map chgC:=by
  apply List.ext_getElem (by simp[h2.len])
  intro i h3 h4
  simp only[List.getElem_map]
  exact h2.el i h3 (by simpa using h4)
 rw[this,← List.flatMap_def] at h1
 exact h1
theorem flatC_one (l:List Chg):∀ u∈l.flatMap chgC,u.oneCell'=true:=by
 intro u hu
 obtain⟨s,_,hs⟩:=List.mem_flatMap.1 hu
 exact chgC_one s u hs
theorem srt_sub {l m:List ByteArray}(hl:SrtK l)(hm:SrtK m)(h:∀ k∈l,k∈m):l.length≤m.length:=by
 induction m generalizing l with
 | nil=>cases l with
  | nil=>simp
  | cons a l=>have:=h a (by simp); simp at this
 | cons b m ih =>
  have hm':=(List.pairwise_cons.1 hm)
  cases l with
  | nil=>simp
  | cons a l =>
   have hl':=List.pairwise_cons.1 hl
   simp only[List.length_cons,Nat.add_le_add_iff_right]
   refine ih hl'.2 hm'.2 fun k hk=>?_
   rcases List.mem_cons.1 (h k (by simp[hk])) with hh | hh
   ·subst hh
    have h1:=hl'.1 k hk
    rcases List.mem_cons.1 (h a (by simp)) with ha | ha
    ·subst ha; rw[ltS_irrefl] at h1; cases h1
    ·have h2:=hm'.1 a ha
     rw[ltS_asymm h1] at h2; cases h2
   ·exact hh
theorem settle_keys {b:Book}{u:ByteArray}{ss:List Sess}{now:Int}{k:ByteArray}(h:k∈keysL (settleB b u ss now).1):k=u∨k∈keysL b:=by
 unfold settleB at h
 dsimp only at h
 split at h
 ·obtain⟨x,hx,rfl⟩:=List.mem_map.1 h
  exact .inr (List.mem_map_of_mem (List.mem_filter.1 hx).1)
 ·exact keys_putB h
theorem sweep_keys {b:Book}{now:Int}:∀ {n:Nat},n≤b.length→∀ k∈keysL (sweepTo b now n).1,k∈keysL b
 | 0,_,k,h=>h
 | n+1,hn,k,h=>by
  rcases settle_keys h with rfl | h
  ·rw[List.getD_eq_getElem?_getD,List.getElem?_eq_getElem (by omega)]
   exact List.mem_map_of_mem (List.getElem_mem _)
  ·exact sweep_keys (by omega) k h
theorem sweep_len {b:Book}(w:BkW b){now:Int}{n:Nat}(hn:n≤b.length):(sweepTo b now n).1.length≤b.length:=by
 have:=srt_sub (l:=keysL (sweepTo b now n).1) (m:=keysL b) (w.sweepTo now n hn).so w.so (sweep_keys hn)
 simpa [keysL] using this
theorem sweep_chg (b:Book)(now:Int):∀ n,(sweepTo b now n).2.length≤n
 | 0=>by simp[sweepTo]
 | n+1=>by
  have:=sweep_chg b now n
  simp only[sweepTo,List.length_append]
  have h2:∀ (b:Book) u ss,(settleB b u ss now).2.length≤1:=fun b u ss=>by unfold settleB; dsimp only; split<;>simp
  have:=h2 (sweepTo b now n).1 (b.getD n (⟨#[]⟩,ent0)).1 (purgeS (b.getD n (⟨#[]⟩,ent0)).2.ss now)
  omega
theorem fz_of2 {T T':Tags}{h h':Heap}(hk:∀ b o,T b=[]→h b=some o→T' b=[]∧h' b=some o):Ext (fz T h) (fz T' h'):=fun b o e=>by
 unfold fz at e ⊢
 split at e
 ·rename_i hb
  obtain⟨h1,h2⟩:=hk b o hb e
  rw[if_pos h1]; exact h2
 ·cases e
end Go.Den
namespace Go.Proofs.YtmbningljbcpkaaGreat
open Go Go.Den Go.MapKept
set_option linter.unusedSimpArgs false
set_option linter.unusedVariables false
set_option maxRecDepth 20000
theorem bsChg:bsI P qvZ=some (qLZ,7,#[.string ⟨#[]⟩,.int .i64 0,.int .i64 0,.int .i64 0,.int .i64 0,.int .i64 0,.int .i64 0]):=by kernel_rfl
theorem unSlChg:P.underlying qvZ=some (.slice qLZ):=by kernel_rfl
theorem apChg:apC P qLZ=some (7,64,7):=by kernel_rfl
theorem bdChg (u:ByteArray)(a b c d e f:Int):bdV (binf P qLZ) [(0,.string u),(1,.agg #[.int .i64 a,.int .i64 b,.int .i64 c]),(2,.agg #[.int .i64 d,.int .i64 e,.int .i64 f])] =
 some (.agg #[.string u,.int .i64 a,.int .i64 b,.int .i64 c,.int .i64 d,.int .i64 e,.int .i64 f]):=by kernel_rfl
theorem bdEnt (a:Option Addr)(n m:Nat)(d e f:Int):bdV (binf P qjZ) [(0,.slice a n m),(1,.agg #[.int .i64 d,.int .i64 e,.int .i64 f])]=some (.agg #[.slice a n m,.int .i64 d,.int .i64 e,.int .i64 f]):=by kernel_rfl
theorem bdSess (a b c d:Int):bdV (binf P qcZ) [(0,.int .i64 a),(1,.int .i64 b),(2,.int .i64 c),(3,.int .u64 d)]=some (.agg #[.int .i64 a,.int .i64 b,.int .i64 c,.int .u64 d]):=by kernel_rfl
theorem presNe (p q:Pres){x y:Operand}{K:Value→Prop}:pvM P (do eqGuard .neq qhZ x y (.agg #[.int .i64 p.st,.int .i64 p.pr,.int .i64 p.lv]) (.agg #[.int .i64 q.st,.int .i64 q.pr,.int .i64 q.lv]); binOp .neq qhZ (.agg #[.int .i64 p.st,.int .i64 p.pr,.int .i64 p.lv]) (.agg #[.int .i64 q.st,.int .i64 q.pr,.int .i64 q.lv])) K=K (.bool (!decide (p=q))):=by
 rw[pv_neq (d:=5) (b:=(p.st == q.st) && ((p.pr == q.pr) && ((p.lv == q.lv) && true))) (by kernel_rfl) (by omega) (by kernel_rfl)]
 have:((p.st == q.st) && ((p.pr == q.pr) && ((p.lv == q.lv) && true)))=decide (p=q):=by
  rw[Bool.eq_iff_iff]; cases p; cases q; simp
 rw[this]
theorem chg_sl {T:Tags}{h0 h:Heap}{b:Nat}{c:Chg}(hb:h b=some (.cells (chgC c).toArray qLZ (0,0)))(ht:T b=[]):Sl 7 ChgR (fz T h) (.slice (some ⟨b,0,none⟩) 1 1) [c]:=by
 have hb':=fz_at hb ht
 refine .inr ⟨b,0,1,rfl,by simp,by unfold maxLen; omega,fun i hi=>?_⟩
 have:i=0:=by simp at hi; exact hi
 subst this
 exact⟨chgC c,cels_of hb' (by simp[chgC,presC]) (by simp[chgC,presC]),rfl⟩
variable {K:KTy}
set_option maxHeartbeats 2000000 in
theorem settle_ok (b:Book)(bw:BkW b)(u:ByteArray)(hu:u.size≤maxLen)(ss:List Sess)(now:Int){T:Tags}{h:Heap}(w:Wf T h){kw vw sv:Value}(x:BookR (fz T h) kw vw b)(hs:Sl 4 SessR (fz T h) sv ss)(hn:Sn sv)(hl:b.length<1000000)(hl2:ss.length<1000000)
  (hk:∀ h' k v cv,Ext h h'→BookR (fz T h') k v (settleB b u ss now).1→Sl 7 ChgR (fz T h') cv (settleB b u ss now).2→K (.tuple #[.agg #[k,v],cv]) h'):callM P qjWZ #[.agg #[kw,vw],.string u,sv,.int .u64 now] h K:=by
 apply quSZ
 unfold qpVZ
 rw[zcMap]
 refine nw_agg fun v1 h1 n1 e1 c1=>?_
 refine nw_intro fun v3 h3 n3 e3 c3=>?_
 have c1:=e3 _ _ c1
 have n3:h v3=none:=fresh_of e1 n3
 have e0:=e1.trans e3
 have o1:=x.1.one
 have o2:=x.2.1.one
 simp -implicitDefEqProofs[ld_at c1,cel_of c1,stm_at c1,stm_upd,ld_same,cel_same,over]
 refine get_ok b bw.so u ((fz_ext T h).trans e0) x hl fun h4 wv e4 hwv hwn=>?_
 have c1:=e4 _ _ c1
 have c3:=e4 _ _ c3
 have e0:=e0.trans e4
 unfold qrdZ
 simp -implicitDefEqProofs only[exV_0,exV_1,ov_s,zcEnt]
 obtain⟨tw,htw⟩:∃ tw,(entOf b u).told=tw:=⟨_,rfl⟩
 simp -implicitDefEqProofs only[htw,presC]
 refine nw_st (by simp) (by simp) (by simp[hwv.one.1]) fun v10 h5 n5 e5 c5=>?_
 have c1:=e5 _ _ c1
 have c3:=e5 _ _ c3
 have e0:=e0.trans e5
 refine aggOf_ok ss now (hs.ext (R:=SessR) (@SessR.ext) ((fz_ext T h).trans e0)) hl2 fun h6 e6=>?_
 have c1:=e6 _ _ c1
 have c3:=e6 _ _ c3
 have c5:=e6 _ _ c5
 have e0:=e0.trans e6
 unfold qrcZ
 rw[zcPres]
 refine nw_st rfl rfl (by simp[presC]) fun v15 h7 n7 e7 c7=>?_
 have c1:=e7 _ _ c1
 have c3:=e7 _ _ c3
 have c5:=e7 _ _ c5
 have e0:=e0.trans e7
 simp -implicitDefEqProofs only[presC,cells_agg] at c5 c7
 rw[seqM_eq]
 unfold qqYZ
 obtain⟨sa,sn,sc,hsv⟩:=sl_sl hs
 have w7:=w.ext e0
 have x7:BookR (fz (tset T v3 lc) h7) kw vw b:=x.ext (fz_in n3 e0)
 have hs7:Sl 4 SessR (fz (tset T v3 lc) h7) sv ss:=hs.ext (R:=SessR) (@SessR.ext) (fz_in n3 e0)
 have wt:Wf (tset T v3 lc) h7:=wf_loc w7 c3
 -- the end
 have fin:∀ (h8:Heap) (s:Env) (cv:Value),Ext h7 h8→Sl 7 ChgR (fz (tset T v3 lc) h8) cv (settleB b u ss now).2→s 1 = .string u→s 2=sv→s 3 = .int .u64 now→s 4=ptr v1→s 8=ptr v3→s 12=ptr v15→s 13=cv→qnKZ s h8 K []:=by
  intro h8 s cv e8 hcv s1 s2 s3 s4 s8 s12 s13
  have c1:=e8 _ _ c1
  have c3:=e8 _ _ c3
  have c7:=e8 _ _ c7
  have e0:=e0.trans e8
  have w8:=wt.ext e8
  have x8:=x7.ext (fz_of_ext e8)
  have hs8:=hs7.ext (R:=SessR) (@SessR.ext) (fz_of_ext e8)
  have hsl:=hs.len
  have last:∀ h9 k v,Ext h8 h9→BookR (fz (tset T v3 lc) h9) k v (settleB b u ss now).1→K (.tuple #[.agg #[k,v],cv]) (upd h9 v3 (.cells #[k,v] qaZ (0,0))):=fun h9 k v e9 hb =>
   hk _ k v cv (ext_upd n3 (e0.trans e9)) (hb.ext fz_loc) ((hcv.ext (R:=ChgR) (@ChgR.ext) (fz_of_ext e9)).ext (R:=ChgR) (@ChgR.ext) fz_loc)
  unfold qnKZ
  simp -implicitDefEqProofs only[s2,hsl,ov_s,bin_eql,cd_b]
  refine⟨fun hc=>?_,fun hc=>?_⟩
  ·have hss:ss=[]:=by
    have:((ss.length:Int)=0):=by simpa using hc
    exact List.eq_nil_of_length_eq_zero (by omega)
   have e:(settleB b u ss now).1=delB b u:=by simp[settleB,hss]
   rw[e] at last
   unfold qraZ
   simp -implicitDefEqProofs[s1,s4,ld_at c1,cel_of c1,stm_at c1,stm_upd,ld_same,cel_same,over]
   refine without_ok b bw.so u w8 x8 hl fun h9 k v e9 hb=>?_
   have c3:=e9 _ _ c3
   have p1:=hb.1.one
   have p2:=hb.2.1.one
   unfold qqZZ
   simp -implicitDefEqProofs[s8,s13,ld_at c3,cel_of c3,stm_at c3,stm_upd,ld_same,cel_same,over,p1.1,p2.1,tgMap]
   exact last h9 k v e9 hb
  ·have hss:¬ ss=[]:=fun hh=>by rw[hh] at hc; simp at hc
   have e:(settleB b u ss now).1=putB b u ⟨ss,presOf ss now⟩:=by simp[settleB,hss]
   rw[e] at last
   unfold qrbZ
   subst hsv
   simp -implicitDefEqProofs[s1,s2,s4,s12,ld_at c1,cel_of c1,stm_at c1,ld_at c7,cel_of c7,stm_at c7,stm_upd,ld_same,cel_same,over,bdEnt]
   refine with_ok b bw.so u hu ⟨ss,presOf ss now⟩ w8 x8 hs8 hn hl fun h9 k v e9 hb=>?_
   have c3:=e9 _ _ c3
   have p1:=hb.1.one
   have p2:=hb.2.1.one
   unfold qqCZ
   simp -implicitDefEqProofs[s8,s13,ld_at c3,cel_of c3,stm_at c3,stm_upd,ld_same,cel_same,over,p1.1,p2.1,tgMap]
   exact last h9 k v e9 hb
 simp -implicitDefEqProofs[ld_at c7,cel_of c7,stm_at c7,ld_at c5,cel_of c5,stm_at c5,stm_upd,ld_same,cel_same,over]
 rw[← htw]
 obtain⟨pr,hpr⟩:∃ pr,presOf ss now=pr:=⟨_,rfl⟩
 simp -implicitDefEqProofs only[hpr,htw] at fin ⊢
 rw[presNe]
 by_cases hne:pr=tw
 ·simp -implicitDefEqProofs[hne]
  unfold qqXZ
  try simp only[thenM_n]
  have e2:(settleB b u ss now).2=[]:=by simp[settleB,hpr,htw,hne]
  refine fin h7 _ (.slice none 0 0) (Ext.refl _) (by rw[e2]; exact .inl ⟨rfl,_,_,rfl⟩) ?_ ?_ ?_ ?_ ?_ ?_ ?_<;>simp
 ·simp -implicitDefEqProofs[hne]
  unfold qqWZ
  have e2:(settleB b u ss now).2=[⟨u,tw,pr⟩]:=by simp[settleB,hpr,htw,hne]
  simp -implicitDefEqProofs[ld_at c7,cel_of c7,stm_at c7,ld_at c5,cel_of c5,stm_at c5,stm_upd,ld_same,cel_same,over,bdChg]
  refine bs_one bsChg (by simp) (by omega) fun cb h8 n8 e8 c8=>?_
  try simp only[thenM_n]
  have ne3:cb≠v3:=fun hh=>by rw[hh,c3] at n8; cases n8
  have hT:tset T v3 lc cb=[]:=by rw[tset_ne ne3]; exact w cb (fresh_of e0 n8)
  refine fin h8 _ (.slice (some ⟨cb,0,none⟩) 1 1) e8 (by rw[e2]; rw[hpr] at c8; exact chg_sl (c:=⟨u,tw,pr⟩) (h0:=h) c8 hT) ?_ ?_ ?_ ?_ ?_ ?_ ?_<;>simp
end Go.Proofs.YtmbningljbcpkaaGreat
namespace Go.Proofs.YtmbningljbcpkaaGreat
open Go Go.Den Go.MapKept
set_option linter.unusedSimpArgs false
set_option linter.unusedVariables false
set_option maxRecDepth 20000
theorem rf_sl {T:Tags}{h0 h:Heap}{v:Value}{l:List Sess}(r:Rf 4 qcZ h0 h v l.length (l.flatMap sessC))(w:Wf T h0):Sl 4 SessR (fz T h) v l:=by
 rw[← map_flat] at r
 exact r.sl w (by simp) (El.enc (by simp[sessC]) (fun y u hu=>SessR.one (h:=h) _ y rfl u hu) (fun _ _=>rfl))
variable {K:KTy}
set_option maxHeartbeats 2000000 in
theorem bwrite_ok (b:Book)(bw:BkW b)(x:OpD)(xw:OpW x){uv:Value}(ou:One uv){now:Int}(hnow:U64 now)(most:Int){T:Tags}{h:Heap}(w:Wf T h){kw vw:Value}(xb:BookR (fz T h) kw vw b)(hl:b.length<1000000)(hl2:(entOf b x.user).ss.length<900000)
  (hk:∀ h' k v cv,Ext h h'→BookR (fz T h') k v (writeB b x now most).1→Sl 7 ChgR (fz T h') cv (writeB b x now most).2.1→K (.tuple #[.agg #[k,v],cv,.int .i64 (writeB b x now most).2.2]) h') :
  callM P qlFZ #[.agg #[kw,vw],.agg (opC x uv).toArray,.int .u64 now,.int .i64 most] h K:=by
 apply quXZ
 unfold qqvZ
 rw[zcMap]
 refine nw_agg fun v1 h1 n1 e1 c1=>?_
 refine nw_agg fun v3 h3 n3 e3 c3=>?_
 refine nw_intro fun v5 h5 n5 e5 c5=>?_
 have c1:=e5 _ _ (e3 _ _ c1)
 have c3:=e5 _ _ c3
 have n5:h v5=none:=fresh_of (e1.trans e3) n5
 have e0:=(e1.trans e3).trans e5
 simp -implicitDefEqProofs only[opC] at c3
 have o1:=xb.1.one
 have o2:=xb.2.1.one
 have wt:Wf (tset T v5 lc) h5:=wf_loc (w.ext e0) c5
 have x5:BookR (fz (tset T v5 lc) h5) kw vw b:=xb.ext (fz_in n5 e0)
 obtain⟨ss,hss⟩:∃ ss,(entOf b x.user).ss=ss:=⟨_,rfl⟩
 have hent:=bw.ent x.user
 rw[hss] at hl2 hent
 have hwr:writeB b x now most=((settleB b x.user (workS (purgeS ss now) x now most).1 now).1,(settleB b x.user (workS (purgeS ss now) x now most).1 now).2,(workS (purgeS ss now) x now most).2):=by simp[writeB,hss]
 rw[hwr] at hk
 have hpl:(purgeS ss now).length≤ss.length:=List.length_filter_le _ _
 have hsr:=hent.1.purge now
 have hwl:=work_len (ss:=purgeS ss now) x now most
 simp -implicitDefEqProofs[ld_at c1,cel_of c1,stm_at c1,ld_at c3,cel_of c3,stm_at c3,stm_upd,ld_same,cel_same,over]
 refine get_ok b bw.so x.user (fz_ext _ _) x5 hl fun h6 wv e6 hwv hwn=>?_
 rw[hss] at hwv
 have c1:=e6 _ _ c1
 have c3:=e6 _ _ c3
 unfold qrSZ
 obtain⟨tw,htw⟩:∃ tw,(entOf b x.user).told=tw:=⟨_,rfl⟩
 simp -implicitDefEqProofs only[exV_0,exV_1,ov_s,zcEnt,htw,presC]
 refine nw_st (by simp) (by simp) (by simp[hwv.one.1]) fun v14 h7 n7 e7 c7=>?_
 simp -implicitDefEqProofs only[cells_agg] at c7
 have c1:=e7 _ _ c1
 have c3:=e7 _ _ c3
 have e57:=e6.trans e7
 simp -implicitDefEqProofs[ld_at c7,cel_of c7,stm_at c7,stm_upd,ld_same,cel_same,over]
 refine purge_ok ss now (hwv.ext (R:=SessR) (@SessR.ext) ((fz_ext _ _).trans e57)) hwn (by omega) fun h8 v8 r8=>?_
 have c1:=r8.ex _ _ c1
 have c3:=r8.ex _ _ c3
 have r8:=r8.back e57
 unfold qrRZ
 simp -implicitDefEqProofs[ld_at c3,cel_of c3,stm_at c3,stm_upd,ld_same,cel_same,over]
 refine tickAdd_ok hnow xw.u1 ?_
 unfold qrQZ
 rw[seqM_eq]
 unfold qrPZ
 have fin:∀ (h9:Heap) (s:Env) (v':Value),Rf 4 qcZ h5 h9 v' (workS (purgeS ss now) x now most).1.length ((workS (purgeS ss now) x now most).1.flatMap sessC)→Ext h8 h9→s 2 = .int .u64 now→s 4=ptr v1→s 5=ptr v3→s 8=ptr v5→s 13=v'→s 14 = .int .i64 (workS (purgeS ss now) x now most).2→qnJZ s h9 K []:=by
  intro h9 s v' r9 e9 s2 s4 s5 s8 s13 s14
  have c1:=e9 _ _ c1
  have c3:=e9 _ _ c3
  have c5:=r9.ex _ _ c5
  unfold qnJZ
  simp -implicitDefEqProofs[s2,s4,s5,s13,ld_at c1,cel_of c1,stm_at c1,ld_at c3,cel_of c3,stm_at c3,stm_upd,ld_same,cel_same,over]
  refine settle_ok b bw x.user xw.s1 _ now (wt.ext r9.ex) (x5.ext (fz_of_ext r9.ex)) (rf_sl r9 wt) r9.row.sn hl (by omega) fun ha k v cv ea hb hc=>?_
  have c5:=ea _ _ c5
  have p1:=hb.1.one
  have p2:=hb.2.1.one
  unfold qqTZ
  simp -implicitDefEqProofs only[exV_0,exV_1,ov_s,zcMap]
  refine nw_st (by simp) (by simp) (by simp[p1.1,p2.1]) fun v63 hb' nb eb cb=>?_
  simp -implicitDefEqProofs only[cells_agg] at cb
  have c5:=eb _ _ c5
  have ne:v63≠v5:=Ne.symm (ne_fresh (ea _ _ ‹_›) nb)
  simp -implicitDefEqProofs[s8,s14,ld_at cb,cel_of cb,stm_at cb,ld_at c5,cel_of c5,stm_at c5,stm_upd,ld_same,cel_same,over,p1.1,p2.1,tgMap]
  have ef:=((r9.ex.trans ea).trans eb)
  exact hk _ k v cv (ext_upd n5 (e0.trans ef)) ((hb.ext (fz_of_ext eb)).ext fz_loc) ((hc.ext (R:=ChgR) (@ChgR.ext) (fz_of_ext eb)).ext (R:=ChgR) (@ChgR.ext) fz_loc)
 simp -implicitDefEqProofs[ld_at c3,cel_of c3,stm_at c3,stm_upd,ld_same,cel_same,over]
 refine⟨fun hk1=>?_,fun hk1=>?_⟩
 ·have e:workS (purgeS ss now) x now most=setS (purgeS ss now) ⟨x.id,x.status,x.prio,addU now x.ttl⟩ most:=by simp[workS,hk1]
  unfold qrLZ
  simp -implicitDefEqProofs[ld_at c3,cel_of c3,stm_at c3,stm_upd,ld_same,cel_same,over,bdSess]
  refine sset_ok (purgeS ss now) hsr ⟨x.id,x.status,x.prio,addU now x.ttl⟩ most (rf_sess r8) r8.row.sn (by omega) fun h9 v9 r9=>?_
  unfold qrKZ
  simp -implicitDefEqProofs only[exV_0,exV_1,ov_s]
  rw[← e] at r9
  try simp only[thenM_n]
  refine fin h9 _ v9 (r9.back r8.ex) r9.ex ?_ ?_ ?_ ?_ ?_ ?_<;>simp[e]
 ·unfold qrOZ
  simp -implicitDefEqProofs
  refine⟨fun hk2=>?_,fun hk2=>?_⟩
  ·have e:workS (purgeS ss now) x now most=beatS (purgeS ss now) x.id (addU now x.ttl):=by simp[workS,hk2]
   unfold qrNZ
   simp -implicitDefEqProofs[ld_at c3,cel_of c3,stm_at c3,stm_upd,ld_same,cel_same,over]
   refine sbeat_ok (purgeS ss now) hsr x.id (addU now x.ttl) (rf_sess r8) r8.row.sn (by omega) fun h9 v9 r9=>?_
   unfold qrMZ
   simp -implicitDefEqProofs only[exV_0,exV_1,ov_s]
   rw[← e] at r9
   try simp only[thenM_n]
   refine fin h9 _ v9 (r9.back r8.ex) r9.ex ?_ ?_ ?_ ?_ ?_ ?_<;>simp[e]
  ·unfold qqSZ
   simp -implicitDefEqProofs
   refine⟨fun hk3=>?_,fun hk3=>?_⟩
   ·have e:workS (purgeS ss now) x now most=clearS (purgeS ss now) x.id:=by simp[workS,hk3]
    unfold qqQZ
    simp -implicitDefEqProofs[ld_at c3,cel_of c3,stm_at c3,stm_upd,ld_same,cel_same,over]
    refine sclear_ok (purgeS ss now) hsr x.id (rf_sess r8) r8.row.sn (by omega) fun h9 v9 r9=>?_
    unfold qqPZ
    simp -implicitDefEqProofs only[exV_0,exV_1,ov_s]
    rw[← e] at r9
    try simp only[thenM_n]
    refine fin h9 _ v9 (r9.back r8.ex) r9.ex ?_ ?_ ?_ ?_ ?_ ?_<;>simp[e]
   ·have e:workS (purgeS ss now) x now most=(purgeS ss now,0):=by simp[workS,hk1,hk2,hk3]
    unfold qqRZ
    try simp only[thenM_n]
    refine fin h8 _ v8 (by rw[e]; exact r8) (Ext.refl _) ?_ ?_ ?_ ?_ ?_ ?_<;>simp[e]
end Go.Proofs.YtmbningljbcpkaaGreat
namespace Go.Proofs.YtmbningljbcpkaaGreat
open Go Go.Den Go.MapKept
set_option linter.unusedSimpArgs false
set_option linter.unusedVariables false
set_option maxRecDepth 20000
theorem row_ty {sz:Nat}{e e':TypeId}{h:Heap}{v:Value}{n:Nat}{xs:List Value}(r:Row sz e h v n xs){b:Nat}{c:Array Value}(hb:h b=some (.cells c e' (0,0)))(he:e≠e'):rowOf v≠some b:=fun hh=>by
 rcases r.2 with ⟨rfl,_⟩ | ⟨g,cap,cur,rfl,h1,_⟩
 ·simp -implicitDefEqProofs[rowOf] at hh
 ·simp -implicitDefEqProofs only[rowOf,Option.some.injEq] at hh
  subst hh
  rw[hb] at h1
  cases h1; exact he rfl
def swL (v5 v7 v10 l b:Nat)(av:Value):List Nat:=v5::v7::v10::l::b::(rowOf av).toList
structure SwJ (T:Tags)(h hB:Heap)(b0:Book)(now:Int)(v5 v7 v10 l b i:Nat)(h':Heap)(k v av:Value):Prop where
 kb:∀ q o,hB q=some o→q≠v7→q≠v10→h' q=some o
 c10:h' v10=some (.cells #[k,v] qaZ (0,0))
 bk:BookR (fz (tls T (swL v5 v7 v10 l b av)) h') k v (sweepTo b0 now i).1
 c7:h' v7=some (.cells #[av] qvZ (0,0))
 rw:Rf 7 qLZ h h' av (sweepTo b0 now i).2.length ((sweepTo b0 now i).2.flatMap chgC)
 nl:rowOf av≠some l
 nb:rowOf av≠some b
 nB:∀ q,rowOf av=some q→hB q=none
def SwI (T:Tags)(h hB:Heap)(b0:Book)(now:Int)(v5 v7 v10 l b i:Nat)(h':Heap):Prop:=∃ k v av,SwJ T h hB b0 now v5 v7 v10 l b i h' k v av
theorem SwJ.keep {T:Tags}{h hB:Heap}{b0:Book}{now:Int}{v5 v7 v10 l b i:Nat}{h' h'':Heap}{k v av:Value}(x:SwJ T h hB b0 now v5 v7 v10 l b i h' k v av)(hl:hB l=none)(e:Ext h hB)(b7:∃ o,hB v7=some o)(b10:∃ o,hB v10=some o)(kp:Keep (some l) h' h'') :
  SwJ T h hB b0 now v5 v7 v10 l b i h'' k v av:=by
 have ne:∀ q,(∃ o,hB q=some o)→some q≠some l:=fun q ⟨o,ho⟩ hh=>by cases hh; rw[hl] at ho; cases ho
 exact⟨fun q o ho n7 n10=>kp q o (x.kb q o ho n7 n10) (ne q ⟨o,ho⟩),kp _ _ x.c10 (ne _ b10),x.bk.ext (fz_keep (by rw[tls_in (by simp[swL])]; simp) kp),kp _ _ x.c7 (ne _ b7),
  x.rw.keep kp (fresh_of e hl) x.nl,x.nl,x.nb,x.nB⟩
structure SwC (T:Tags)(h hB:Heap)(b0:Book)(Lv:List (List Value))(now:Int)(v1 v3 v5 v7 v10 l b i:Nat)(s2:Env)(h':Heap)(xb:Nat):Prop where
 j:SwI T h hB b0 now v5 v7 v10 l b i h'
 s3:s2 3=ptr v3
 s6:s2 6=ptr v7
 s7:s2 7=ptr v10
 s8:s2 8 = .string (b0.getD i (⟨#[]⟩,ent0)).1
 s9:s2 9=ptr xb
 cx:h' xb=some (.cells (Lv.getD i []).toArray qjZ (0,0))
 nl:xb≠l
def SwE (T:Tags)(h hB:Heap)(b0:Book)(Lv:List (List Value))(now:Int)(v1 v3 v5 v7 v10 l b i:Nat)(s2:Env)(h':Heap):Prop:=∃ xb,SwC T h hB b0 Lv now v1 v3 v5 v7 v10 l b i s2 h' xb
end Go.Proofs.YtmbningljbcpkaaGreat
namespace Go.Proofs.YtmbningljbcpkaaGreat
open Go Go.Den Go.MapKept
set_option linter.unusedSimpArgs false
set_option linter.unusedVariables false
set_option maxRecDepth 20000
set_option maxHeartbeats 2000000 in
theorem sweepBody {T:Tags}{h hB:Heap}(w:Wf T h){b0:Book}(bw:BkW b0)(hl:b0.length<100000)(hsz:∀ x∈b0,x.1.size≤maxLen)(hss:∀ x∈b0,x.2.ss.length<900000){Lv:List (List Value)}{now:Int}{v1 v3 v5 v7 v10:Nat}{F:Heap}(eF:∀ q o,F q=some o→hB q=some o∧q≠v7∧q≠v10)(el:El 4 EntR F Lv (b0.map (·.2)))
  (eB:Ext h hB) (c3:hB v3=some (.cells #[.int .u64 now] qarZ (0,0))) (n37:v3≠v7) (n310:v3≠v10) (b5:∃ o,hB v5=some o) (n57:v5≠v7) (n510:v5≠v10) (hv7:h v7=none) (hv10:h v10=none) (n710:v7≠v10)
  {i:Nat} (hi:i<b0.length) {l b:Nat} (hlB:hB l=none) (hbB:hB b=none) (b7:∃ o,hB v7=some o) (b10:∃ o,hB v10=some o) {s2:Env} {h3:Heap} (hl3:∃ o,h3 l=some o) (hb3:∃ o,h3 b=some o) {xb:Nat} (C:SwC T h hB b0 Lv now v1 v3 v5 v7 v10 l b i s2 h3 xb) :
  den P gd (rfB P qbtZ 0) [] s2 h3 (fun e _ _ h4=>h4 l=h3 l∧h4 b=h3 b∧match e with
   | .normal=>SwI T h hB b0 now v5 v7 v10 l b (i+1) h4
   | .ret=>(fun _ _ _ _=>False:Nat→Nat→Exit→Heap→Prop) l b .ret h4
   | .exit id=>(fun _ _ _ _=>False:Nat→Nat→Exit→Heap→Prop) l b (.exit id) h4
   | _=>False):=by
 rw[quFZ]
 unfold qqVZ
 obtain⟨⟨k,v,av,J⟩,s3,s6,s7,s8,s9,cx,nxl⟩:=C
 have ne:∀ q,(∃ o,hB q=some o)→∀ r,hB r=none→q≠r:=fun q ⟨o,ho⟩ r hr hh=>by subst hh; rw[hr] at ho; cases ho
 obtain⟨x,hx⟩:∃ x,b0.getD i (⟨#[]⟩,ent0)=x:=⟨_,rfl⟩
 have hxi:b0[i]=x:=by rw[← hx,List.getD_eq_getElem?_getD,List.getElem?_eq_getElem hi]; rfl
 have hxm:x∈b0:=hxi▸List.getElem_mem hi
 have hLi:i<Lv.length:=by rw[el.len]; simpa using hi
 have hLv:Lv.getD i []=Lv[i]:=by rw[List.getD_eq_getElem?_getD,List.getElem?_eq_getElem hLi]; rfl
 obtain⟨sv,hc,hsv,hsn⟩:=el.el i hLi (by simpa using hi)
 simp -implicitDefEqProofs only[List.getElem_map,hxi] at hc hsv
 rw[hLv,hc] at cx
 rw[hx] at s8
 have eF3:Ext F h3:=fun q o e=>by obtain⟨q1,q2,q3⟩:=eF q o e; exact J.kb q o q1 q2 q3
 have c33:h3 v3=_:=J.kb _ _ c3 n37 n310
 have cx':=cx
 simp -implicitDefEqProofs only[presC] at cx'
 have c10:=J.c10
 simp -implicitDefEqProofs[s7,s9,s3,ld_at c10,cel_of c10,stm_at c10,ld_at cx',cel_of cx',stm_at cx',ld_at c33,cel_of c33,stm_at c33,stm_upd,ld_same,cel_same,over]
 refine purge_ok x.2.ss now (hsv.ext (R:=SessR) (@SessR.ext) eF3) hsn (by have:=hss x hxm; omega) fun h4 pv r4=>?_
 have c10:=r4.ex _ _ c10
 have c33:=r4.ex _ _ c33
 simp -implicitDefEqProofs[s8,ld_at c10,cel_of c10,stm_at c10,ld_at c33,cel_of c33,stm_at c33,stm_upd,ld_same,cel_same,over]
 have hin:∀ q∈swL v5 v7 v10 l b av,∃ o,h3 q=some o:=fun q hq=>by
  simp -implicitDefEqProofs only[swL,List.mem_cons,Option.mem_toList] at hq
  rcases hq with rfl | rfl | rfl | rfl | rfl | hq
  ·obtain⟨o,ho⟩:=b5; exact⟨o,J.kb _ _ ho n57 n510⟩
  ·exact⟨_,J.c7⟩
  ·exact⟨_,J.c10⟩
  ·exact hl3
  ·exact hb3
  ·exact J.rw.row.lt q hq
 have w3:Wf (tls T (swL v5 v7 v10 l b av)) h3:=wf_tls (w.ext J.rw.ex) hin
 obtain⟨bu1,bu2⟩:=bw.us x hxm
 have hpl:(purgeS x.2.ss now).length≤x.2.ss.length:=List.length_filter_le _ _
 have hsl:=sweep_len bw (now:=now) (n:=i) (by omega)
 have hcl:=sweep_chg b0 now i
 have hsc:=sweep_chg b0 now (i+1)
 have hst:sweepTo b0 now (i+1)=((settleB (sweepTo b0 now i).1 x.1 (purgeS x.2.ss now) now).1,(sweepTo b0 now i).2++(settleB (sweepTo b0 now i).1 x.1 (purgeS x.2.ss now) now).2):=by simp only[sweepTo,hx]
 refine settle_ok (sweepTo b0 now i).1 (bw.sweepTo now i (by omega)) x.1 (hsz x hxm) (purgeS x.2.ss now) now (w3.ext r4.ex) (J.bk.ext (fz_of_ext r4.ex)) (rf_sl r4 w3) r4.row.sn (by omega) (by have:=hss x hxm; omega) fun h5 k' v' cv e5 hb5 hc5=>?_
 have c7:=e5 _ _ (r4.ex _ _ J.c7)
 have c10:=e5 _ _ c10
 have p1:=hb5.1.one
 have p2:=hb5.2.1.one
 have ra:=((J.rw.ext r4.ex).ext e5)
 have oav:=ra.row.one
 simp -implicitDefEqProofs[s7,s6,ld_at c10,cel_of c10,stm_at c10,ld_at c7,cel_of c7,stm_at c7,stm_skip n710,stm_skip (Ne.symm n710),ld_skip n710,ld_skip (Ne.symm n710),cel_skip n710,cel_skip (Ne.symm n710),stm_upd,ld_same,cel_same,over,p1.1,p2.1]
 -- the book lies in its variable
 have eu:∀ q o,h5 q=some o→q≠v10→upd h5 v10 (.cells #[k',v'] qaZ (0,0)) q=some o:=fun q o ho hq=>by rw[upd_ne hq]; exact ho
 have c7u:=eu _ _ c7 n710
 have c10u:=upd_same' h5 v10 (.cells #[k',v'] qaZ (0,0))
 have nr10:rowOf av≠some v10:=row_ty ra.row c10 (by decide)
 have nr7:rowOf av≠some v7:=row_ty ra.row c7 (by decide)
 have ru:=ra.skip (o:=.cells #[k',v'] qaZ (0,0)) hv10 nr10
 have hbu:BookR (fz (tls T (swL v5 v7 v10 l b av)) (upd h5 v10 (.cells #[k',v'] qaZ (0,0)))) k' v' _:=hb5.ext (fz_of fun q hq=>⟨hq,fun o ho=>eu q o ho fun hh=>(tls_nil hq).1 (by simp[swL,hh])⟩)
 have hcu:Sl 7 ChgR (upd h5 v10 (.cells #[k',v'] qaZ (0,0))) cv _:=(hc5.ext (R:=ChgR) (@ChgR.ext) (h':=fz (tls T (swL v5 v7 v10 l b av)) (upd h5 v10 (.cells #[k',v'] qaZ (0,0)))) (fz_of fun q hq=>⟨hq,fun o ho=>eu q o ho fun hh=>(tls_nil hq).1 (by simp[swL,hh])⟩)).ext (R:=ChgR) (@ChgR.ext) (fz_ext _ _)
 have old:∀ q o,h3 q=some o→q≠v10→upd h5 v10 (.cells #[k',v'] qaZ (0,0)) q=some o:=fun q o ho hq=>eu q o (e5 _ _ (r4.ex _ _ ho)) hq
 generalize upd h5 v10 _=h6 at *
 have hlen2:(sweepTo b0 now i).2.length+(settleB (sweepTo b0 now i).1 x.1 (purgeS x.2.ss now) now).2.length≤i+1:=by
  have:=hsc; rw[hst] at this; simpa using this
 refine Rf.app2 unSlChg apChg (by omega) ru (chg_els hcu) (flatC_one _) (by unfold maxLen; omega) (by omega) fun av' h7 r7 kp7 ha=>?_
 have c7':=kp7 _ _ c7u nr7
 have c10':=kp7 _ _ c10u nr10
 have oav':=r7.row.one
 have exi:∀ q,(∃ o,h3 q=some o)→q≠v10→rowOf av≠some q→rowOf av'≠some q:=fun q ⟨o,ho⟩ hq hn hh=>by
  rcases ha with ha | ⟨r,ha,hr⟩
  ·exact hn (by rw[← ha]; exact hh)
  ·rw[ha] at hh; cases hh; rw[old q o ho hq] at hr; cases hr
 have nl':=exi l hl3 (fun hh=>ne v10 b10 l hlB hh.symm) J.nl
 have nb':=exi b hb3 (fun hh=>ne v10 b10 b hbB hh.symm) J.nb
 have n7':rowOf av'≠some v7:=row_ty r7.row c7' (by decide)
 simp -implicitDefEqProofs[s6,ld_at c7',cel_of c7',stm_at c7',stm_upd,ld_same,cel_same,over,oav'.1,oav'.2]
 obtain⟨ol,hol⟩:=hl3
 obtain⟨ob,hob⟩:=hb3
 have l7:l≠v7:=fun hh=>ne v7 b7 l hlB hh.symm
 have l10:l≠v10:=fun hh=>ne v10 b10 l hlB hh.symm
 have bb7:b≠v7:=fun hh=>ne v7 b7 b hbB hh.symm
 have bb10:b≠v10:=fun hh=>ne v10 b10 b hbB hh.symm
 have keep:∀ q o,h3 q=some o→q≠v10→q≠v7→rowOf av≠some q→upd h7 v7 (.cells #[av'] qvZ (0,0)) q=some o:=fun q o ho h10 h7' hn=>by
  rw[upd_ne h7']; exact kp7 q o (old q o ho h10) hn
 refine⟨by rw[hol]; exact keep l ol hol l10 l7 J.nl,by rw[hob]; exact keep b ob hob bb10 bb7 J.nb,k',v',av',⟨fun q o ho q7 q10=>?_,by rw[upd_ne (Ne.symm n710)]; exact c10',?_,upd_same' _ _ _,?_,nl',nb',fun q hq=>?_⟩⟩
 ·exact keep q o (J.kb q o ho q7 q10) q10 q7 (fun hh=>by rw[J.nB q hh] at ho; cases ho)
 ·rw[hst]
  refine hbu.ext (fz_of2 fun q o hq ho=>?_)
  obtain⟨q1,q2⟩:=tls_nil hq
  simp -implicitDefEqProofs only[swL,List.mem_cons,Option.mem_toList,not_or] at q1
  obtain⟨n1,n2,n3,n4,n5,n6⟩:=q1
  have hn:rowOf av≠some q:=n6
  refine⟨?_,by rw[upd_ne n2]; exact kp7 q o ho hn⟩
  rw[tls_out,q2]
  simp -implicitDefEqProofs only[swL,List.mem_cons,Option.mem_toList,not_or]
  refine⟨n1,n2,n3,n4,n5,fun hh=>?_⟩
  rcases ha with ha | ⟨r,ha,hr⟩
  ·exact hn (by rw[← ha]; exact hh)
  ·rw[ha] at hh; cases hh; rw[hr] at ho; cases ho
 ·rw[hst]
  have:=r7.skip (o:=.cells #[av'] qvZ (0,0)) hv7 n7'
  rw[List.length_append,List.flatMap_append]
  exact this
 ·cases hq0:hB q with
  | none=>rfl
  | some o =>
   exfalso
   rcases ha with ha | ⟨r,ha,hr⟩
   ·rw[J.nB q (by rw[← ha]; exact hq)] at hq0; cases hq0
   ·rw[ha] at hq; cases hq
    by_cases h1:q=v7
    ·subst h1; rw[hr] at c7u; cases c7u
    ·by_cases h2:q=v10
     ·subst h2; rw[hr] at c10u; cases c10u
     ·rw[old q o (J.kb q o hq0 h1 h2) h2] at hr; cases hr
end Go.Proofs.YtmbningljbcpkaaGreat
namespace Go.Proofs.YtmbningljbcpkaaGreat
open Go Go.Den Go.MapKept
set_option linter.unusedSimpArgs false
set_option linter.unusedVariables false
set_option maxRecDepth 20000
theorem zcSlChg:zc P qvZ=some #[.slice none 0 0]:=by kernel_rfl
theorem tgSlChg:tagg P qvZ=some none:=by kernel_rfl
variable {K:KTy}
set_option maxHeartbeats 2000000 in
theorem bsweep_ok (b0:Book)(bw:BkW b0)(hl:b0.length<100000)(hsz:∀ x∈b0,x.1.size≤maxLen)(hss:∀ x∈b0,x.2.ss.length<900000)(now:Int){T:Tags}{h:Heap}(w:Wf T h){kw vw:Value}(x:BookR (fz T h) kw vw b0)
  (hk:∀ h' k v cv,Ext h h'→BookR (fz T h') k v (sweepB b0 now).1→Sl 7 ChgR (fz T h') cv (sweepB b0 now).2→K (.tuple #[.agg #[k,v],cv]) h'):callM P qbtZ #[.agg #[kw,vw],.int .u64 now] h K:=by
 apply quYZ
 unfold qqxZ
 rw[zcMap,zcSlChg]
 refine nw_agg fun v1 h1 n1 e1 c1=>?_
 simp -implicitDefEqProofs only[nwM_s,cells_i]
 intro v3 n3
 have e3:Ext h1 (upd h1 v3 _):=Ext.upd n3 (.cells #[.int .u64 now] qarZ (0,0))
 have c3:=upd_same' h1 v3 (.cells #[.int .u64 now] qarZ (0,0))
 generalize upd h1 v3 _=h3 at *
 intro v5 n5
 have e5:Ext h3 (upd h3 v5 _):=Ext.upd n5 (.cells #[.slice none 0 0,.slice none 0 0] qaZ (0,0))
 have c5:=upd_same' h3 v5 (.cells #[.slice none 0 0,.slice none 0 0] qaZ (0,0))
 generalize upd h3 v5 _=h5 at *
 intro v7 n7
 have e7:Ext h5 (upd h5 v7 _):=Ext.upd n7 (.cells #[.slice none 0 0] qvZ (0,0))
 have c7:=upd_same' h5 v7 (.cells #[.slice none 0 0] qvZ (0,0))
 generalize upd h5 v7 _=h7 at *
 have c1:=e7 _ _ (e5 _ _ (e3 _ _ c1))
 have c3:=e7 _ _ (e5 _ _ c3)
 have n37:v3≠v7:=ne_fresh (e5 _ _ ‹_›) n7
 have n57:v5≠v7:=ne_fresh c5 n7
 have c5:=e7 _ _ c5
 have e0:=((e1.trans e3).trans e5).trans e7
 have hv7:h v7=none:=fresh_of ((e1.trans e3).trans e5) n7
 have hv5:h v5=none:=fresh_of (e1.trans e3) n5
 have o1:=x.1.one
 have o2:=x.2.1.one
 have hag:ldV (some (some 2)) (ptr v1) h7=some (.agg #[kw,vw]):=by simp[ld_at c1]
 simp -implicitDefEqProofs only[hag,ov_s]
 intro v10 n10
 simp -implicitDefEqProofs[stm_upd,ld_same,cel_same,over,o1.1,o2.1]
 have e10:Ext h7 (upd h7 v10 _):=Ext.upd n10 (.cells #[kw,vw] qaZ (0,0))
 have c10:=upd_same' h7 v10 (.cells #[kw,vw] qaZ (0,0))
 generalize upd h7 v10 _=h10 at *
 have n710:v7≠v10:=ne_fresh c7 n10
 have n310:v3≠v10:=ne_fresh c3 n10
 have n510:v5≠v10:=ne_fresh c5 n10
 have c1:=e10 _ _ c1
 have c3:=e10 _ _ c3
 have c5:=e10 _ _ c5
 have c7:=e10 _ _ c7
 have hv10:h v10=none:=fresh_of e0 n10
 have e0:=e0.trans e10
 rw[seqM_eq]
 unfold qrUZ
 have hag:ldV (some (some 2)) (ptr v1) h10=some (.agg #[kw,vw]):=by simp[ld_at c1]
 simp -implicitDefEqProofs only[hag,ov_s]
 refine all_ok b0 ((fz_ext T h).trans e0) x fun pA hB nA eA cA=>?_
 have nA7:v7≠pA:=ne_fresh c7 nA
 have nA10:v10≠pA:=ne_fresh c10 nA
 have nA5:v5≠pA:=ne_fresh c5 nA
 have c3:=eA _ _ c3
 have c5:=eA _ _ c5
 have c7:=eA _ _ c7
 have c10:=eA _ _ c10
 have e0:=e0.trans eA
 -- what nobody changes
 obtain⟨Lv,l1,l2⟩:=x.2.1.els EntR.one
 simp -implicitDefEqProofs only[List.length_map] at l1
 have wB:=w.ext e0
 have hall:∀ q∈[v5,v7,v10],h q=none:=fun q hq=>by
  simp -implicitDefEqProofs only[List.mem_cons,List.not_mem_nil,or_false] at hq
  rcases hq with rfl | rfl | rfl
  ·exact hv5
  ·exact hv7
  ·exact hv10
 have tA:T pA=[]:=w pA (fresh_of ‹Ext h h10› nA)
 have F1:Ext (fz T h) (fz (tls T [v5,v7,v10]) hB):=fz_tls hall e0
 have FA:fz (tls T [v5,v7,v10]) hB pA=some (.cells #[kw,vw] qaZ (0,0)):=by
  refine fz_at cA ?_
  rw[tls_out (by simp; exact⟨Ne.symm nA5,Ne.symm nA7,Ne.symm nA10⟩)]
  exact tA
 unfold qrTZ
 refine rf_go good mixed rfl (by kernel_rfl) (all_it b0 (hA:=fz (tls T [v5,v7,v10]) hB) (p:=pA) (kw:=kw) (vw:=vw) (Lv:=Lv) FA (x.ext F1) (l1.ext F1) l2.size (by simpa using l2.len))
  (fun l b i h'=>SwI T h hB b0 now v5 v7 v10 l b i h') (fun _ _ _ _=>False) (fun l b i s2 h'=>SwE T h hB b0 Lv now v1 v3 v5 v7 v10 l b i s2 h') ?_ ?_ ?_ (fun _ _ _ _ _ _ _ h _=>h) ?_ ?_ ?_ ?_ ?_ (fun _ _ _ _ _ _ _ h=>h.elim) (fun _ _ _ _ _ _ _ _ h=>h.elim)
 ·intro l b hl hb
  refine⟨kw,vw,.slice none 0 0,fun q o ho _ _=>ho,c10,?_,c7,Rf.nil e0,by simp[rowOf],by simp[rowOf],fun q hq=>by simp[rowOf] at hq⟩
  refine x.ext (fz_tls (fun q hq=>?_) e0)
  simp -implicitDefEqProofs only[swL,rowOf,Option.toList,List.mem_cons,List.not_mem_nil,or_false] at hq
  rcases hq with rfl | rfl | rfl | rfl | rfl
  ·exact hv5
  ·exact hv7
  ·exact hv10
  ·exact fresh_of e0 hl
  ·exact fresh_of e0 hb
 ·rintro l b i h' ⟨k,v,av,J⟩ q o hq
  have hq':hB q=some o:=fz_ext _ _ _ _ hq
  have hn:q ∉ [v5,v7,v10]:=fun hm=>by
   unfold fz at hq; rw[tls_in hm] at hq; simp at hq
  simp -implicitDefEqProofs only[List.mem_cons,List.not_mem_nil,or_false,not_or] at hn
  exact J.kb q o hq' hn.2.1 hn.2.2
 ·rintro l b hl hb i h' h'' ⟨k,v,av,J⟩ kp
  exact⟨k,v,av,J.keep hl e0 ⟨_,c7⟩ ⟨_,c10⟩ kp⟩
 ·rintro l b i s2 ha hb' hl hb ⟨xb,C⟩ kp
  obtain⟨⟨k,v,av,J⟩,q3,q6,q7,q8,q9,qx,qn⟩:=C
  exact⟨xb,⟨k,v,av,J.keep hl e0 ⟨_,c7⟩ ⟨_,c10⟩ kp⟩,q3,q6,q7,q8,q9,kp _ _ qx (by simpa using qn),qn⟩
 ·intro i hi; simp[allX]
 ·rintro i hi l b h2 hl hb ⟨ol,hol⟩ ⟨ob,hob⟩ ⟨k,v,av,J⟩
  rw[quEZ]
  unfold qqUZ
  rw[zcEnt]
  have hi':i<b0.length:=by simpa [allX] using hi
  have hLi:i<Lv.length:=by rw[l2.len]; simpa using hi'
  have hxi:(allX b0 Lv)[i]=#[.string (b0.getD i (⟨#[]⟩,ent0)).1,.agg (Lv.getD i []).toArray]:=by simp[allX]
  have hLv:Lv.getD i []=Lv[i]:=by rw[List.getD_eq_getElem?_getD,List.getElem?_eq_getElem hLi]; rfl
  have hsz4:(Lv.getD i []).length=4:=by rw[hLv]; exact l2.size _ (List.getElem_mem _)
  have hone:∀ u∈Lv.getD i [],u.oneCell'=true:=by rw[hLv]; exact l2.one _ (List.getElem_mem hLi)
  rw[hxi]
  obtain⟨c0,hc0⟩:∃ c,Lv.getD i []=c:=⟨_,rfl⟩
  obtain⟨k0,hk0⟩:∃ k,(b0.getD i (⟨#[]⟩,ent0)).1=k:=⟨_,rfl⟩
  rw[hc0,hk0]
  rw[hc0] at hsz4 hone
  simp -implicitDefEqProofs
  refine nw_st rfl (by simpa using hsz4) (by simpa using hone) fun xb h4 n4 e4 c4=>?_
  have nx:xb≠l:=fun hh=>by subst hh; rw[hol] at n4; cases n4
  refine⟨⟨xb,⟨k,v,av,?_⟩,?_,?_,?_,?_,?_,?_,nx⟩,by rw[hol,e4 _ _ hol],by rw[hob,e4 _ _ hob]⟩
  ·exact⟨fun q o ho n7 n10=>e4 _ _ (J.kb q o ho n7 n10),e4 _ _ J.c10,J.bk.ext (fz_of_ext e4),e4 _ _ J.c7,J.rw.ext e4,J.nl,J.nb,J.nB⟩
  ·simp -implicitDefEqProofs
  ·simp -implicitDefEqProofs
  ·simp -implicitDefEqProofs
  ·rw[hk0]; simp
  ·simp -implicitDefEqProofs
  ·rw[c4,hc0,cells_agg]
 ·rintro i hi l b s2 h3 hl9 hb hl3 hb3 ⟨xb,C⟩
  have hi':i<b0.length:=by simpa [allX] using hi
  refine sweepBody w bw hl hsz hss (F:=fz (tls T [v5,v7,v10]) hB) ?_ (l2.ext (@EntR.ext) F1) e0 c3 n37 n310 ⟨_,c5⟩ n57 n510 hv7 hv10 n710 hi' hl9 hb ⟨_,c7⟩ ⟨_,c10⟩ hl3 hb3 C
  intro q o hq
  have hn:q ∉ [v5,v7,v10]:=fun hm=>by
   unfold fz at hq; rw[tls_in hm] at hq; simp at hq
  simp -implicitDefEqProofs only[List.mem_cons,List.not_mem_nil,or_false,not_or] at hn
  exact⟨fz_ext _ _ _ _ hq,hn.2.1,hn.2.2⟩
 ·intro l b h' hl9 hlb hb hd hJ
  obtain⟨k,v,av,J⟩:=hJ
  have hlen:(allX b0 Lv).length=b0.length:=by simp[allX]
  rw[hlen] at J
  have c5':=J.kb _ _ c5 n57 n510
  have c7':=J.c7
  have c10':=J.c10
  have p1:=J.bk.1.one
  have p2:=J.bk.2.1.one
  have oav:=J.rw.row.one
  have nb5:v5≠b:=fun hh=>by subst hh; rw[c5] at hb; cases hb
  have nr5:rowOf av≠some v5:=row_ty J.rw.row c5' (by decide)
  have hbh:h b=none:=fresh_of e0 hb
  simp -implicitDefEqProofs only[blkM_n,thenM_n]
  unfold qrVZ
  simp -implicitDefEqProofs[ld_at c10',cel_of c10',stm_at c10',ld_at c7',cel_of c7',stm_at c7',ld_at c5',cel_of c5',stm_at c5',stm_skip n57,stm_skip (Ne.symm n57),ld_skip n57,ld_skip (Ne.symm n57),cel_skip n57,cel_skip (Ne.symm n57),stm_skip n510,stm_skip (Ne.symm n510),ld_skip n510,ld_skip (Ne.symm n510),cel_skip n510,cel_skip (Ne.symm n510),stm_upd,ld_same,cel_same,over,p1.1,p2.1,hd,tgMap,tgSlChg,upd_ne (Ne.symm nb5),ld_skip nb5]
  refine hk _ k v av (ext_upd hbh (ext_upd hv5 J.rw.ex)) (J.bk.ext ?_) ?_
  ·refine fz_untls fun q o hq ho=>?_
   simp -implicitDefEqProofs only[swL,List.mem_cons,Option.mem_toList,not_or] at hq
   rw[upd_ne hq.2.2.2.2.1,upd_ne hq.1]; exact ho
  ·have r:=(J.rw.skip (o:=.cells #[k,v] qaZ (0,0)) hv5 nr5).skip (o:=.deferred none) hbh J.nb
   have e7:(sweepB b0 now).2.flatMap chgC=((sweepB b0 now).2.map chgC).flatten:=List.flatMap_def
   have r:Rf 7 qLZ h _ av (sweepB b0 now).2.length ((sweepB b0 now).2.flatMap chgC):=r
   rw[e7] at r
   exact r.sl w (by simp) (El.enc (by simp[chgC,presC]) (fun y=>chgC_one y) (fun _ _=>rfl))
end Go.Proofs.YtmbningljbcpkaaGreat
namespace Go.Den
open Go
set_option linter.unusedVariables false
def endV (v:Int):Int:=if wrt v then v+1 else v
def Ring.put (r:Ring)(x:Evt):Ring:=if r.room≤r.l.length then { r with lost:=true } else { r with l:=r.l++[x] }
def qset (q:Nat→Ring)(i:Nat)(r:Ring):Nat→Ring:=fun k=>if k=i then r else q k
def clientB (who:Int):Bool:=decide (0≤who∧who<8)
def mbit (m who:Int):Bool:=m / 2 ^ who.toNat % 2 == 1
def Feed.watching (f:Feed)(who:Int)(u:ByteArray):Bool:=clientB who && mbit (valL 0 f.ws u) who
def Feed.tell1 (f:Feed)(c:Chg)(seq:Int):Nat→Feed
 | 0=>f
 | n+1=>let g:=f.tell1 c seq n; if f.watching n c.user then { g with qs:=qset g.qs n ((g.qs n).put ⟨c.user,c.old,c.new,seq⟩) } else g
def Feed.tell (f:Feed)(l:List Chg)(seq:Int):Feed:=l.foldl (fun f c=>f.tell1 c seq 8) f
theorem tell1_ws (f:Feed)(c:Chg)(seq:Int):∀ n,(f.tell1 c seq n).ws=f.ws
 | 0=>rfl
 | n+1=>by
  have ih:=tell1_ws f c seq n
  simp only[Feed.tell1]
  split<;>exact ih
def RiG (r:Ring):Prop:=0≤r.room∧r.room≤16∧r.l.length≤16
structure FdG (f:Feed):Prop where
 so:SrtK (keysL f.ws)
 len:f.ws.length<1000000
 ms:∀ x∈f.ws,0≤x.2∧x.2<4294967296
 qs:∀ j,j<8→RiG (f.qs j)
theorem RiG.put {r:Ring}(g:RiG r)(x:Evt):RiG (r.put x):=by
 obtain⟨h1,h2,h3⟩:=g
 unfold Ring.put
 split
 ·exact⟨h1,h2,h3⟩
 ·refine⟨h1,h2,?_⟩
  simp only[List.length_append,List.length_cons,List.length_nil]; omega
theorem FdG.tell1 {f:Feed}(g:FdG f)(c:Chg)(seq:Int):∀ n,FdG (f.tell1 c seq n)
 | 0=>g
 | n+1=>by
  have ih:=FdG.tell1 g c seq n
  simp only[Feed.tell1]
  split
  ·refine⟨ih.so,ih.len,ih.ms,fun j hj=>?_⟩
   simp only[qset]
   split
   ·rename_i h; subst h; exact (ih.qs _ hj).put _
   ·exact ih.qs j hj
  ·exact ih
theorem FdG.tell {f:Feed}(g:FdG f)(seq:Int):∀ l:List Chg,FdG (f.tell l seq):=by
 intro l
 unfold Feed.tell
 induction l generalizing f with
 | nil=>exact g
 | cons c l ih=>exact ih (g.tell1 c seq 8)
end Go.Den
namespace Go.Den
open Go
theorem bin_shr32 (t:Nat)(c:Bool){m n:Int}(h0:0≤n)(h1:n<8)(hm:0≤m):binV .shr t c (.int .u32 m) (.int .i64 n)=some (.int .u32 (m / 2 ^ n.toNat)):=by
 have:m.fdiv (2 ^ n.toNat)=m / 2 ^ n.toNat:=Int.fdiv_eq_ediv_of_nonneg _ (Int.pow_nonneg (by omega))
 simp[binV,intV,IntKind.bits,this]
 exact⟨h0,by rw[Nat.min_eq_left (by omega),this]⟩
theorem wrapU32_id {n:Int}(h0:0≤n)(h1:n<4294967296):IntKind.u32.wrap n=n:=by
 simp only[IntKind.wrap,IntKind.bits,IntKind.signed]
 simp
 omega
theorem bin_and32 (t:Nat)(c:Bool){b:Int}(hb:0≤b)(h2:b<4294967296):binV .and t c (.int .u32 b) (.int .u32 1)=some (.int .u32 (b % 2)):=by
 have h:binV .and t c (.int .u32 b) (.int .u32 1)=some (.int .u32 (IntKind.u32.wrap (BitVec.ofInt 32 b &&& BitVec.ofInt 32 1).toNat)):=rfl
 obtain⟨n,rfl⟩:∃ n:Nat,b=n:=⟨b.toNat,by omega⟩
 have e:(BitVec.ofInt 32 (n:Int) &&& BitVec.ofInt 32 1).toNat=n % 2:=by
  rw[BitVec.toNat_and]
  have:(BitVec.ofInt 32 (n:Int)).toNat=n:=by simp; omega
  rw[this]
  have:(BitVec.ofInt 32 1).toNat=1:=by rfl
  rw[this,Nat.and_one_is_mod]
 rw[h,e,wrapU32_id (by omega) (by omega)]
 congr 2
theorem valL_rng {b:List (ByteArray × Int)}{u:ByteArray}(h:∀ x∈b,0≤x.2∧x.2<4294967296):0≤valL 0 b u∧valL 0 b u<4294967296:=by
 induction b with
 | nil=>simp[valL]
 | cons x b ih =>
  obtain⟨k,e⟩:=x
  simp only[valL]
  split
  ·exact h (k,e) (by simp)
  ·exact ih fun x hx=>h x (by simp[hx])
end Go.Den
namespace Go.Proofs.YtmbningljbcpkaaGreat
open Go Go.Den Go.MapKept
set_option linter.unusedSimpArgs false
set_option linter.unusedVariables false
set_option maxRecDepth 20000
variable {K:KTy}
theorem end_ok (v b:Int)(hv:U64 v)(hw:wrt v=true→v<18446744073709551615){h:Heap}(hk:∀ h',Ext h h'→K (.agg (cellC (endV v) b).toArray) h'):callM P qlKZ #[.agg (cellC v b).toArray] h K:=by
 apply quDZ
 unfold qnIZ
 refine nw_agg fun v1 h1 n1 e1 c1=>?_
 rw[zcCell]
 refine nw_intro fun v3 h2 n3 e3 c3=>?_
 have hne:=ne_fresh c1 n3
 have c1:=e3 _ _ c1
 rw[seqM_eq]
 unfold qqdZ
 simp -implicitDefEqProofs only[ld_box c1 (n:=2) rfl,ov_s]
 refine writing_ok v b hv fun h3 e4=>?_
 have c1:=e4 _ _ c1
 have c3:=e4 _ _ c3
 have e0:=(e1.trans e3).trans e4
 have n3:=fresh_of e1 n3
 unfold qqcZ
 simp -implicitDefEqProofs only[cellC] at c1
 cases hb:wrt v with
 | true =>
  have hw:=hw hb
  have:IntKind.u64.wrap (v+1)=v+1:=wrapU_id (by have:=hv.1; omega) (by omega)
  unfold qqbZ
  simp -implicitDefEqProofs[ld_at c1,cel_of c1,stm_at c1,ld_at c3,cel_of c3,stm_at c3,stm_skip hne,stm_skip (Ne.symm hne),ld_skip hne,ld_skip (Ne.symm hne),cel_skip hne,cel_skip (Ne.symm hne),stm_upd,ld_same,cel_same,over,this,tgCell]
  exact kv (hk _ (ext_upd n1 (ext_upd n3 e0))) (by simp[cellC,endV,hb])
 | false =>
  simp -implicitDefEqProofs[ld_at c1,cel_of c1,stm_at c1,ld_at c3,cel_of c3,stm_at c3,stm_upd,ld_same,cel_same,over,tgCell]
  exact kv (hk _ (ext_upd n3 e0)) (by simp[cellC,endV,hb])
theorem bsEv:bsI P qfZ=some (qtZ,8,#[.string ⟨#[]⟩,.int .i64 0,.int .i64 0,.int .i64 0,.int .i64 0,.int .i64 0,.int .i64 0,.int .u64 0]):=by kernel_rfl
theorem unSlEv:P.underlying qfZ=some (.slice qtZ):=by kernel_rfl
theorem apEv:apC P qtZ=some (8,72,8):=by kernel_rfl
theorem evC_one (e:Evt):∀ u∈evC e,u.oneCell'=true:=fun u hu=>EvR.one (h:=fun _=>none) _ e rfl u hu
theorem put_ok (x:Evt){T:Tags}{h:Heap}{g:Tag}{p:Nat}{r:Ring}(w:Wf T h)(gg:Gd g)(xr:RingR T h g p r)(rg:RiG r)
  (hk:∀ T' h' b,Only (pre g) T h T' h'→RingR T' h' g p (r.put x)→K (.bool b) h'):callM P qdVZ #[ptr p,.agg (evC x).toArray] h K:=by
 apply qqjZ
 unfold qepZ
 refine nw_agg fun v1 h1 n1 e1 c1=>?_
 have o1:Only non T h T h1:=Only.of_ext w e1
 obtain⟨lv,cp,tp,rl⟩:=xr.kp o1.k (Off.non _)
 have cp0:=cp
 simp -implicitDefEqProofs only[ringC] at cp
 have hlen:=rl.len
 have hone:=rl.one
 simp -implicitDefEqProofs[ld_at cp,cel_of cp,stm_at cp,stm_upd,ld_same,cel_same,over,hlen]
 have od:∀ o',Only (pre g) T h T (upd h1 p o'):=fun o'=>(o1.mono non_up).st cp0 (tp▸pre_app _ _)
 refine⟨fun hc=>?_,fun hc=>?_⟩
 ·have e:r.put x={ r with lost:=true }:=by simp[Ring.put,hc]
  rw[e] at hk
  refine hk T _ false (od _) ⟨lv,by rw[upd_same']; rfl,tp,rl.kp (Only.upd (U:=fun t=>t=g++[0]) o1.wf cp0 tp).k (ne_tag (by simp))⟩
 ·have hc':¬ r.room≤(r.l.length:Int):=by omega
  have e:r.put x={ r with l:=r.l++[x] }:=by simp[Ring.put,hc']
  rw[e] at hk
  unfold qhnZ
  have hld:ldV (some (some 8)) (ptr v1) h1=some (.agg (evC x).toArray):=by simp[ld_at c1,evC,presC]
  simp -implicitDefEqProofs[ld_at cp,cel_of cp,stm_at cp,stm_upd,ld_same,cel_same,over,hld]
  refine bs_one bsEv (by simp[evC,presC]) (by omega) fun b h2 n2 e2 c2=>?_
  have o2:Only non T h1 T h2:=Only.of_ext o1.wf e2
  have cp2:=e2 _ _ cp
  refine⟨by simp[ld_at cp2,cel_of cp2,stm_at cp2,stm_upd,ld_same,cel_same,over],?_⟩
  refine Rw.app1 (m:=1) (news:=_) unSlEv apEv (by omega) o2.wf (rl.kp o2.k (not_non _)) (cels_one c2 (by simp[evC,presC])) (by simpa using evC_one x) (by unfold maxLen; have:=rg.2.2; omega) (by have:=rg.2.2; omega) fun lv' T3 h3 o3 r3=>?_
  have b3:=o3.k.at (e2 _ _ cp0) tp (ne_tag (by simp))
  have c3:=b3.1
  simp -implicitDefEqProofs only[ringC] at c3
  have ho:=r3.one
  simp -implicitDefEqProofs[ld_at c3,cel_of c3,stm_at c3,stm_upd,ld_same,cel_same,over,ho.1,ho.2]
  have oe:∀ o',Only (pre g) T h T3 (upd h3 p o'):=fun o'=>(((o1.mono non_up).up o2 non_up).up o3 fun t=>eq_pre).st b3.1 (b3.2▸pre_app _ _)
  refine hk T3 _ true (oe _) ⟨lv',by rw[upd_same']; simp[ringC],b3.2,?_⟩
  have:=r3.kp (Only.upd (U:=fun t=>t=g++[0]) (o':=.cells #[.int .i64 r.room,lv',.bool r.lost] qQZ (0,0)) o3.wf b3.1 b3.2).k (ne_tag (by simp))
  simpa using this
theorem client_ok (who:Int){h:Heap}(hk:K (.bool (clientB who)) h):callM P qpbZ #[.int .i64 who] h K:=by
 apply quTZ
 unfold qpWZ
 simp +contextual -implicitDefEqProofs
 exact kb hk (by unfold clientB; rw[Bool.decide_and])
theorem watching_ok (who:Int)(u:ByteArray){T:Tags}{h:Heap}{g:Tag}{p:Nat}{f:Feed}(x:FeedR T h g p f)(fg:FdG f)
  (hk:∀ h',Ext h h'→K (.bool (f.watching who u)) h'):callM P qfOZ #[ptr p,.int .i64 who,.string u] h K:=by
 apply qsqZ
 unfold qhRZ
 obtain⟨kw,vw,q,cp,tp,x1,x2,xq,s1,s2⟩:=x
 have hag:ldV (some (some 2)) (ptr p) h=some (.agg #[kw,vw]):=by simp[ld_at cp,feedC,feedG,List.range_succ]
 simp -implicitDefEqProofs[hag]
 refine mget_ok f.ws fg.so u (fz_ext T h) ⟨x1,x2,s1,s2⟩ fg.len fun h1 e1=>?_
 unfold qlpZ
 simp -implicitDefEqProofs only[exV_0,exV_1,ov_s]
 refine client_ok who ?_
 unfold qloZ
 obtain⟨m0,m1⟩:=valL_rng (u:=u) fg.ms
 cases hc:clientB who with
 | false =>
  simp -implicitDefEqProofs
  exact kb (hk _ e1) (by simp[Feed.watching,hc])
 | true =>
  have hc':0≤who∧who<8:=by simpa [clientB] using hc
  have m2:0≤valL 0 f.ws u / 2 ^ who.toNat:=Int.ediv_nonneg m0 (Int.pow_nonneg (by omega))
  have m3:valL 0 f.ws u / 2 ^ who.toNat<4294967296:=Int.lt_of_le_of_lt (Int.ediv_le_self _ m0) m1
  simp -implicitDefEqProofs[bin_shr32 _ _ hc'.1 hc'.2 m0,bin_and32 _ _ m2 m3]
  exact kb (hk _ e1) (by simp[Feed.watching,hc,mbit])
end Go.Proofs.YtmbningljbcpkaaGreat
namespace Go.Proofs.YtmbningljbcpkaaGreat
open Go Go.Den Go.MapKept
set_option linter.unusedSimpArgs false
set_option linter.unusedVariables false
set_option maxRecDepth 20000
structure FeedX (T:Tags)(h:Heap)(g:Tag)(p:Nat)(f:Feed)(kw vw:Value)(q:Nat→Nat):Prop where
 hp:h p=some (.cells (feedC kw vw fun j=>ptr (q j)).toArray qexZ (0,0))
 tp:T p=g++[0]
 x1:Sl 1 StrR (fz T h) kw (f.ws.map (·.1))
 x2:Sl 1 MaskR (fz T h) vw (f.ws.map (·.2))
 xq:∀ j,j<8→RingR T h (g++[1,j]) (q j) (f.qs j)
 s1:Sn kw
 s2:Sn vw
theorem FeedX.r {T:Tags}{h:Heap}{g:Tag}{p:Nat}{f:Feed}{kw vw:Value}{q:Nat→Nat}(x:FeedX T h g p f kw vw q):FeedR T h g p f:=⟨kw,vw,q,x.hp,x.tp,x.x1,x.x2,x.xq,x.s1,x.s2⟩
theorem FeedX.kp {U:Tag→Prop}{T T':Tags}{h h':Heap}{g:Tag}{p:Nat}{f:Feed}{kw vw:Value}{q:Nat→Nat}(x:FeedX T h g p f kw vw q)(k:Kp U T h T' h')(o:Off U g)(n:¬ U []):FeedX T' h' g p f kw vw q :=
 ⟨(k.at x.hp x.tp (o.at _)).1,(k.at x.hp x.tp (o.at _)).2,x.x1.ext (@StrR.ext) (k.ext n),x.x2.ext (@MaskR.ext) (k.ext n),fun j hj=>(x.xq j hj).kp k (o.app _),x.s1,x.s2⟩
theorem chg_ld {F:Heap}{v:Value}{l:List Chg}(x:Sl 7 ChgR F v l){i:Nat}(hi:i<l.length){k:IntKind}:∃ b p,iaV (some (none,7)) v (.int k i)=some (.pointer (some ⟨b,p,none⟩))∧∀ h',Ext F h'→cels h' b p 7=some (chgC l[i]):=by
 obtain⟨b,p,c,h1,h2,h3⟩:=x.at (k:=k) (i:=i) (by omega) (by omega)
 refine⟨b,p,h1,fun h' e=>?_⟩
 have hc:c=chgC l[i]:=h3
 subst hc
 exact cels_ext e h2
theorem zcChg:zc P qLZ=some #[.string ⟨#[]⟩,.int .i64 0,.int .i64 0,.int .i64 0,.int .i64 0,.int .i64 0,.int .i64 0]:=by kernel_rfl
theorem bdEv (u:ByteArray)(a b c d e f s:Int):bdV (binf P qtZ) [(0,.string u),(1,.agg #[.int .i64 a,.int .i64 b,.int .i64 c]),(2,.agg #[.int .i64 d,.int .i64 e,.int .i64 f]),(3,.int .u64 s)] =
 some (.agg #[.string u,.int .i64 a,.int .i64 b,.int .i64 c,.int .i64 d,.int .i64 e,.int .i64 f,.int .u64 s]):=by kernel_rfl
theorem xa_q {q:Nat→Value}{n:Nat}(hn:n<8){k:IntKind}:xaV (some (none,8,1)) (.agg ((List.range 8).map q).toArray) (.int k n)=some (q n):=by
 have:(0:Int)≤n∧(n:Int)<8:=by omega
 simp -implicitDefEqProofs[xaV,this,fdV,hn]
def TellO (T:Tags)(h:Heap)(g:Tag)(p:Nat)(f:Feed)(l:List Chg)(seq:Int)(v:Value)(h':Heap):Prop :=
 ∃ (T':Tags) (i:Nat),Only (pre g) T h T' h'∧FeedR T' h' g p (f.tell (l.take i) seq)∧i≤l.length∧v = .int .i64 i
def TellI (T:Tags)(h:Heap)(g:Tag)(p:Nat)(f:Feed)(c:Chg)(seq:Int)(kw vw:Value)(q:Nat→Nat)(cb:Nat)(v:Value)(h':Heap):Prop :=
 ∃ (T':Tags) (n:Nat),Only (pre g) T h T' h'∧FeedX T' h' g p (f.tell1 c seq n) kw vw q∧T' cb=[]∧h' cb=some (.cells (chgC c).toArray qLZ (0,0))∧n≤8∧v = .int .i64 n
theorem tell_succ (f:Feed)(l:List Chg)(seq:Int){i:Nat}(hi:i<l.length):f.tell (l.take (i+1)) seq=(f.tell (l.take i) seq).tell1 l[i] seq 8:=by
 rw[List.take_succ_eq_append_getElem hi]
 simp -implicitDefEqProofs only[Feed.tell,List.foldl_append,List.foldl_cons,List.foldl_nil]
variable {K:KTy}
set_option maxHeartbeats 2000000 in
theorem tell_ok (l : List Chg) (seq : Int) {T : Tags} {h : Heap} {g : Tag} {p : Nat} {f : Feed} (w : Wf T h) (gg : Gd g) (x : FeedR T h g p f) (fg : FdG f) {cv : Value} (cx : Sl 7 ChgR (fz T h) cv l) (hl : l.length < 1000000)
    (hk : ∀ T' h', Only (pre g) T h T' h' → FeedR T' h' g p (f.tell l seq) → K (.tuple #[]) h') : callM P qeaZ #[ptr p, cv, .int .u64 seq] h K := by
  apply quxZ
  unfold qlRZ
  have hlen := cx.len
  simp -implicitDefEqProofs only [hlen, ov_s]
  refine loop_on [0, 2, 10, 11] (fun s h' => TellO T h g p f l seq (s 12) h') (fun s _ => (l.length - num (s 12)).toNat) ⟨T, 0, Only.refl w, by simpa [Feed.tell] using x, by omega, rfl⟩ ?_
  rintro s h1 hf ⟨T1, i, o1, x1, hi, s12⟩
  have s0 : s 0 = ptr p := by simpa using hf 0 (by simp)
  have s2 : s 2 = .int .u64 seq := by simpa using hf 2 (by simp)
  have s10 : s 10 = cv := by simpa using hf 10 (by simp)
  have s11 : s 11 = .int .i64 l.length := by simpa using hf 11 (by simp)
  unfold qpLZ
  simp -implicitDefEqProofs only [s12, s11, bin_lss, ov_s, cd_b]
  refine ⟨fun hc => ?_, fun hc => ?_⟩
  rotate_left
  · have : i = l.length := by have : ¬ ((i : Int) < l.length) := by simpa using hc
                              omega
    subst this
    rw [List.take_length] at x1
    simp -implicitDefEqProofs
    exact hk T1 h1 o1 x1
  have hlt : i < l.length := by have : ((i : Int) < l.length) := by simpa using hc
                                omega
  have hw : IntKind.i64.wrap ((i : Int) + 1) = (i + 1 : Nat) := by rw [wrap64_id (by omega) (by omega)]; omega
  unfold qpKZ
  rw [seqM_eq]
  unfold qpJZ
  obtain ⟨b, o, i1, i2⟩ := chg_ld cx (k := .i64) hlt
  simp -implicitDefEqProofs only [s10, s12, i1, ov_s, ldV_n (i2 _ ((o1.ext gg.nil).trans (fz_ext _ _))), zcChg]
  obtain ⟨c, hcc⟩ : ∃ c, l[i] = c := ⟨_, rfl⟩
  have hs1 := tell_succ f l seq hlt
  obtain ⟨f1, hf1⟩ : ∃ f1, f.tell (l.take i) seq = f1 := ⟨_, rfl⟩
  have fg1 : FdG f1 := hf1 ▸ fg.tell seq _
  rw [hf1] at x1 hs1
  rw [hcc] at hs1 ⊢
  simp -implicitDefEqProofs only [chgC, presC, List.cons_append, List.nil_append]
  refine nw_st (by simp) (by simp) (by simp) fun cb h2 n2 e2 c2 => ?_
  simp -implicitDefEqProofs only [cells_agg] at c2
  have o2 : Only non T1 h1 T1 h2 := Only.of_ext o1.wf e2
  have tcb : T1 cb = [] := o1.wf cb n2
  obtain ⟨kw, vw, q, y1, y2, y3, y4, y5, y6, y7⟩ := x1.kp o2.k (Off.non _) (not_non _)
  have X : FeedX T1 h2 g p f1 kw vw q := ⟨y1, y2, y3, y4, y5, y6, y7⟩
  have hag : ldV (some (some 8)) (.pointer (some ⟨p, 2, none⟩)) h2 = some (.agg ((List.range 8).map fun j => ptr (q j)).toArray) := by simp [ld_at y1, feedC, feedG, List.range_succ]
  simp -implicitDefEqProofs only [s0, ncV_p, faV_p, ov_s, Nat.zero_add, hag]
  refine loop_on [0, 2, 7, 10, 11, 12, 19] (fun s' h' => TellI T h g p f1 c seq kw vw q cb (s' 20) h') (fun s' _ => (8 - num (s' 20)).toNat) ⟨T1, 0, o1.up o2 non_up, X, tcb, c2, by omega, rfl⟩ ?_
  rintro s' h3 hf' ⟨T3, n, o3, X3, tc3, c3, hn, s20⟩
  have t0 : s' 0 = ptr p := by simpa [s0] using hf' 0 (by simp)
  have t2 : s' 2 = .int .u64 seq := by simpa [s2] using hf' 2 (by simp)
  have t7 : s' 7 = ptr cb := by simpa using hf' 7 (by simp)
  have t10 : s' 10 = cv := by simpa [s10] using hf' 10 (by simp)
  have t11 : s' 11 = .int .i64 l.length := by simpa [s11] using hf' 11 (by simp)
  have t12 : s' 12 = .int .i64 i := by simpa [s12] using hf' 12 (by simp)
  have t19 : s' 19 = .agg ((List.range 8).map fun j => ptr (q j)).toArray := by simpa using hf' 19 (by simp)
  unfold qpIZ
  simp -implicitDefEqProofs only [s20, bin_lss, ov_s, cd_b]
  refine ⟨fun hc8 => ?_, fun hc8 => ?_⟩
  rotate_left
  · have : n = 8 := by have : ¬ ((n : Int) < 8) := by simpa using hc8
                       omega
    subst this
    simp -implicitDefEqProofs [t12, hw, t0, t2, t10, t11, s0, s2, s10, s11, s12, -Int.natCast_add]
    exact ⟨⟨T3, i + 1, o3, by rw [hs1]; exact X3.r, by omega, rfl⟩, by omega⟩
  have hn8 : n < 8 := by have : ((n : Int) < 8) := by simpa using hc8
                         omega
  have hw8 : IntKind.i64.wrap ((n : Int) + 1) = (n + 1 : Nat) := by rw [wrap64_id (by omega) (by omega)]; omega
  have fg3 : FdG (f1.tell1 c seq n) := fg1.tell1 c seq n
  have c3' := c3
  simp -implicitDefEqProofs only [chgC, presC, List.cons_append, List.nil_append] at c3
  unfold qpHZ
  rw [seqM_eq]
  unfold qpGZ
  simp -implicitDefEqProofs [t0, t7, t19, s20, xa_q hn8, ld_at c3, cel_of c3, stm_at c3, stm_upd, ld_same, cel_same, over]
  refine watching_ok n c.user X3.r fg3 fun h4 e4 => ?_
  have o4 : Only non T3 h3 T3 h4 := Only.of_ext o3.wf e4
  have X4 := X3.kp o4.k (Off.non _) (not_non _)
  have c4 := e4 _ _ c3
  have hwt : (f1.tell1 c seq n).watching n c.user = f1.watching n c.user := by unfold Feed.watching; rw [tell1_ws]
  rw [hwt]
  unfold qpFZ
  cases hwa : f1.watching n c.user with
  | false =>
    have e : f1.tell1 c seq (n + 1) = f1.tell1 c seq n := by simp [Feed.tell1, hwa]
    simp -implicitDefEqProofs [hw8, t0, t2, t7, t10, t11, t12, t19, s20, s0, s2, s10, s11, s12, -Int.natCast_add]
    exact ⟨⟨T3, n + 1, o3.up o4 non_up, by rw [e]; exact X4, tc3, e4 _ _ c3', by omega, rfl⟩, by omega⟩
  | true =>
    have e : f1.tell1 c seq (n + 1) = { f1.tell1 c seq n with qs := qset (f1.tell1 c seq n).qs n (((f1.tell1 c seq n).qs n).put ⟨c.user, c.old, c.new, seq⟩) } := by simp [Feed.tell1, hwa]
    simp -implicitDefEqProofs only [cd_b, true_implies]
    refine ⟨?_, fun h => (by cases h)⟩
    unfold qpEZ
    simp -implicitDefEqProofs [t7, t2, ld_at c4, cel_of c4, stm_at c4, stm_upd, ld_same, cel_same, over, bdEv]
    refine put_ok ⟨c.user, c.old, c.new, seq⟩ o4.wf (gg.app [1, n]) (X4.xq n hn8) (fg3.qs n hn8) fun T5 h5 b5 o5 r5 => ?_
    unfold qpDZ
    simp -implicitDefEqProofs [hw8, t0, t2, t7, t10, t11, t12, t19, s20, s0, s2, s10, s11, s12, -Int.natCast_add]
    have gn : ¬ pre (g ++ [1, n]) [] := (gg.app _).nil
    have bc := o5.k.at (e4 _ _ c3') tc3 gn
    refine ⟨⟨T5, n + 1, (o3.up o4 non_up).up o5 fun t => pre_trans, ?_, bc.2, bc.1, by omega, rfl⟩, by omega⟩
    rw [e]
    have bp := o5.k.at X4.hp X4.tp (not_pre (by simp))
    refine ⟨bp.1, bp.2, X4.x1.ext (@StrR.ext) (o5.ext gn), X4.x2.ext (@MaskR.ext) (o5.ext gn), fun j hj => ?_, X4.s1, X4.s2⟩
    simp -implicitDefEqProofs only [qset]
    by_cases hjn : j = n
    · subst hjn; rw [if_pos rfl]; exact r5
    · rw [if_neg hjn]; exact (X4.xq j hj).kp o5.k (off_pre (by simp; omega) (by simp; omega))
end Go.Proofs.YtmbningljbcpkaaGreat
namespace Go.Den
open Go
set_option linter.unusedVariables false
def Hall.end_ (H:Hall)(who:Int)(s:Nat):Hall:=(H.did who 4 (4*s+2)).put s { H.ss s with v:=endV (H.ss s).v }
def Hall.pub (H:Hall)(who:Int)(s:Nat):Hall:=((H.did who 1 (4*s+4)).did who 4 (4*s+3)).put s { H.ss s with snap:=(H.ss s).book }
def Hall.take (H:Hall)(who:Int):Hall:={ H.did who 4 0 with t:={ H.t with seq:=addU H.t.seq 1 } }
def Hall.shut (H:Hall)(who:Int):Hall:={ H.did who 4 0 with t:={ H.t with closed:=true } }
def Hall.wr (H:Hall)(who:Int)(s:Nat):Hall:=H.did who 2 (4*s+4)
def Hall.sweep (H:Hall)(who:Int)(s:Nat)(t:Tm):Hall :=
 (H.wr who s).put s { H.ss s with book:=(sweepB (H.ss s).book t.now).1,feed:=(H.ss s).feed.tell (sweepB (H.ss s).book t.now).2 t.seq }
def Hall.write (H:Hall)(who:Int)(s:Nat)(x:OpD)(t:Tm):Hall × Int :=
 if t.closed then (H.wr who s,5) else
  ((H.wr who s).put s { H.ss s with book:=(writeB (H.ss s).book x t.now H.c.sessions).1,feed:=(H.ss s).feed.tell (writeB (H.ss s).book x t.now H.c.sessions).2.1 t.seq },(writeB (H.ss s).book x t.now H.c.sessions).2.2)
end Go.Den
namespace Go.Proofs.YtmbningljbcpkaaGreat
open Go Go.Den Go.MapKept
set_option linter.unusedSimpArgs false
set_option linter.unusedVariables false
set_option maxRecDepth 20000
variable {K:KTy}
theorem hend_ok (who:Int){s:Nat}{T:Tags}{h:Heap}{g:Tag}{p:Nat}{H:Hall}(w:Wf T h)(gg:Gd g)(x:HallR T h g p H)(hs:s<H.n)(h8:H.n≤8)(hl:H.acts.length<1000000)(hv:U64 (H.ss s).v)(hw:wrt (H.ss s).v=true→(H.ss s).v<18446744073709551615)
  (hk:∀ T' h',Only (pre g) T h T' h'→HallR T' h' g p (H.end_ who s)→K (.tuple #[]) h'):callM P qlIZ #[ptr p,.int .i64 who,.int .i64 s] h K:=by
 apply quAZ
 unfold qnqZ
 refine place_ok s 2 (by omega) ?_
 unfold qqaZ
 obtain⟨sv,av,Y,x⟩:=x
 refine did_ok who 4 _ w gg x hl fun T2 h2 av2 o2 x2=>?_
 have bp:h2 p=_∧T2 p=_:=⟨x2.hp,x2.tp⟩
 simp -implicitDefEqProofs only[hallC] at bp
 have cp:=bp.1
 obtain⟨b,ob,rb,hb1,tb,ia,l1,l2,l3,l4,l5,l6⟩:=x2.lds (s:=s) (k:=.i64) hs
 unfold qpZZ
 simp -implicitDefEqProofs[ld_at cp,cel_of cp,stm_at cp,stm_upd,ld_same,cel_same,over,ia,l2]
 refine end_ok _ _ hv hw fun h3 e3=>?_
 have o3:Only non T2 h2 T2 h3:=Only.of_ext o2.wf e3
 have bp:=o3.see bp (not_non _)
 have cp:=bp.1
 have x3:HallX T2 h3 g p (H.did who 4 (4*s+2)) sv av2 Y:=⟨e3 _ _ x2.hp,x2.tp,x2.st.kp o3.k (not_non _),x2.ac.kp o3.k (not_non _),fun i hi=>(x2.sr i hi).kp o3.k (Off.non _) (not_non _)⟩
 unfold qpYZ
 simp -implicitDefEqProofs[ld_at cp,cel_of cp,stm_at cp,stm_upd,ld_same,cel_same,over,ia]
 refine x3.stw o3.wf (off:=1) (X':={ H.ss s with v:=endV (H.ss s).v }) (y':=Y s) hs rb rfl (by rfl) (by omega) (by simp[cellC,Hall.did]) (by simp[spl,strC,cellC,Hall.did]) (x3.sr s hs) fun h4 o4 x4=>?_
 exact hk T2 h4 (((o2.mono fun _=>U02.pre).up o3 non_up).up o4 fun t=>eq_pre) ⟨sv,av2,_,x4⟩
theorem hpub_ok (who:Int){s:Nat}{T:Tags}{h:Heap}{g:Tag}{p:Nat}{H:Hall}(w:Wf T h)(gg:Gd g)(x:HallR T h g p H)(hs:s<H.n)(h8:H.n≤8)(hl:H.acts.length<999999)
  (hk:∀ T' h',Only (pre g) T h T' h'→HallR T' h' g p (H.pub who s)→K (.tuple #[]) h'):callM P qhzZ #[ptr p,.int .i64 who,.int .i64 s] h K:=by
 apply qsXZ
 unfold qiJZ
 refine place_ok s 4 (by omega) ?_
 unfold qmkZ
 obtain⟨sv,av,Y,x⟩:=x
 refine did_ok who 1 _ w gg x (by omega) fun T1 h1 av1 o1 x1=>?_
 unfold qmjZ
 refine place_ok s 3 (by omega) ?_
 unfold qmiZ
 refine did_ok who 4 _ o1.wf gg x1 (by simp[Hall.did]; omega) fun T2 h2 av2 o2 x2=>?_
 have cp:=x2.hp
 simp -implicitDefEqProofs only[hallC] at cp
 obtain⟨b,ob,rb,hb1,tb,ia,l1,l2,l3,l4,l5,l6⟩:=x2.lds (s:=s) (k:=.i64) hs
 have hsr:=x2.sr s hs
 have u1:=hsr.2.1.1.one
 have u2:=hsr.2.1.2.1.one
 unfold qmhZ
 simp -implicitDefEqProofs[ld_at cp,cel_of cp,stm_at cp,stm_upd,ld_same,cel_same,over,ia,l4]
 refine x2.stw o2.wf (off:=3) (X':={ H.ss s with snap:=(H.ss s).book }) (y':={ Y s with sk:=(Y s).bk,sv:=(Y s).bv }) hs rb rfl (by rfl) (by omega) (by simp[u1.1,u2.1]) (by simp[spl,strC,Hall.did]) ⟨hsr.2.1,hsr.2.1,hsr.2.2⟩ fun h4 o4 x4=>?_
 exact hk T2 h4 (((o1.mono fun _=>U02.pre).up o2 fun _=>U02.pre).up o4 fun t=>eq_pre) ⟨sv,av2,_,x4⟩
theorem HallX.tst {T:Tags}{h:Heap}{g:Tag}{p:Nat}{H:Hall}{sv av:Value}{Y:Nat→SV}(x:HallX T h g p H sv av Y)(w:Wf T h)(t:Tm) :
  Only (fun u=>u=g++[0]) T h T (upd h p (.cells (hallC { H with t:=t } sv av).toArray qaKZ (0,0)))∧HallX T (upd h p (.cells (hallC { H with t:=t } sv av).toArray qaKZ (0,0))) g p { H with t:=t } sv av Y:=by
 have o:Only (fun u=>u=g++[0]) T h T (upd h p (.cells (hallC { H with t:=t } sv av).toArray qaKZ (0,0))):=Only.upd w x.hp x.tp
 exact⟨o,upd_same' _ _ _,x.tp,x.st.kp o.k (ne_tag (by simp)),x.ac.kp o.k (ne_tag (by simp)),fun i hi=>(x.sr i hi).kp o.k (off_eq (by simp)) (by simp)⟩
theorem htake_ok (who:Int){T:Tags}{h:Heap}{g:Tag}{p:Nat}{H:Hall}(w:Wf T h)(gg:Gd g)(x:HallR T h g p H)(ht:U64 H.t.seq)(hl:H.acts.length<1000000)
  (hk:∀ T' h',Only (pre g) T h T' h'→HallR T' h' g p (H.take who)→K (.agg (tmC { H.t with seq:=addU H.t.seq 1 }).toArray) h'):callM P qksZ #[ptr p,.int .i64 who] h K:=by
 apply qutZ
 unfold qlOZ
 rw[zcTime]
 refine nw_tag w lc fun v1 T1 h1 n1 o1 t1 c1=>?_
 obtain⟨sv,av,Y,x1⟩:=x.up o1 (Off.non _) (not_non _)
 have b1:h1 v1=_∧T1 v1=lc:=⟨c1,t1⟩
 refine did_ok who 4 0 o1.wf gg x1 hl fun T2 h2 av2 o2 x2=>?_
 have b1:=o2.see b1 (lc_U02 gg)
 have cp:=x2.hp
 simp -implicitDefEqProofs only[hallC] at cp
 unfold qpuZ
 have hld:ldV (some (some 3)) (.pointer (some ⟨p,7,none⟩)) h2=some (.agg (tmC H.t).toArray):=by simp[ld_at cp,tmC,Hall.did]
 simp -implicitDefEqProofs only[ncV_p,faV_p,ov_s,Nat.zero_add,hld]
 refine tickTake_ok H.t ht fun h3 e3=>?_
 have o3:Only non T2 h2 T2 h3:=Only.of_ext o2.wf e3
 have b1:=o3.see b1 (not_non _)
 have x3:HallX T2 h3 g p (H.did who 4 0) sv av2 Y:=⟨e3 _ _ x2.hp,x2.tp,x2.st.kp o3.k (not_non _),x2.ac.kp o3.k (not_non _),fun i hi=>(x2.sr i hi).kp o3.k (Off.non _) (not_non _)⟩
 have cp:=x3.hp
 simp -implicitDefEqProofs only[hallC] at cp
 obtain⟨o4,x4⟩:=x3.tst o3.wf { H.t with seq:=addU H.t.seq 1 }
 have b1:=o4.see b1 (lc_ne g gg _)
 have c1:=b1.1
 have cp4:=x4.hp
 have oo:Only (pre g) T h T2 _:=(((o1.mono fun _=>non_up _).up o2 fun _=>U02.pre).up o3 non_up).up o4 fun t=>eq_pre
 unfold qptZ
 simp -implicitDefEqProofs[ld_at cp,cel_of cp,stm_at cp,stm_upd,ld_same,cel_same,over,tmC,Hall.did]
 simp -implicitDefEqProofs only[hallC,Hall.did] at c1 cp4 x4 oo b1
 generalize upd h3 p _=h4 at *
 simp -implicitDefEqProofs[ld_at cp4,cel_of cp4,stm_at cp4,ld_at c1,cel_of c1,stm_at c1,stm_upd,ld_same,cel_same,over]
 exact hk T2 _ (oo.own n1 c1) (HallR.lst ⟨sv,av2,Y,x4⟩ gg oo.wf b1)
end Go.Proofs.YtmbningljbcpkaaGreat
namespace Go.Proofs.YtmbningljbcpkaaGreat
open Go Go.Den Go.MapKept
set_option linter.unusedSimpArgs false
set_option linter.unusedVariables false
set_option maxRecDepth 20000
variable {K:KTy}
theorem hwr_ok (who:Int){s:Nat}{T:Tags}{h:Heap}{g:Tag}{p:Nat}{H:Hall}(w:Wf T h)(gg:Gd g){sv av:Value}{Y:Nat→SV}(x:HallX T h g p H sv av Y)(hs:s<H.n)(h8:H.n≤8)(hl:H.acts.length<1000000)
  (hk:∀ T' h' av' b,Only (U02 g) T h T' h'→HallX T' h' g p (H.wr who s) sv av' Y→rowOf sv=some b→K (.pointer (some ⟨b,s*8,none⟩)) h'):callM P qfeZ #[ptr p,.int .i64 who,.int .i64 s] h K:=by
 apply queZ
 unfold qkBZ
 refine place_ok s 4 (by omega) ?_
 unfold qoHZ
 refine did_ok who 2 _ w gg x hl fun T2 h2 av2 o2 x2=>?_
 have cp:=x2.hp
 simp -implicitDefEqProofs only[hallC] at cp
 obtain⟨b,ob,rb,hb1,tb,ia,l1,l2,l3,l4,l5,l6⟩:=x2.lds (s:=s) (k:=.i64) hs
 simp -implicitDefEqProofs[ld_at cp,cel_of cp,stm_at cp,stm_upd,ld_same,cel_same,over,ia]
 exact hk T2 h2 av2 b o2 x2 rb
theorem HallX.fed {T T':Tags}{h h':Heap}{g:Tag}{p:Nat}{H:Hall}{sv av:Value}{Y:Nat→SV}(x:HallX T h g p H sv av Y){s:Nat}(hs:s<H.n){f:Feed}(o:Only (pre (g++[3,s])) T h T' h')(gg:Gd g)(r:FeedR T' h' (g++[3,s]) (Y s).fp f) :
  HallX T' h' g p (H.put s { H.ss s with feed:=f }) sv av Y:=by
 have b:=o.k.at x.hp x.tp (not_pre (by simp))
 have n:¬ pre (g++[3,s]) []:=(gg.app _).nil
 refine⟨b.1,b.2,?_,x.ac.kp o.k (not_pre (by simp)),fun i hi=>?_⟩
 ·have:=x.st.kp o.k (not_pre (by simp))
  have e:seqF H.n (fun i=>strC (H.ss i) (Y i))=seqF H.n fun i=>strC ((H.put s { H.ss s with feed:=f }).ss i) (Y i):=seqF_congr fun i hi=>by
   simp -implicitDefEqProofs only[Hall.put,sput]
   by_cases his:i=s
   ·subst his; rw[if_pos rfl]; rfl
   ·rw[if_neg his]
  rw[e] at this
  exact this
 ·simp -implicitDefEqProofs only[Hall.put,sput]
  by_cases his:i=s
  ·subst his
   rw[if_pos rfl]
   have y:=x.sr i hi
   exact⟨y.1.ext (o.ext n),y.2.1.ext (o.ext n),r⟩
  ·rw[if_neg his]; exact (x.sr i hi).kp o.k (off_pre (by simp; omega) (by simp; omega)) n
end Go.Proofs.YtmbningljbcpkaaGreat
namespace Go.Den
open Go
set_option linter.unusedVariables false
def mor (m who:Int):Int:=((BitVec.ofInt 32 m ||| BitVec.ofInt 32 (2 ^ who.toNat)).toNat:Int)
def mclr (m who:Int):Int:=((BitVec.ofInt 32 m &&& ~~~ BitVec.ofInt 32 (2 ^ who.toNat)).toNat:Int)
theorem mbit_nat (m w:Nat):mbit (m:Int) (w:Int)=m.testBit w:=by
 unfold mbit
 rw[Nat.testBit_eq_decide_div_mod_eq]
 have:((m:Int) / 2 ^ ((w:Int)).toNat % 2)=((m / 2 ^ w % 2:Nat):Int):=by push_cast; simp
 rw[this]
 rcases Nat.mod_two_eq_zero_or_one (m / 2 ^ w) with h | h<;>simp[h]
theorem mbit_bv {n:Nat}(b:BitVec n)(w:Nat):mbit (b.toNat:Int) (w:Int)=b.getLsbD w:=by rw[mbit_nat]; rfl
theorem bv_pow (w:Nat):BitVec.ofInt 32 (2 ^ w)=BitVec.twoPow 32 w:=by
 apply BitVec.eq_of_toNat_eq
 rw[BitVec.toNat_twoPow]
 have:(2 ^ w:Int)=((2 ^ w:Nat):Int):=by push_cast; rfl
 rw[this,BitVec.ofInt_natCast,BitVec.toNat_ofNat]
theorem bv_of {m:Int}(h0:0≤m)(h1:m<4294967296):((BitVec.ofInt 32 m).toNat:Int)=m:=by
 rw[BitVec.toNat_ofInt]; omega
theorem mor_rng (m who:Int):0≤mor m who∧mor m who<4294967296:=by
 have:=(BitVec.ofInt 32 m ||| BitVec.ofInt 32 (2 ^ who.toNat)).isLt
 unfold mor; omega
theorem mclr_rng (m who:Int):0≤mclr m who∧mclr m who<4294967296:=by
 have:=(BitVec.ofInt 32 m &&& ~~~ BitVec.ofInt 32 (2 ^ who.toNat)).isLt
 unfold mclr; omega
theorem mbit_mor {m:Int}(h0:0≤m)(h1:m<4294967296){w j:Nat}(hw:w<8)(hj:j<8):mbit (mor m w) j=(mbit m j || decide (j=w)):=by
 unfold mor
 rw[mbit_bv,BitVec.getLsbD_or,Int.toNat_natCast,bv_pow,BitVec.getLsbD_twoPow,← mbit_bv,bv_of h0 h1]
 have:decide (w<32)=true:=by simp; omega
 rw[this,Bool.true_and]
 congr 1
 exact decide_eq_decide.2 eq_comm
theorem mbit_mclr {m:Int}(h0:0≤m)(h1:m<4294967296){w j:Nat}(hw:w<8)(hj:j<8):mbit (mclr m w) j=(mbit m j && !decide (j=w)):=by
 unfold mclr
 rw[mbit_bv,BitVec.getLsbD_and,BitVec.getLsbD_not,Int.toNat_natCast,bv_pow,BitVec.getLsbD_twoPow,← mbit_bv,bv_of h0 h1]
 have h1:decide (w<32)=true:=by simp; omega
 have h2:decide (j<32)=true:=by simp; omega
 simp only[h1,h2,Bool.true_and]
 congr 2
 exact decide_eq_decide.2 eq_comm
theorem mbit_zero (j:Int):mbit 0 j=false:=by simp[mbit]
theorem mem_putB' {α:Type}{u:ByteArray}{e:α}{x:ByteArray × α}:∀ {b:List (ByteArray × α)},x∈putB b u e→x=(u,e)∨x∈b
 | [],h=>by simp[putB] at h; exact .inl h
 | (k,y)::r,h=>by
  simp only[putB] at h
  split at h
  ·rcases List.mem_cons.1 h with h | h
   ·exact .inr (by simp[h])
   ·rcases mem_putB' h with h | h
    ·exact .inl h
    ·exact .inr (by simp[h])
  ·split at h
   ·rcases List.mem_cons.1 h with h | h
    ·exact .inl h
    ·exact .inr (by simp[h])
   ·rcases List.mem_cons.1 h with h | h
    ·exact .inl h
    ·exact .inr h
def Feed.watch (f:Feed)(who:Int)(u:ByteArray):Feed:=if clientB who then { f with ws:=putB f.ws u (mor (valL 0 f.ws u) who) } else f
def Feed.unwatch (f:Feed)(who:Int)(u:ByteArray):Feed :=
 if clientB who=true∧valL 0 f.ws u≠0 then (if mclr (valL 0 f.ws u) who=0 then { f with ws:=delB f.ws u } else { f with ws:=putB f.ws u (mclr (valL 0 f.ws u) who) }) else f
def Feed.count (f:Feed)(who:Int):Nat:=(f.ws.filter fun x=>clientB who && mbit x.2 who).length
def Feed.drain (f:Feed)(who:Int):Feed:=if clientB who then { f with qs:=qset f.qs who.toNat ⟨(f.qs who.toNat).room,[],false⟩ } else f
def Feed.told (f:Feed)(who:Int):List Evt:=if clientB who then (f.qs who.toNat).l else []
def Feed.lost (f:Feed)(who:Int):Bool:=clientB who && (f.qs who.toNat).lost
end Go.Den
namespace Go.Den
open Go
set_option linter.unusedVariables false
set_option linter.unusedSimpArgs false
structure PairD where
 who:Int
 user:ByteArray
theorem putB_perm {α:Type}{u:ByteArray}{e:α}:∀ {b:List (ByteArray × α)},SrtK (keysL b)→(putB b u e).Perm ((u,e)::delB b u)
 | [],_=>by simp[putB,delB]
 | (k,x)::r,s=>by
  obtain⟨s1,s2⟩:=List.pairwise_cons.1 s
  simp only[putB]
  cases hk:ltS k u with
  | true =>
   have hne:k≠u:=fun e=>by rw[e,ltS_irrefl] at hk; cases hk
   have e:delB ((k,x)::r) u=(k,x)::delB r u:=by simp[delB,hne]
   rw[if_pos rfl,e]
   exact (List.Perm.cons _ (putB_perm s2)).trans (List.Perm.swap _ _ _)
  | false =>
   simp only[Bool.false_eq_true,if_false]
   by_cases hku:k=u
   ·rw[if_pos hku]
    have hn:u ∉ keysL r:=fun h=>by
     have:=s1 u h
     rw[hku,ltS_irrefl] at this; cases this
    have e:delB ((k,x)::r) u=r:=by
     have:=delB_none hn
     unfold delB at this ⊢
     simp[hku,this]
    rw[e]
   ·rw[if_neg hku]
    have hn:u ∉ keysL r:=fun h=>by
     have:=s1 u h
     rw[hk] at this; cases this
    have e:delB ((k,x)::r) u=(k,x)::r:=by
     have:=delB_none hn
     unfold delB at this ⊢
     simp[hku,this]
    rw[e]
theorem self_perm {u:ByteArray}{α:Type}{d:α}:∀ {b:List (ByteArray × α)},SrtK (keysL b)→u∈keysL b→b.Perm ((u,valL d b u)::delB b u)
 | [],_,h=>by simp[keysL] at h
 | (k,x)::r,s,h=>by
  obtain⟨s1,s2⟩:=List.pairwise_cons.1 s
  by_cases hku:k=u
  ·have hn:u ∉ keysL r:=fun h=>by
    have:=s1 u h
    rw[hku,ltS_irrefl] at this; cases this
   have e:delB ((k,x)::r) u=r:=by
    have:=delB_none hn
    unfold delB at this ⊢
    simp[hku,this]
   rw[e]; simp[valL,hku]
  ·have hr:u∈keysL r:=by
    simp only[keysL,List.map_cons,List.mem_cons] at h
    exact h.resolve_left (Ne.symm hku)
   have e:delB ((k,x)::r) u=(k,x)::delB r u:=by simp[delB,hku]
   rw[e]; simp only[valL,if_neg hku]
   exact (List.Perm.cons _ (self_perm s2 hr)).trans (List.Perm.swap _ _ _)
def wsOf (ws:List (ByteArray × Int))(j:Nat):List ByteArray:=(ws.filter fun x=>mbit x.2 j).map (·.1)
def psOf (ps:List PairD)(j:Nat):List ByteArray:=(ps.filter fun p=>decide (p.who=(j:Int))).map (·.user)
theorem wsOf_put {ws:List (ByteArray × Int)}(s:SrtK (keysL ws))(u:ByteArray)(e:Int)(j:Nat):(wsOf (putB ws u e) j).Perm ((if mbit e j then [u] else [])++wsOf (delB ws u) j):=by
 refine (((putB_perm s).filter _).map _).trans ?_
 rw[List.filter_cons]
 unfold wsOf
 split<;>simp
theorem wsOf_self {ws:List (ByteArray × Int)}(s:SrtK (keysL ws))(u:ByteArray)(j:Nat):(wsOf ws j).Perm ((if mbit (valL 0 ws u) j then [u] else [])++wsOf (delB ws u) j):=by
 by_cases h:u∈keysL ws
 ·refine (((self_perm (d:=0) s h).filter _).map _).trans ?_
  rw[List.filter_cons]
  unfold wsOf
  split<;>simp
 ·rw[valL_none h,mbit_zero,delB_none h]; simp
theorem wsOf_del_not {ws:List (ByteArray × Int)}{u:ByteArray}{j:Nat}:u ∉ wsOf (delB ws u) j:=by
 intro h
 obtain⟨x,hx,rfl⟩:=List.mem_map.1 h
 have:=(List.mem_filter.1 hx).1
 simp[delB] at this
theorem wsOf_mem {ws:List (ByteArray × Int)}(s:SrtK (keysL ws)){u:ByteArray}{j:Nat}:u∈wsOf ws j↔mbit (valL 0 ws u) j=true:=by
 rw[(wsOf_self s u j).mem_iff,List.mem_append]
 constructor
 ·rintro (h | h)
  ·split at h
   ·assumption
   ·simp at h
  ·exact absurd h wsOf_del_not
 ·intro h; rw[if_pos h]; simp
structure FdP (f:Feed)(ps:List PairD):Prop where
 pm:∀ j,j<8→(psOf ps j).Perm (wsOf f.ws j)
 rg:∀ p∈ps,0≤p.who∧p.who<8
def pairIs (who:Int)(u:ByteArray)(p:PairD):Bool:=decide (p.who=who) && decide (p.user=u)
theorem psOf_mem {ps:List PairD}{u:ByteArray}{j:Nat}:u∈psOf ps j↔ps.any (pairIs j u)=true:=by
 unfold psOf
 simp only[List.mem_map,List.mem_filter,List.any_eq_true,pairIs,Bool.and_eq_true,decide_eq_true_eq]
 constructor
 ·rintro⟨p,⟨h1,h2⟩,h3⟩; exact⟨p,h1,h2,h3⟩
 ·rintro⟨p,h1,h2,h3⟩; exact⟨p,⟨h1,h2⟩,h3⟩
theorem FdP.watching {f:Feed}{ps:List PairD}(x:FdP f ps)(g:FdG f)(who:Int)(u:ByteArray):ps.any (pairIs who u)=f.watching who u:=by
 unfold Feed.watching
 cases hc:clientB who with
 | false =>
  rw[Bool.false_and,Bool.eq_false_iff]
  intro h
  obtain⟨p,hp,hq⟩:=List.any_eq_true.1 h
  have:=x.rg p hp
  simp only[pairIs,Bool.and_eq_true,decide_eq_true_eq] at hq
  rw[hq.1] at this
  simp[clientB] at hc; omega
 | true =>
  have hc':0≤who∧who<8:=by simpa [clientB] using hc
  obtain⟨j,rfl⟩:∃ j:Nat,who=j:=⟨who.toNat,by omega⟩
  rw[Bool.true_and,Bool.eq_iff_iff,← psOf_mem,(x.pm j (by omega)).mem_iff,wsOf_mem g.so]
theorem FdP.of_ws {f f':Feed}{ps:List PairD}(x:FdP f ps)(h:f'.ws=f.ws):FdP f' ps:=⟨fun j hj=>by rw[h]; exact x.pm j hj,x.rg⟩
end Go.Den
namespace Go.Den
open Go
set_option linter.unusedVariables false
set_option linter.unusedSimpArgs false
structure BkM (m:Nat)(b:Book):Prop where
 bw:BkW b
 bl:b.length≤m
 bs:∀ y∈b,y.1.size≤maxLen
 bn:∀ y∈b,y.2.ss.length≤m
structure FdM (m:Nat)(f:Feed):Prop where
 so:SrtK (keysL f.ws)
 len:f.ws.length≤m
 ms:∀ x∈f.ws,0≤x.2∧x.2<4294967296
 ks:∀ x∈f.ws,x.1.size≤maxLen
 qs:∀ j,j<8→RiG (f.qs j)
structure StM (m:Nat)(x:Strp):Prop where
 sn:BkM m x.snap
 bk:BkM m x.book
 v0:0≤x.v∧x.v≤x.bound
 vb:x.bound % 2=0∧x.bound≤18446744073709551615
 wh:0≤x.who∧x.who≤1000
 fd:FdM m x.feed
structure HS (m:Nat)(H:Hall):Prop where
 rt:rightB H.c=true
 cw:CfgW H.c
 nn:(H.n:Int)=H.c.stripes
 ac:H.acts.length≤2*m
 st:∀ s,s<H.n→StM m (H.ss s)
 tn:U64 H.t.now
 ts:U64 H.t.seq
theorem HS.n8 {m:Nat}{H:Hall}(x:HS m H):1≤H.n∧H.n≤8:=by
 have h1:=x.rt; have h2:=x.nn
 simp only[rightB,decide_eq_true_eq] at h1; omega
theorem BkM.mono {m k:Nat}{b:Book}(x:BkM m b)(h:m≤k):BkM k b:=⟨x.bw,Nat.le_trans x.bl h,x.bs,fun y hy=>Nat.le_trans (x.bn y hy) h⟩
theorem FdM.mono {m k:Nat}{f:Feed}(x:FdM m f)(h:m≤k):FdM k f:=⟨x.so,Nat.le_trans x.len h,x.ms,x.ks,x.qs⟩
theorem StM.mono {m k:Nat}{s:Strp}(x:StM m s)(h:m≤k):StM k s:=⟨x.sn.mono h,x.bk.mono h,x.v0,x.vb,x.wh,x.fd.mono h⟩
theorem HS.mono {m k:Nat}{H:Hall}(x:HS m H)(h:m≤k):HS k H:=⟨x.rt,x.cw,x.nn,Nat.le_trans x.ac (by omega),fun s hs=>(x.st s hs).mono h,x.tn,x.ts⟩
theorem FdM.g {m:Nat}{f:Feed}(x:FdM m f)(h:m<100000):FdG f:=⟨x.so,by have:=x.len; omega,x.ms,x.qs⟩
theorem BkM.g {m:Nat}{b:Book}(x:BkM m b)(h:m<100000):BkG b:=by
 refine⟨x.bw.so,by have:=x.bl; omega,fun u=>?_⟩
 rcases entOf_cases b u with e | ⟨y,h1,h2,h3⟩
 ·rw[e]; simp[ent0]
 ·rw[h3]; have:=x.bn y h1; omega
theorem BkM.ent {m:Nat}{b:Book}(x:BkM m b)(u:ByteArray):(entOf b u).ss.length≤m:=by
 rcases entOf_cases b u with e | ⟨y,h1,h2,h3⟩
 ·rw[e]; simp[ent0]
 ·rw[h3]; exact x.bn y h1
theorem StM.wr {m:Nat}{x:Strp}(s:StM m x):U64 x.v∧U64 x.bound∧(wrt x.v=true→x.v<18446744073709551615):=by
 have h1:=s.v0; have h2:=s.vb
 refine⟨by unfold U64; omega,by unfold U64; omega,fun h=>?_⟩
 simp[wrt] at h; omega
theorem HS.g {m:Nat}{H:Hall}(x:HS m H)(h:m<100000):HG H :=
 ⟨x.n8.2,by have:=x.ac; omega,fun s hs=>⟨(x.st s hs).sn.g h,(x.st s hs).bk.g h⟩,fun s hs=>⟨(x.st s hs).wr.1,(x.st s hs).wr.2.1⟩,fun s hs=>by have:=(x.st s hs).wh; omega,x.cw,by have:=x.n8; have:=x.nn; omega⟩
theorem HS.did {m:Nat}{H:Hall}(x:HS m H)(w k p:Int):HS (m+1) (H.did w k p) :=
 ⟨x.rt,x.cw,x.nn,by have:=x.ac; simp[Hall.did]; omega,fun s hs=>(x.st s hs).mono (by omega),x.tn,x.ts⟩
theorem HS.put {m:Nat}{H:Hall}(x:HS m H){s:Nat}{y:Strp}(h:StM m y):HS m (H.put s y) :=
 ⟨x.rt,x.cw,x.nn,x.ac,fun t ht=>by simp only[Hall.put,sput]; split; exact h; exact x.st t ht,x.tn,x.ts⟩
theorem HS.did2 {m:Nat}{H:Hall}(x:HS m H)(w k p w' k' p':Int):HS (m+1) ((H.did w k p).did w' k' p') :=
 ⟨x.rt,x.cw,x.nn,by have:=x.ac; simp[Hall.did]; omega,fun s hs=>(x.st s hs).mono (by omega),x.tn,x.ts⟩
variable {m:Nat}{H:Hall}
theorem HS.look (x:HS m H)(w:Int):HS (m+1) (H.look w):=x.did _ _ _
theorem HS.epoch (x:HS m H)(w:Int)(s:Nat):HS (m+1) (H.epoch w s):=x.did _ _ _
theorem HS.snap (x:HS m H)(w:Int)(s:Nat):HS (m+1) (H.snap w s):=x.did _ _ _
theorem HS.read (x:HS m H)(w:Int)(s:Nat):HS (m+1) (H.read w s):=x.did _ _ _
theorem HS.wr (x:HS m H)(w:Int)(s:Nat):HS (m+1) (H.wr w s):=x.did _ _ _
theorem HS.take (x:HS m H)(w:Int):HS (m+1) (H.take w) :=
 have y:=x.did w 4 0
 ⟨y.rt,y.cw,y.nn,y.ac,y.st,y.tn,addU_rng x.ts (by simp[U64])⟩
theorem HS.shut (x:HS m H)(w:Int):HS (m+1) (H.shut w) :=
 have y:=x.did w 4 0
 ⟨y.rt,y.cw,y.nn,y.ac,y.st,y.tn,y.ts⟩
theorem HS.lock (x:HS m H){w:Int}{s:Nat}(hs:s<H.n)(hw:w≤900):HS (m+1) (H.lock w s):=by
 unfold Hall.lock
 split
 ·rename_i hc
  have hc':0≤w∧(H.ss s).who=0:=by simpa [canTake] using hc
  have y:=(x.st s hs).mono (Nat.le_succ m)
  exact (x.did _ _ _).put ⟨y.sn,y.bk,y.v0,y.vb,by show 0≤w+1∧w+1≤1000; omega,y.fd⟩
 ·exact x.mono (by omega)
theorem HS.unlock (x:HS m H){w:Int}{s:Nat}(hs:s<H.n):HS (m+1) (H.unlock w s):=by
 unfold Hall.unlock
 split
 ·have y:=(x.st s hs).mono (Nat.le_succ m)
  exact (x.did _ _ _).put ⟨y.sn,y.bk,y.v0,y.vb,by simp,y.fd⟩
 ·exact x.mono (by omega)
theorem HS.begin (x:HS m H){w:Int}{s:Nat}(hs:s<H.n):HS (m+1) (H.begin w s):=by
 have y:=(x.st s hs).mono (Nat.le_succ m)
 refine (x.did _ _ _).put ⟨y.sn,y.bk,?_,y.vb,y.wh,y.fd⟩
 have h1:=y.v0
 show 0≤bgn _ _∧bgn _ _≤(H.ss s).bound
 unfold bgn; split<;>omega
theorem HS.end_ (x:HS m H){w:Int}{s:Nat}(hs:s<H.n):HS (m+1) (H.end_ w s):=by
 have y:=(x.st s hs).mono (Nat.le_succ m)
 refine (x.did _ _ _).put ⟨y.sn,y.bk,?_,y.vb,y.wh,y.fd⟩
 have h1:=y.v0; have h2:=y.vb
 show 0≤endV _∧endV _≤(H.ss s).bound
 unfold endV wrt; simp; split<;>omega
theorem HS.pub (x:HS m H){w:Int}{s:Nat}(hs:s<H.n):HS (m+1) (H.pub w s):=by
 have y:=(x.st s hs).mono (Nat.le_succ m)
 exact (x.did2 _ _ _ _ _ _).put ⟨y.bk,y.bk,y.v0,y.vb,y.wh,y.fd⟩
theorem FdM.tell1 {f:Feed}(g:FdM m f)(c:Chg)(seq:Int):∀ n,FdM m (f.tell1 c seq n)
 | 0=>g
 | n+1=>by
  have ih:=FdM.tell1 g c seq n
  simp only[Feed.tell1]
  split
  ·refine⟨ih.so,ih.len,ih.ms,ih.ks,fun j hj=>?_⟩
   simp only[qset]
   split
   ·rename_i h; subst h; exact (ih.qs _ hj).put _
   ·exact ih.qs j hj
  ·exact ih
theorem FdM.tell {f:Feed}(g:FdM m f)(seq:Int):∀ l:List Chg,FdM m (f.tell l seq):=by
 intro l
 unfold Feed.tell
 induction l generalizing f with
 | nil=>exact g
 | cons c l ih=>exact ih (g.tell1 c seq 8)
theorem settle_mem {b:Book}{u:ByteArray}{ss:List Sess}{now:Int}{y:ByteArray × Ent}(h:y∈(settleB b u ss now).1):y=(u,⟨ss,presOf ss now⟩)∨y∈b:=by
 unfold settleB at h
 dsimp only at h
 split at h
 ·exact .inr (List.mem_filter.1 h).1
 ·exact mem_putB' h
theorem BkM.settle {b:Book}(x:BkM m b){k:Nat}(hk:m≤k){u:ByteArray}(hu:u.size≤maxLen){ss:List Sess}(now:Int)(h1:SrtI ss)(h2:∀ s∈ss,U64 s.un)(h3:ss.length≤k)(h4:(settleB b u ss now).1.length≤k):BkM k (settleB b u ss now).1:=by
 refine⟨x.bw.settle u now h1 h2,h4,fun y hy=>?_,fun y hy=>?_⟩
 ·rcases settle_mem hy with rfl | hy
  ·exact hu
  ·exact x.bs y hy
 ·rcases settle_mem hy with rfl | hy
  ·exact h3
  ·exact Nat.le_trans (x.bn y hy) hk
theorem BkM.write {b:Book}(x:BkM m b){o:OpD}(ow:OpW o){now:Int}(hn:U64 now)(most:Int):BkM (m+1) (writeB b o now most).1:=by
 obtain⟨h1,h2⟩:=x.bw.ent o.user
 obtain⟨h3,h4⟩:=BkW.purge h1 h2 now
 have hp:(purgeS (entOf b o.user).ss now).length≤m:=Nat.le_trans (List.length_filter_le _ _) (x.ent o.user)
 have hw:=work_len (ss:=purgeS (entOf b o.user).ss now) o now most
 refine x.settle (k:=m+1) (by omega) ow.s1 now (work_srt h3 o now most) (work_un h4 o most hn ow.u1) (by omega) ?_
 have:=settle_len b o.user (workS (purgeS (entOf b o.user).ss now) o now most).1 now
 have:=x.bl; omega
theorem BkM.sweepTo {b:Book}(x:BkM m b)(now:Int):∀ n,n≤b.length→BkM m (sweepTo b now n).1
 | 0,_=>x
 | n+1,hn=>by
  have ih:=BkM.sweepTo x now n (by omega)
  have hm:b.getD n (⟨#[]⟩,ent0)∈b:=by rw[List.getD_eq_getElem?_getD,List.getElem?_eq_getElem (by omega)]; exact List.getElem_mem _
  obtain⟨h1,h2⟩:=x.bw.us _ hm
  obtain⟨h3,h4⟩:=BkW.purge h1 h2 now
  exact ih.settle (Nat.le_refl _) (x.bs _ hm) now h3 h4 (Nat.le_trans (List.length_filter_le _ _) (x.bn _ hm)) (Nat.le_trans (sweep_len x.bw (now:=now) hn) x.bl)
theorem HS.sweep (x:HS m H){w:Int}{s:Nat}(t:Tm)(hs:s<H.n):HS (m+1) (H.sweep w s t):=by
 have y:=(x.st s hs).mono (Nat.le_succ m)
 exact (x.wr w s).put ⟨y.sn,y.bk.sweepTo t.now _ (Nat.le_refl _),y.v0,y.vb,y.wh,y.fd.tell _ _⟩
theorem HS.write (x:HS m H){w:Int}{s:Nat}{o:OpD}(ow:OpW o)(t:Tm)(ht:U64 t.now)(hs:s<H.n):HS (m+1) (H.write w s o t).1:=by
 have y:=x.st s hs
 have y':=y.mono (Nat.le_succ m)
 unfold Hall.write
 split
 ·exact x.wr w s
 ·exact (x.wr w s).put ⟨y'.sn,y.bk.write ow ht _,y.v0,y.vb,y.wh,y'.fd.tell _ _⟩
theorem FdM.watch {f:Feed}(g:FdM m f)(who:Int)(u:ByteArray)(hu:u.size≤maxLen):FdM (m+1) (f.watch who u):=by
 have g':=g.mono (Nat.le_succ m)
 unfold Feed.watch
 split
 ·refine⟨putB_srt g.so,?_,fun x hx=>?_,fun x hx=>?_,g.qs⟩
  ·have:=putB_len (u:=u) (e:=mor (valL 0 f.ws u) who) (b:=f.ws); have:=g.len; show (putB _ _ _).length≤_; omega
  ·rcases mem_putB' (b:=f.ws) hx with rfl | hx
   ·exact mor_rng _ _
   ·exact g.ms x hx
  ·rcases mem_putB' (b:=f.ws) hx with rfl | hx
   ·exact hu
   ·exact g.ks x hx
 ·exact g'
theorem FdM.unwatch {f:Feed}(g:FdM m f)(who:Int)(u:ByteArray)(hu:u.size≤maxLen):FdM (m+1) (f.unwatch who u):=by
 have g':=g.mono (Nat.le_succ m)
 unfold Feed.unwatch
 split
 ·split
  ·refine⟨delB_srt g.so,?_,fun x hx=>g.ms x (List.mem_filter.1 hx).1,fun x hx=>g.ks x (List.mem_filter.1 hx).1,g.qs⟩
   have:=delB_len (u:=u) (b:=f.ws); have:=g.len; show (delB _ _).length≤_; omega
  ·refine⟨putB_srt g.so,?_,fun x hx=>?_,fun x hx=>?_,g.qs⟩
   ·have:=putB_len (u:=u) (e:=mclr (valL 0 f.ws u) who) (b:=f.ws); have:=g.len; show (putB _ _ _).length≤_; omega
   ·rcases mem_putB' (b:=f.ws) hx with rfl | hx
    ·exact mclr_rng _ _
    ·exact g.ms x hx
   ·rcases mem_putB' (b:=f.ws) hx with rfl | hx
    ·exact hu
    ·exact g.ks x hx
 ·exact g'
theorem FdM.drain {f:Feed}(g:FdM m f)(who:Int):FdM m (f.drain who):=by
 unfold Feed.drain
 split
 ·refine⟨g.so,g.len,g.ms,g.ks,fun j hj=>?_⟩
  simp only[qset]
  split
  ·rename_i h; subst h; exact⟨(g.qs _ hj).1,(g.qs _ hj).2.1,by simp⟩
  ·exact g.qs j hj
 ·exact g
def Hall.fed (H:Hall)(who:Int)(s:Nat)(f:Feed):Hall:=(H.wr who s).put s { H.ss s with feed:=f }
def Hall.watch (H:Hall)(who:Int)(s:Nat)(u:ByteArray)(on:Bool):Hall:=H.fed who s (if on then (H.ss s).feed.watch who u else (H.ss s).feed.unwatch who u)
def Hall.drain (H:Hall)(who:Int)(s:Nat):Hall:=H.fed who s ((H.ss s).feed.drain who)
theorem HS.fed (x:HS m H){w:Int}{s:Nat}{f:Feed}(hs:s<H.n)(hf:FdM (m+1) f):HS (m+1) (H.fed w s f):=by
 have y:=(x.st s hs).mono (Nat.le_succ m)
 exact (x.wr w s).put ⟨y.sn,y.bk,y.v0,y.vb,y.wh,hf⟩
theorem HS.watch (x:HS m H){w:Int}{s:Nat}(hs:s<H.n){u:ByteArray}(hu:u.size≤maxLen)(on:Bool):HS (m+1) (H.watch w s u on):=by
 refine x.fed hs ?_
 split
 ·exact (x.st s hs).fd.watch w u hu
 ·exact (x.st s hs).fd.unwatch w u hu
theorem HS.drain (x:HS m H){w:Int}{s:Nat}(hs:s<H.n):HS (m+1) (H.drain w s):=x.fed hs (((x.st s hs).fd.drain w).mono (by omega))
theorem HS.new {c:Cfg}(cw:CfgW c)(hr:rightB c=true){n:Nat}(hn:(n:Int)=c.stripes):HS 0 (hall0 c n):=by
 have hr':=hr
 simp only[rightB,decide_eq_true_eq] at hr'
 have h1:=cw.u1
 have he:0≤evn c.epochs∧evn c.epochs % 2=0∧evn c.epochs≤18446744073709551615:=by unfold evn U64 at *; omega
 have bk:BkM 0 []:=⟨⟨List.Pairwise.nil,by simp⟩,by simp,by simp,by simp⟩
 refine⟨hr,cw,hn,by simp[hall0],fun s hs=>⟨bk,bk,⟨by show (0:Int)≤0; omega,he.1⟩,he.2,by simp[hall0,strp0],⟨List.Pairwise.nil,by simp[hall0,strp0,feed0],by simp[hall0,strp0,feed0],by simp[hall0,strp0,feed0],fun j hj=>?_⟩⟩,cw.u2,by simp[hall0,U64]⟩
 simp only[hall0,strp0,feed0,ring0,RiG,List.length_nil]
 omega
end Go.Den
namespace Go.Den
open Go
set_option linter.unusedVariables false
set_option linter.unusedSimpArgs false
inductive WK where
 | bad
 | op (x:OpD)
 | sweep
structure WP where
 who:Int
 s:Nat
 k:WK
 at_:Nat
 t:Tm
 placed:Int
 err:Int
def WK.isBad:WK→Bool
 | .bad=>true
 | _=>false
def WP.done (p:WP):Bool:=decide (7≤p.at_)
def WP.waits (p:WP):Int:=if p.k.isBad=true∨0<p.at_ then -1 else p.s
def WP.enabled (p:WP)(H:Hall):Bool:=!p.done && (decide (p.waits<0) || decide ((H.ss p.s).who=0))
def WK.run (k:WK)(H:Hall)(who:Int)(s:Nat)(t:Tm):Hall × Int:=match k with
 | .bad=>(H,0)
 | .op x=>H.write who s x t
 | .sweep=>(H.sweep who s t,0)
def WP.stp (p:WP)(H:Hall)(n:Int):WP × Hall :=
 if p.at_=0 then ({ p with at_:=1 },H.lock p.who p.s)
 else if p.at_=1 then ({ p with at_:=2 },H.begin p.who p.s)
 else if p.at_=2 then ({ p with at_:=3,placed:=n,t:=(H.take p.who).t },H.take p.who)
 else if p.at_=3 then ({ p with at_:=4,err:=(p.k.run H p.who p.s p.t).2 },(p.k.run H p.who p.s p.t).1)
 else if p.at_=4 then ({ p with at_:=5 },H.pub p.who p.s)
 else if p.at_=5 then ({ p with at_:=6 },H.end_ p.who p.s)
 else ({ p with at_:=7 },H.unlock p.who p.s)
theorem stp0 {p:WP}(H:Hall)(n:Int)(h:p.at_=0):p.stp H n=({ p with at_:=1 },H.lock p.who p.s):=by simp[WP.stp,h]
theorem stp1 {p:WP}(H:Hall)(n:Int)(h:p.at_=1):p.stp H n=({ p with at_:=2 },H.begin p.who p.s):=by simp[WP.stp,h]
theorem stp2 {p:WP}(H:Hall)(n:Int)(h:p.at_=2):p.stp H n=({ p with at_:=3,placed:=n,t:=(H.take p.who).t },H.take p.who):=by simp[WP.stp,h]
theorem stp3 {p:WP}(H:Hall)(n:Int)(h:p.at_=3):p.stp H n=({ p with at_:=4,err:=(p.k.run H p.who p.s p.t).2 },(p.k.run H p.who p.s p.t).1):=by simp[WP.stp,h]
theorem stp4 {p:WP}(H:Hall)(n:Int)(h:p.at_=4):p.stp H n=({ p with at_:=5 },H.pub p.who p.s):=by simp[WP.stp,h]
theorem stp5 {p:WP}(H:Hall)(n:Int)(h:p.at_=5):p.stp H n=({ p with at_:=6 },H.end_ p.who p.s):=by simp[WP.stp,h]
theorem stp6 {p:WP}(H:Hall)(n:Int)(h:6≤p.at_):p.stp H n=({ p with at_:=7 },H.unlock p.who p.s):=by
 unfold WP.stp
 rw[if_neg (by omega),if_neg (by omega),if_neg (by omega),if_neg (by omega),if_neg (by omega),if_neg (by omega)]
def WP.step (p:WP)(H:Hall)(n:Int):WP × Hall :=
 if p.enabled H=true then (if p.k.isBad then ({ p with err:=1,placed:=n,at_:=7 },H) else p.stp H n) else (p,H)
structure WG (n:Nat)(p:WP):Prop where
 s:p.s<n
 w:-1≤p.who∧p.who≤900
 a:p.at_≤7
 t:U64 p.t.now∧U64 p.t.seq
 o:∀ x,p.k = .op x→OpW x
theorem HS.run {m:Nat}{H:Hall}(x:HS m H){k:WK}{w:Int}{s:Nat}{t:Tm}(ho:∀ o,k = .op o→OpW o)(ht:U64 t.now)(hs:s<H.n):HS (m+1) (k.run H w s t).1:=by
 cases k with
 | bad=>exact x.mono (by omega)
 | op o=>exact x.write (ho o rfl) t ht hs
 | sweep=>exact x.sweep t hs
theorem HS.stp {m:Nat}{H:Hall}(x:HS m H){p:WP}(g:WG H.n p)(n:Int):HS (m+1) (p.stp H n).2:=by
 unfold WP.stp
 split
 ·exact x.lock g.s g.w.2
 split
 ·exact x.begin g.s
 split
 ·exact x.take _
 split
 ·exact x.run g.o g.t.1 g.s
 split
 ·exact x.pub g.s
 split
 ·exact x.end_ g.s
 ·exact x.unlock g.s
theorem HS.wstep {m:Nat}{H:Hall}(x:HS m H){p:WP}(g:WG H.n p)(n:Int):HS (m+1) (p.step H n).2:=by
 unfold WP.step
 split
 ·split
  ·exact x.mono (by omega)
  ·exact x.stp g n
 ·exact x.mono (by omega)
theorem run_n (k:WK)(H:Hall)(w:Int)(s:Nat)(t:Tm):(k.run H w s t).1.n=H.n∧(k.run H w s t).1.c=H.c:=by
 cases k with
 | bad=>exact⟨rfl,rfl⟩
 | op o=>simp only[WK.run,Hall.write]; split<;>exact⟨rfl,rfl⟩
 | sweep=>exact⟨rfl,rfl⟩
theorem stp_n (p:WP)(H:Hall)(n:Int):(p.stp H n).2.n=H.n∧(p.stp H n).2.c=H.c:=by
 unfold WP.stp
 have h1:=lock_n H p.who p.s
 have h2:=unlock_n H p.who p.s
 split
 ·exact⟨h1.1,h1.2.1⟩
 split
 ·exact⟨rfl,rfl⟩
 split
 ·exact⟨rfl,rfl⟩
 split
 ·exact run_n _ _ _ _ _
 split
 ·exact⟨rfl,rfl⟩
 split
 ·exact⟨rfl,rfl⟩
 ·exact⟨h2.1,h2.2.1⟩
theorem wstep_n (p:WP)(H:Hall)(n:Int):(p.step H n).2.n=H.n∧(p.step H n).2.c=H.c:=by
 unfold WP.step
 split
 ·split
  ·exact⟨rfl,rfl⟩
  ·exact stp_n p H n
 ·exact⟨rfl,rfl⟩
theorem stp_k (p:WP)(H:Hall)(n:Int):(p.stp H n).1.k=p.k∧(p.stp H n).1.who=p.who∧(p.stp H n).1.s=p.s:=by
 unfold WP.stp
 split
 ·exact⟨rfl,rfl,rfl⟩
 split
 ·exact⟨rfl,rfl,rfl⟩
 split
 ·exact⟨rfl,rfl,rfl⟩
 split
 ·exact⟨rfl,rfl,rfl⟩
 split
 ·exact⟨rfl,rfl,rfl⟩
 split<;>exact⟨rfl,rfl,rfl⟩
theorem wstep_k (p:WP)(H:Hall)(n:Int):(p.step H n).1.k=p.k∧(p.step H n).1.who=p.who∧(p.step H n).1.s=p.s:=by
 unfold WP.step
 split
 ·split
  ·exact⟨rfl,rfl,rfl⟩
  ·exact stp_k p H n
 ·exact⟨rfl,rfl,rfl⟩
theorem stp_at (p:WP)(H:Hall)(n:Int)(h:p.at_<7):(p.stp H n).1.at_=p.at_+1:=by
 unfold WP.stp
 split
 ·simp_all
 split
 ·simp_all
 split
 ·simp_all
 split
 ·simp_all
 split
 ·simp_all
 split
 ·simp_all
 ·show 7=_; omega
theorem enabled_at {p:WP}{H:Hall}(h:p.enabled H=true):p.at_<7:=by
 simp[WP.enabled,WP.done] at h; omega
theorem WG.step {m:Nat}{H:Hall}(x:HS m H){p:WP}(g:WG H.n p)(n:Int):WG H.n (p.step H n).1:=by
 obtain⟨k1,k2,k3⟩:=wstep_k p H n
 refine⟨by rw[k3]; exact g.s,by rw[k2]; exact g.w,?_,?_,by rw[k1]; exact g.o⟩
 ·unfold WP.step
  split
  ·rename_i he
   split
   ·simp
   ·rw[stp_at p H n (enabled_at he)]; have:=enabled_at he; omega
  ·exact g.a
 ·unfold WP.step
  split
  ·split
   ·exact g.t
   ·have ht:=x.take p.who
    unfold WP.stp
    split
    ·exact g.t
    split
    ·exact g.t
    split
    ·exact⟨ht.tn,ht.ts⟩
    split
    ·exact g.t
    split
    ·exact g.t
    split<;>exact g.t
  ·exact g.t
def sect (who:Int)(s:Nat)(k:WK):WP:=⟨who,s,k,0,⟨0,0,false⟩,-1,0⟩
theorem sect_g {n s:Nat}(hs:s<n){who:Int}(hw:-1≤who∧who≤900){k:WK}(ho:∀ x,k = .op x→OpW x):WG n (sect who s k):=⟨hs,hw,by simp[sect],by simp[sect,U64],ho⟩
end Go.Den
namespace Go.Proofs.YtmbningljbcpkaaGreat
open Go Go.Den Go.MapKept
set_option linter.unusedSimpArgs false
set_option linter.unusedVariables false
set_option maxRecDepth 20000
structure StG (x:Strp):Prop where
 bw:BkW x.book
 bl:x.book.length<100000
 bs:∀ y∈x.book,y.1.size≤maxLen
 bn:∀ y∈x.book,y.2.ss.length<900000
 fg:FdG x.feed
theorem stG_of {m:Nat}{x:Strp}(s:StM m x)(h:m<100000):StG x:=⟨s.bk.bw,by have:=s.bk.bl; omega,s.bk.bs,fun y hy=>by have:=s.bk.bn y hy; omega,s.fd.g h⟩
theorem HallX.own {T T':Tags}{h h':Heap}{g:Tag}{p:Nat}{H:Hall}{sv av:Value}{Y:Nat→SV}(x:HallX T h g p H sv av Y)(k:Kp non T h T' h'):HallX T' h' g p H sv av Y :=
 ⟨(k.at x.hp x.tp (not_non _)).1,(k.at x.hp x.tp (not_non _)).2,x.st.kp k (not_non _),x.ac.kp k (not_non _),fun i hi=>(x.sr i hi).kp k (Off.non _) (not_non _)⟩
theorem put_put (H:Hall)(s:Nat)(y z:Strp):(H.put s y).put s z=H.put s z:=by
 unfold Hall.put
 congr 1
 funext k
 simp -implicitDefEqProofs only[sput]
 split<;>rfl
theorem put_at (H:Hall)(s:Nat)(y:Strp):(H.put s y).ss s=y:=by simp[Hall.put,sput]
theorem book_tell {T:Tags}{h:Heap}{g:Tag}{p b s:Nat}{H:Hall}{sv av k v cv:Value}{Y:Nat→SV}(w:Wf T h)(gg:Gd g)(x:HallX T h g p H sv av Y)(hs:s<H.n)(rb:rowOf sv=some b){B:Book}{l:List Chg}{seq:Int}
  (hb:BookR (fz T h) k v B) (hc:Sl 7 ChgR (fz T h) cv l) (hl:l.length<1000000) (fg:FdG (H.ss s).feed) {K:Heap→Prop}
  (hk:∀ h3,Only (fun t=>t=g++[1]) T h T h3→cel h3 b (s*8+7)=some (ptr (Y s).fp)→(∀ K':Value→Heap→Prop,(∀ T' h',Only (pre g) T h T' h'→HallR T' h' g p (H.put s { H.ss s with book:=B,feed:=(H.ss s).feed.tell l seq })→K' (.tuple #[]) h')→callM P qeaZ #[ptr (Y s).fp,cv,.int .u64 seq] h3 K')→K h3) :
  stM (some 2) (.pointer (some ⟨b,s*8+5,none⟩)) (.agg #[k,v]) h K:=by
 have hsr:=x.sr s hs
 have u1:=hb.1.one
 have u2:=hb.2.1.one
 refine x.stw w (off:=5) (X':={ H.ss s with book:=B }) (y':={ Y s with bk:=k,bv:=v }) hs rb rfl (by rfl) (by omega) (by simp[u1.1,u2.1]) (by simp[spl,strC]) ⟨hsr.1,hb,hsr.2.2⟩ fun h3 o3 x3=>?_
 obtain⟨b',ob,rb',hb1,tb,ia,l1,l2,l3,l4,l5,l6⟩:=x3.lds (s:=s) (k:=.i64) hs
 have hbb:b'=b:=by rw[rb] at rb'; cases rb'; rfl
 subst hbb
 rw[if_pos rfl] at l5
 refine hk h3 o3 l5 fun K' hk'=>?_
 have hf:=(x3.sr s hs).2.2
 rw[if_pos rfl,put_at] at hf
 refine tell_ok l seq o3.wf (gg.app [3,s]) hf fg (hc.ext (R:=ChgR) (@ChgR.ext) (o3.ext (by simp))) hl fun T4 h4 o4 r4=>?_
 have x4:=x3.fed hs o4 gg (f:=(H.ss s).feed.tell l seq) (by rw[if_pos rfl]; exact r4)
 rw[put_put,put_at] at x4
 exact hk' T4 h4 ((o3.mono fun t=>eq_pre).up o4 fun t=>pre_trans) ⟨sv,av,_,x4⟩
variable {K:KTy}
set_option maxHeartbeats 2000000 in
theorem hsweep_ok (who:Int){s:Nat}(t:Tm){T:Tags}{h:Heap}{g:Tag}{p:Nat}{H:Hall}(w:Wf T h)(gg:Gd g)(x:HallR T h g p H)(hs:s<H.n)(h8:H.n≤8)(hl:H.acts.length<1000000)(sg:StG (H.ss s))
  (hk:∀ T' h',Only (pre g) T h T' h'→HallR T' h' g p (H.sweep who s t)→K (.tuple #[]) h'):callM P qjnZ #[ptr p,.int .i64 who,.int .i64 s,.agg (tmC t).toArray] h K:=by
 apply qucZ
 unfold qkzZ
 refine nw_agg fun v1 h1 n1 e1 c1=>?_
 simp -implicitDefEqProofs only[tmC] at c1
 have o1:Only non T h T h1:=Only.of_ext w e1
 have t1:T v1=[]:=w v1 n1
 obtain⟨sv,av,Y,x1⟩:=x.up o1 (Off.non _) (not_non _)
 refine hwr_ok who o1.wf gg x1 hs h8 hl fun T2 h2 av2 b o2 x2 rb=>?_
 have b1:=o2.k.at c1 t1 (fun h=>U012.nil g h.up)
 unfold qoDZ
 rw[seqM_eq]
 unfold qoBZ
 obtain⟨b',ob,rb',hb1,tb,ia,l1,l2,l3,l4,l5,l6⟩:=x2.lds (s:=s) (k:=.i64) hs
 have hbb:b'=b:=by rw[rb] at rb'; cases rb'; rfl
 subst hbb
 have hsr:=x2.sr s hs
 have c1':=b1.1
 have hlen:(sweepB (H.ss s).book t.now).2.length<100000:=Nat.lt_of_le_of_lt (sweep_chg (H.ss s).book t.now (H.ss s).book.length) sg.bl
 have fin:∀ (h5:Heap) (s6:Env) (k v cv:Value) (vb:Nat),Ext h2 h5→BookR (fz T2 h5) k v (sweepB (H.ss s).book t.now).1→Sl 7 ChgR (fz T2 h5) cv (sweepB (H.ss s).book t.now).2→h5 vb=some (.cells #[k,v] qaZ (0,0))→s6 7=ptr v1→s6 8 = .pointer (some ⟨b',s*8,none⟩)→s6 9=ptr vb→s6 10=cv→qiLZ s6 h5 K []:=by
  intro h5 s6 k v cv vb e5 hb hc cvb s7 s8 s9 s10
  have o5:Only non T2 h2 T2 h5:=Only.of_ext o2.wf e5
  have x5:=x2.own o5.k
  have c1:=e5 _ _ c1'
  unfold qiLZ
  simp -implicitDefEqProofs[s7,s8,s9,s10,ld_at cvb,cel_of cvb,stm_at cvb,stm_upd,ld_same,cel_same,over]
  refine book_tell (seq:=t.seq) o5.wf gg x5 hs rb hb hc (by omega) sg.fg fun h6 o6 l6 hT=>?_
  have c1:=(o6.k.at c1 b1.2 (by simp)).1
  simp -implicitDefEqProofs[l6,ld_at c1,cel_of c1,stm_at c1,stm_upd,ld_same,cel_same,over]
  refine hT _ fun T7 h7 o7 x7=>?_
  unfold qoCZ
  simp -implicitDefEqProofs
  exact hk T7 h7 ((((o1.mono non_up).up o2 fun _=>U02.pre).up o5 non_up).up o7 fun t h=>h) x7
 simp -implicitDefEqProofs[ld_at c1',cel_of c1',stm_at c1',stm_upd,ld_same,cel_same,over,l4]
 refine⟨?_,?_⟩
 ·unfold qozZ
  refine bsweep_ok _ sg.bw sg.bl sg.bs sg.bn t.now o2.wf hsr.2.1 fun h5 k v cv e5 hb hc=>?_
  unfold qoyZ
  have p1:=hb.1.one
  have p2:=hb.2.1.one
  simp -implicitDefEqProofs only[exV_0,exV_1,ov_s,zcMap]
  refine nw_st (by simp) (by simp) (by simp[p1.1,p2.1]) fun vb h6 n6 e6 c6=>?_
  simp -implicitDefEqProofs only[cells_agg] at c6
  try simp only[thenM_n]
  refine fin h6 _ k v cv vb (e5.trans e6) (hb.ext (fz_of_ext e6)) (hc.ext (R:=ChgR) (@ChgR.ext) (fz_of_ext e6)) c6 ?_ ?_ ?_ ?_<;>simp
 ·unfold qoAZ
  rw[zcMap]
  refine nw_intro fun vb h5 n5 e5 c5=>?_
  have o5:Only non T2 h2 T2 h5:=Only.of_ext o2.wf e5
  have x5:=x2.own o5.k
  obtain⟨b'',ob',rb'',hb1',tb',ia',l1',l2',l3',l4',l5',l6'⟩:=x5.lds (s:=s) (k:=.i64) hs
  have hbb:b''=b':=by rw[rb] at rb''; cases rb''; rfl
  subst hbb
  have c1:=e5 _ _ c1'
  refine⟨l4',by simp[ld_at c1,cel_of c1,stm_at c1,stm_upd,ld_same,cel_same,over],?_⟩
  have wt:Wf (tset T2 vb lc) h5:=wf_loc o5.wf c5
  refine bsweep_ok _ sg.bw sg.bl sg.bs sg.bn t.now wt (hsr.2.1.ext (fz_in n5 e5)) fun h6 k v cv e6 hb hc=>?_
  have p1:=hb.1.one
  have p2:=hb.2.1.one
  have c6:=e6 _ _ c5
  simp -implicitDefEqProofs[ld_at c6,cel_of c6,stm_at c6,stm_upd,ld_same,cel_same,over,p1.1,p2.1]
  try simp only[thenM_n]
  refine fin _ _ k v cv vb (ext_upd n5 (e5.trans e6)) (hb.ext fz_loc) (hc.ext (R:=ChgR) (@ChgR.ext) fz_loc) (upd_same' _ _ _) ?_ ?_ ?_ ?_<;>simp
theorem settle_chg (b:Book)(u:ByteArray)(ss:List Sess)(now:Int):(settleB b u ss now).2.length≤1:=by unfold settleB; dsimp only; split<;>simp
set_option maxHeartbeats 2000000 in
theorem hwrite_ok (who:Int){s:Nat}(o:OpD)(ow:OpW o){uv:Value}(ou:One uv)(t:Tm)(ht:U64 t.now){T:Tags}{h:Heap}{g:Tag}{p:Nat}{H:Hall}(w:Wf T h)(gg:Gd g)(x:HallR T h g p H)(hs:s<H.n)(h8:H.n≤8)(hl:H.acts.length<1000000)(sg:StG (H.ss s))
  (hk:∀ T' h',Only (pre g) T h T' h'→HallR T' h' g p (H.write who s o t).1→K (.int .i64 (H.write who s o t).2) h'):callM P qjmZ #[ptr p,.int .i64 who,.int .i64 s,.agg (opC o uv).toArray,.agg (tmC t).toArray] h K:=by
 apply qubZ
 unfold qkyZ
 refine nw_agg fun v1 h0 n0 e0 c0=>?_
 refine nw_agg fun v3 h1 n1 e1 c3=>?_
 simp -implicitDefEqProofs only[tmC] at c3
 simp -implicitDefEqProofs only[opC] at c0
 have o1:Only non T h T h1:=Only.of_ext w (e0.trans e1)
 have c0:=e1 _ _ c0
 have t1:T v1=[]:=w v1 n0
 have t3:T v3=[]:=w v3 (fresh_of e0 n1)
 obtain⟨sv,av,Y,x1⟩:=x.up o1 (Off.non _) (not_non _)
 refine hwr_ok who o1.wf gg x1 hs h8 hl fun T2 h2 av2 b o2 x2 rb=>?_
 have b1:=o2.k.at c0 t1 (fun h=>U012.nil g h.up)
 have b3:=o2.k.at c3 t3 (fun h=>U012.nil g h.up)
 have c1':=b1.1
 have c3':=b3.1
 have oh:Only (pre g) T h T2 h2:=(o1.mono non_up).up o2 fun _=>U02.pre
 unfold qoxZ
 cases htc:t.closed with
 | true =>
  rw[htc] at c3'
  have e:H.write who s o t=(H.wr who s,5):=by simp[Hall.write,htc]
  rw[e] at hk
  simp -implicitDefEqProofs[ld_at c3',cel_of c3',stm_at c3',stm_upd,ld_same,cel_same,over]
  exact hk T2 h2 oh ⟨sv,av2,Y,x2⟩
 | false =>
 rw[htc] at c3'
 obtain⟨r,hr⟩:∃ r,writeB (H.ss s).book o t.now H.c.sessions=r:=⟨_,rfl⟩
 have e:H.write who s o t=((H.wr who s).put s { H.ss s with book:=r.1,feed:=(H.ss s).feed.tell r.2.1 t.seq },r.2.2):=by simp[Hall.write,htc,hr]
 rw[e] at hk
 simp -implicitDefEqProofs[ld_at c3',cel_of c3',stm_at c3',stm_upd,ld_same,cel_same,over]
 unfold qowZ
 rw[seqM_eq]
 unfold qouZ
 obtain⟨b',ob,rb',hb1,tb,ia,l1,l2,l3,l4,l5,l6⟩:=x2.lds (s:=s) (k:=.i64) hs
 have hbb:b'=b:=by rw[rb] at rb'; cases rb'; rfl
 subst hbb
 have hsr:=x2.sr s hs
 have cp:=x2.hp
 simp -implicitDefEqProofs only[hallC] at cp
 have hlen:r.2.1.length≤1:=by rw[← hr]; exact settle_chg _ _ _ _
 have fin:∀ (h5:Heap) (s6:Env) (k v cv:Value) (vb:Nat),Ext h2 h5→BookR (fz T2 h5) k v r.1→Sl 7 ChgR (fz T2 h5) cv r.2.1→h5 vb=some (.cells #[k,v] qaZ (0,0))→s6 9=ptr v3→s6 11 = .pointer (some ⟨b',s*8,none⟩)→s6 12=ptr vb→s6 13=cv→s6 14 = .int .i64 r.2.2→qiKZ s6 h5 K []:=by
  intro h5 s6 k v cv vb e5 hb hc cvb s9 s11 s12 s13 s14
  have o5:Only non T2 h2 T2 h5:=Only.of_ext o2.wf e5
  have x5:=x2.own o5.k
  have c3:=e5 _ _ c3'
  unfold qiKZ
  simp -implicitDefEqProofs[s9,s11,s12,s13,ld_at cvb,cel_of cvb,stm_at cvb,stm_upd,ld_same,cel_same,over]
  refine book_tell (seq:=t.seq) o5.wf gg x5 hs rb hb hc (by omega) sg.fg fun h6 o6 l6 hT=>?_
  have c3:=(o6.k.at c3 b3.2 (by simp)).1
  simp -implicitDefEqProofs[l6,ld_at c3,cel_of c3,stm_at c3,stm_upd,ld_same,cel_same,over]
  refine hT _ fun T7 h7 o7 x7=>?_
  unfold qovZ
  simp -implicitDefEqProofs[s14]
  exact hk T7 h7 ((oh.up o5 non_up).up o7 fun t h=>h) x7
 have oa:ldV (some (some 7)) (ptr v1) h2=some (.agg (opC o uv).toArray):=by simp[ld_at c1',opC]
 have hse:(Hall.wr H who s).c.sessions=H.c.sessions:=rfl
 simp -implicitDefEqProofs[ld_at c3',cel_of c3',stm_at c3',ld_at cp,cel_of cp,stm_at cp,stm_upd,ld_same,cel_same,over,l4,oa,hse]
 refine⟨?_,?_⟩
 ·unfold qosZ
  refine bwrite_ok _ sg.bw o ow ou ht H.c.sessions o2.wf hsr.2.1 (by have:=sg.bl; omega) ?_ fun h5 k v cv e5 hb hc=>?_
  ·rcases entOf_cases (H.ss s).book o.user with h | ⟨y,h1,h2,h3⟩
   ·show (entOf (H.ss s).book o.user).ss.length<_
    rw[h]; simp[ent0]
   ·show (entOf (H.ss s).book o.user).ss.length<_
    rw[h3]; exact sg.bn y h1
  have hb:BookR (fz T2 h5) k v r.1:=by rw[← hr]; exact hb
  have hc:Sl 7 ChgR (fz T2 h5) cv r.2.1:=by rw[← hr]; exact hc
  have hrr:(writeB ((H.wr who s).ss s).book o t.now H.c.sessions).2.2=r.2.2:=by rw[← hr]; rfl
  unfold qorZ
  have p1:=hb.1.one
  have p2:=hb.2.1.one
  simp -implicitDefEqProofs only[exV_0,exV_1,exV_2,ov_s,zcMap,hrr]
  refine nw_st (by simp) (by simp) (by simp[p1.1,p2.1]) fun vb h6 n6 e6 c6=>?_
  simp -implicitDefEqProofs only[cells_agg] at c6
  try simp only[thenM_n]
  refine fin h6 _ k v cv vb (e5.trans e6) (hb.ext (fz_of_ext e6)) (hc.ext (R:=ChgR) (@ChgR.ext) (fz_of_ext e6)) c6 ?_ ?_ ?_ ?_ ?_<;>simp[hr]
 ·unfold qotZ
  rw[zcMap]
  refine nw_intro fun vb h5 n5 e5 c5=>?_
  have o5:Only non T2 h2 T2 h5:=Only.of_ext o2.wf e5
  have x5:=x2.own o5.k
  obtain⟨b'',ob',rb'',hb1',tb',ia',l1',l2',l3',l4',l5',l6'⟩:=x5.lds (s:=s) (k:=.i64) hs
  have hbb:b''=b':=by rw[rb] at rb''; cases rb''; rfl
  subst hbb
  have c3:=e5 _ _ c3'
  have c1:=e5 _ _ c1'
  have cp:=x5.hp
  simp -implicitDefEqProofs only[hallC] at cp
  have oa:ldV (some (some 7)) (ptr v1) h5=some (.agg (opC o uv).toArray):=by simp[ld_at c1,opC]
  refine⟨l4',oa,by simp[ld_at c3,cel_of c3,stm_at c3,stm_upd,ld_same,cel_same,over],by simp[ld_at cp,cel_of cp,stm_at cp,stm_upd,ld_same,cel_same,over,hse],?_⟩
  have wt:Wf (tset T2 vb lc) h5:=wf_loc o5.wf c5
  refine bwrite_ok _ sg.bw o ow ou ht H.c.sessions wt (hsr.2.1.ext (fz_in n5 e5)) (by have:=sg.bl; omega) ?_ fun h6 k v cv e6 hb hc=>?_
  ·rcases entOf_cases (H.ss s).book o.user with h | ⟨y,h1,h2,h3⟩
   ·show (entOf (H.ss s).book o.user).ss.length<_
    rw[h]; simp[ent0]
   ·show (entOf (H.ss s).book o.user).ss.length<_
    rw[h3]; exact sg.bn y h1
  have hb:BookR (fz (tset T2 vb lc) h6) k v r.1:=by rw[← hr]; exact hb
  have hc:Sl 7 ChgR (fz (tset T2 vb lc) h6) cv r.2.1:=by rw[← hr]; exact hc
  have hrr:(writeB ((H.wr who s).ss s).book o t.now H.c.sessions).2.2=r.2.2:=by rw[← hr]; rfl
  have p1:=hb.1.one
  have p2:=hb.2.1.one
  have c6:=e6 _ _ c5
  try simp only[hrr]
  simp -implicitDefEqProofs[ld_at c6,cel_of c6,stm_at c6,stm_upd,ld_same,cel_same,over,p1.1,p2.1]
  try simp only[thenM_n]
  refine fin _ _ k v cv vb (ext_upd n5 (e5.trans e6)) (hb.ext fz_loc) (hc.ext (R:=ChgR) (@ChgR.ext) fz_loc) (upd_same' _ _ _) ?_ ?_ ?_ ?_ ?_<;>simp[hr]
end Go.Proofs.YtmbningljbcpkaaGreat
namespace Go.Proofs.YtmbningljbcpkaaGreat
open Go Go.Den Go.MapKept
set_option linter.unusedSimpArgs false
set_option linter.unusedVariables false
set_option maxRecDepth 20000
theorem fz_get {T:Tags}{h:Heap}{b:Nat}{o:Obj}(e:fz T h b=some o):h b=some o∧T b=[]:=by
 unfold fz at e
 split at e
 ·rename_i ht; exact⟨e,ht⟩
 ·cases e
def ApR (F:Heap)(ap:Value)(k:WK)(who:Int)(s:Nat):Prop:=match k with
 | .bad=>ap = .nilFunc
 | .op x=>∃ b1 b2 b3 uv,ap = .func (.func qfdZ) #[] #[ptr b1,ptr b2,ptr b3]∧F b1=some (.cells #[.int .i64 who] qsZ (0,0))∧F b2=some (.cells #[.int .i64 s] qsZ (0,0))∧F b3=some (.cells (opC x uv).toArray qaiZ (0,0))∧One uv
 | .sweep=>∃ b,ap = .func (.func qfvZ) #[] #[ptr b]∧F b=some (.cells #[.int .i64 s] qsZ (0,0))∧who=8
theorem ApR.ext {F F':Heap}{ap:Value}{k:WK}{who:Int}{s:Nat}(e:Ext F F')(x:ApR F ap k who s):ApR F' ap k who s:=by
 cases k with
 | bad=>exact x
 | op o=>obtain⟨b1,b2,b3,uv,h1,h2,h3,h4,h5⟩:=x; exact⟨b1,b2,b3,uv,h1,e _ _ h2,e _ _ h3,e _ _ h4,h5⟩
 | sweep=>obtain⟨b,h1,h2,h3⟩:=x; exact⟨b,h1,e _ _ h2,h3⟩
theorem ApR.nil {F:Heap}{ap:Value}{k:WK}{who:Int}{s:Nat}(x:ApR F ap k who s):binV .eql 6 true ap .nilFunc=some (.bool k.isBad):=by
 cases k with
 | bad=>have:ap = .nilFunc:=x; subst this; rfl
 | op o=>obtain⟨b1,b2,b3,uv,rfl,_⟩:=x; rfl
 | sweep=>obtain⟨b,rfl,_⟩:=x; rfl
def repC (e:Int):List Value:=[.int .i64 e,.slice none 0 0,.slice none 0 0,.bool false]
theorem zcRep:zc P qmZ=some #[.int .i64 0,.slice none 0 0,.slice none 0 0,.bool false]:=by kernel_rfl
theorem bdRepE (e:Int):bdV (binf P qmZ) [(0,.int .i64 e)]=some (.agg #[.int .i64 e,.slice none 0 0,.slice none 0 0,.bool false]):=by kernel_rfl
theorem bdRep0:bdV (binf P qmZ) []=some (.agg #[.int .i64 0,.slice none 0 0,.slice none 0 0,.bool false]):=by kernel_rfl
theorem opap_ok (who:Int){s:Nat}(o:OpD)(ow:OpW o){uv:Value}(ou:One uv)(t:Tm)(ht:U64 t.now){T:Tags}{h:Heap}{g:Tag}{p b1 b2 b3:Nat}{H:Hall}(w:Wf T h)(gg:Gd g)(x:HallR T h g p H)(hs:s<H.n)(h8:H.n≤8)(hl:H.acts.length<1000000)(sg:StG (H.ss s))
  (f1:fz T h b1=some (.cells #[.int .i64 who] qsZ (0,0))) (f2:fz T h b2=some (.cells #[.int .i64 s] qsZ (0,0))) (f3:fz T h b3=some (.cells (opC o uv).toArray qaiZ (0,0))) {K:KTy}
  (hk:∀ T' h',Only (pre g) T h T' h'→HallR T' h' g p (H.write who s o t).1→K (.agg (repC (H.write who s o t).2).toArray) h'):callM P qfdZ #[ptr p,.agg (tmC t).toArray,ptr b1,ptr b2,ptr b3] h K:=by
 apply quKZ
 unfold qpeZ
 rw[zcRep]
 refine nw_agg fun v1 h1 n1 e1 c1=>?_
 have o1:Only non T h T h1:=Only.of_ext w e1
 refine nw_tag o1.wf lc fun v3 T2 h2 n3 o2 t3 c3=>?_
 have x2:=(x.up o1 (Off.non _) (not_non _)).up o2 (Off.non _) (not_non _)
 have k1:=(o2.k.at (e1 _ _ (fz_get f1).1) (fz_get f1).2 (not_non _)).1
 have k2:=(o2.k.at (e1 _ _ (fz_get f2).1) (fz_get f2).2 (not_non _)).1
 have k3:=(o2.k.at (e1 _ _ (fz_get f3).1) (fz_get f3).2 (not_non _)).1
 have k4:=(o2.k.at c1 (w v1 n1) (not_non _)).1
 have oa:ldV (some (some 7)) (ptr b3) h2=some (.agg (opC o uv).toArray):=by simp[ld_at k3,opC]
 have ob:ldV (some (some 3)) (ptr v1) h2=some (.agg (tmC t).toArray):=by simp[ld_at k4,tmC]
 simp -implicitDefEqProofs only[oa,ob,ov_s]
 simp -implicitDefEqProofs[ld_at k1,cel_of k1,stm_at k1,ld_at k2,cel_of k2,stm_at k2,stm_upd,ld_same,cel_same,over]
 have m0:h v3=none:=by
  cases hh:h v3 with
  | none=>rfl
  | some o=>rw[e1 _ _ hh] at n3; cases n3
 refine hwrite_ok who o ow ou t ht o2.wf gg x2 hs h8 hl sg fun T4 h4 o4 x4=>?_
 have b3':=o4.see ⟨c3,t3⟩ gg.nlc
 have c3':=b3'.1
 simp -implicitDefEqProofs[ld_at c3',cel_of c3',stm_at c3',stm_upd,ld_same,cel_same,over,bdRepE]
 have oo:Only (pre g) T h T4 h4:=((o1.mono non_up).up o2 non_up).up o4 fun t h=>h
 exact hk T4 _ (oo.own m0 c3') (x4.lst gg oo.wf b3')
theorem swap_ok {s:Nat}(t:Tm){T:Tags}{h:Heap}{g:Tag}{p b2:Nat}{H:Hall}(w:Wf T h)(gg:Gd g)(x:HallR T h g p H)(hs:s<H.n)(h8:H.n≤8)(hl:H.acts.length<1000000)(sg:StG (H.ss s))
  (f2:fz T h b2=some (.cells #[.int .i64 s] qsZ (0,0))) {K:KTy}
  (hk:∀ T' h',Only (pre g) T h T' h'→HallR T' h' g p (H.sweep 8 s t)→K (.agg (repC 0).toArray) h'):callM P qfvZ #[ptr p,.agg (tmC t).toArray,ptr b2] h K:=by
 apply qrWZ
 unfold qgbZ
 rw[zcRep]
 refine nw_agg fun v1 h1 n1 e1 c1=>?_
 have o1:Only non T h T h1:=Only.of_ext w e1
 refine nw_tag o1.wf lc fun v3 T2 h2 n3 o2 t3 c3=>?_
 have x2:=(x.up o1 (Off.non _) (not_non _)).up o2 (Off.non _) (not_non _)
 have k2:=(o2.k.at (e1 _ _ (fz_get f2).1) (fz_get f2).2 (not_non _)).1
 have k4:=(o2.k.at c1 (w v1 n1) (not_non _)).1
 have ob:ldV (some (some 3)) (ptr v1) h2=some (.agg (tmC t).toArray):=by simp[ld_at k4,tmC]
 simp -implicitDefEqProofs only[ob,ov_s]
 simp -implicitDefEqProofs[ld_at k2,cel_of k2,stm_at k2,stm_upd,ld_same,cel_same,over]
 have m0:h v3=none:=by
  cases hh:h v3 with
  | none=>rfl
  | some o=>rw[e1 _ _ hh] at n3; cases n3
 refine hsweep_ok 8 t o2.wf gg x2 hs h8 hl sg fun T4 h4 o4 x4=>?_
 have b3':=o4.see ⟨c3,t3⟩ gg.nlc
 have c3':=b3'.1
 simp -implicitDefEqProofs[ld_at c3',cel_of c3',stm_at c3',stm_upd,ld_same,cel_same,over,bdRep0]
 have oo:Only (pre g) T h T4 h4:=((o1.mono non_up).up o2 non_up).up o4 fun t h=>h
 exact hk T4 _ (oo.own m0 c3') (x4.lst gg oo.wf b3')
variable {K:KTy}
theorem ap_ok {k:WK}{who:Int}{s:Nat}{ap:Value}(hb:k.isBad=false)(ho:∀ o,k = .op o→OpW o)(t:Tm)(ht:U64 t.now){T:Tags}{h:Heap}{g:Tag}{p:Nat}{H:Hall}(w:Wf T h)(gg:Gd g)(x:HallR T h g p H)(hs:s<H.n)(h8:H.n≤8)(hl:H.acts.length<1000000)(sg:StG (H.ss s))(a:ApR (fz T h) ap k who s)
  (hk:∀ T' h',Only (pre g) T h T' h'→HallR T' h' g p (k.run H who s t).1→K (.agg (repC (k.run H who s t).2).toArray) h'):nxM P (do let d ← Deferred.ofValue ap #[ptr p,.agg (tmC t).toArray]; invoke d.target d.args) h K:=by
 cases k with
 | bad=>simp[WK.isBad] at hb
 | op o =>
  obtain⟨b1,b2,b3,uv,rfl,f1,f2,f3,ou⟩:=a
  refine nx_fn good (by kernel_rfl) ?_
  exact opap_ok who o (ho o rfl) ou t ht w gg x hs h8 hl sg f1 f2 f3 hk
 | sweep =>
  obtain⟨b,rfl,f2,rfl⟩:=a
  refine nx_fn good (by kernel_rfl) ?_
  exact swap_ok t w gg x hs h8 hl sg f2 hk
def wpC (p:WP)(ap:Value):List Value:=[.int .i64 p.who,.int .i64 p.s,ap,.int .i64 p.at_,.int .u64 p.t.now,.int .u64 p.t.seq,.bool p.t.closed,.int .i64 p.placed,.int .i64 p.err,.slice none 0 0,.slice none 0 0,.bool false]
structure WPX (T:Tags)(h:Heap)(g:Tag)(q:Nat)(p:WP)(ap:Value):Prop where
 hp:h q=some (.cells (wpC p ap).toArray qcaZ (0,0))
 tp:T q=g++[0]
 ap:ApR (fz T h) ap p.k p.who p.s
def WPR (T:Tags)(h:Heap)(g:Tag)(q:Nat)(p:WP):Prop:=∃ ap,WPX T h g q p ap
theorem WPX.kp {U:Tag→Prop}{T T':Tags}{h h':Heap}{g:Tag}{q:Nat}{p:WP}{ap:Value}(x:WPX T h g q p ap)(k:Kp U T h T' h')(o:Off U g)(n:¬ U []):WPX T' h' g q p ap :=
 ⟨(k.at x.hp x.tp (o.at _)).1,(k.at x.hp x.tp (o.at _)).2,x.ap.ext (k.ext n)⟩
theorem WPR.kp {U:Tag→Prop}{T T':Tags}{h h':Heap}{g:Tag}{q:Nat}{p:WP}(x:WPR T h g q p)(k:Kp U T h T' h')(o:Off U g)(n:¬ U []):WPR T' h' g q p:=by
 obtain⟨ap,x⟩:=x
 exact⟨ap,x.kp k o n⟩
theorem WPX.st {T:Tags}{h:Heap}{g:Tag}{q:Nat}{p p':WP}{ap:Value}(x:WPX T h g q p ap)(w:Wf T h){c:Array Value}(hc:c=(wpC p' ap).toArray)(h1:p'.k=p.k)(h2:p'.who=p.who)(h3:p'.s=p.s) :
  Only (fun t=>t=g++[0]) T h T (upd h q (.cells c qcaZ (0,0)))∧WPX T (upd h q (.cells c qcaZ (0,0))) g q p' ap:=by
 have o1:Only (fun t=>t=g++[0]) T h T (upd h q (.cells c qcaZ (0,0))):=Only.upd w x.hp x.tp
 exact⟨o1,by rw[upd_same',hc],x.tp,by rw[h1,h2,h3]; exact x.ap.ext (o1.ext (by simp))⟩
abbrev stepA:Array Value:=#[.func (.func qaHZ) #[] #[],.func (.func qasZ) #[] #[],.func (.func qaIZ) #[] #[],.func (.func qatZ) #[] #[],.func (.func qYZ) #[] #[],.func (.func qaXZ) #[] #[],.func (.func qakZ) #[] #[]]
theorem bsSteps:Instr.fill (fun i=>some (i*1,1)) (zrow #[.nilFunc] (7*1)) [(0,(.func (.func qaHZ) #[] #[])),(1,(.func (.func qasZ) #[] #[])),(2,(.func (.func qaIZ) #[] #[])),(3,(.func (.func qatZ) #[] #[])),(4,(.func (.func qYZ) #[] #[])),(5,(.func (.func qaXZ) #[] #[])),(6,(.func (.func qakZ) #[] #[]))]=some #[.func (.func qaHZ) #[] #[],.func (.func qasZ) #[] #[],.func (.func qaIZ) #[] #[],.func (.func qatZ) #[] #[],.func (.func qYZ) #[] #[],.func (.func qaXZ) #[] #[],.func (.func qakZ) #[] #[]]:=by kernel_rfl
theorem bsStepsI:bsI P qcbZ=some (qdbZ,1,#[.nilFunc]):=by kernel_rfl
theorem steps_ok {h:Heap}(hk:∀ b h',h b=none→Ext h h'→h' b=some (.cells #[.func (.func qaHZ) #[] #[],.func (.func qasZ) #[] #[],.func (.func qaIZ) #[] #[],.func (.func qatZ) #[] #[],.func (.func qYZ) #[] #[],.func (.func qaXZ) #[] #[],.func (.func qakZ) #[] #[]] qdbZ (0,0))→K (.slice (some ⟨b,0,none⟩) 7 7) h'):callM P qfJZ #[] h K:=by
 apply quRZ
 unfold qpUZ
 rw[bsStepsI]
 simp -implicitDefEqProofs only[bsM]
 rw[bsSteps]
 exact⟨by omega,fun b hb=>hk b _ hb (Ext.upd hb _) (upd_same _ _ _)⟩
theorem wdone_ok {T:Tags}{h:Heap}{g:Tag}{q:Nat}{p:WP}(x:WPR T h g q p)(hk:∀ h',Ext h h'→K (.bool p.done) h'):callM P qaFZ #[ptr q] h K:=by
 apply qtZZ
 unfold qkwZ
 obtain⟨ap,x⟩:=x
 have cp:=x.hp
 simp -implicitDefEqProofs only[wpC] at cp
 simp -implicitDefEqProofs[ld_at cp,cel_of cp,stm_at cp,stm_upd,ld_same,cel_same,over]
 refine steps_ok fun b h1 n1 e1 c1=>?_
 have cp:=e1 _ _ cp
 simp -implicitDefEqProofs[ld_at cp,cel_of cp,stm_at cp,stm_upd,ld_same,cel_same,over]
 exact kb (hk _ e1) (by unfold WP.done; exact decide_eq_decide.2 (by omega))
theorem wwaits_ok {T:Tags}{h:Heap}{g:Tag}{q:Nat}{p:WP}(x:WPR T h g q p)(hk:K (.int .i64 p.waits) h):callM P qeJZ #[ptr q] h K:=by
 apply qttZ
 unfold qjzZ
 obtain⟨ap,x⟩:=x
 have cp:=x.hp
 simp -implicitDefEqProofs only[wpC] at cp
 have hn:=x.ap.nil
 unfold WP.waits at hk
 cases hb:p.k.isBad with
 | true =>
  rw[hb] at hn hk
  simp at hk
  simp -implicitDefEqProofs[ld_at cp,cel_of cp,stm_at cp,stm_upd,ld_same,cel_same,over,hn]
  exact hk
 | false =>
  rw[hb] at hn hk
  simp at hk
  simp -implicitDefEqProofs[ld_at cp,cel_of cp,stm_at cp,stm_upd,ld_same,cel_same,over,hn]
  refine⟨fun h=>?_,fun h=>?_⟩
  ·rw[if_pos h] at hk; exact hk
  ·rw[if_neg (by omega)] at hk; exact hk
theorem wplaced_ok {T:Tags}{h:Heap}{g:Tag}{q:Nat}{p:WP}(x:WPR T h g q p)(hk:K (.int .i64 p.placed) h):callM P qefZ #[ptr q] h K:=by
 apply qsVZ
 unfold qiHZ
 obtain⟨ap,x⟩:=x
 have cp:=x.hp
 simp -implicitDefEqProofs only[wpC] at cp
 simp -implicitDefEqProofs[ld_at cp,cel_of cp,stm_at cp,stm_upd,ld_same,cel_same,over]
 exact hk
theorem wenabled_ok {T:Tags}{h:Heap}{g gh:Tag}{q hp:Nat}{p:WP}{H:Hall}(w:Wf T h)(x:WPR T h g q p)(y:HallR T h gh hp H)(hs:p.s<H.n)(hk:∀ h',Ext h h'→K (.bool (p.enabled H)) h'):callM P qdCZ #[ptr q,ptr hp] h K:=by
 apply qsjZ
 unfold qhMZ
 refine wdone_ok x fun h1 e1=>?_
 unfold qkZZ
 have o1:Only non T h T h1:=Only.of_ext w e1
 have x1:=x.kp o1.k (Off.non _) (not_non _)
 have y1:=y.up o1 (Off.non _) (not_non _)
 cases hd:p.done with
 | true =>
  simp -implicitDefEqProofs
  exact kb (hk _ e1) (by simp[WP.enabled,hd])
 | false =>
  simp -implicitDefEqProofs
  refine wwaits_ok x1 ?_
  by_cases hw:p.waits<0
  ·simp -implicitDefEqProofs[hw]
   exact kb (hk _ e1) (by simp[WP.enabled,hd,hw])
  ·obtain⟨ap,x1'⟩:=x1
   have cp:=x1'.hp
   simp -implicitDefEqProofs only[wpC] at cp
   simp -implicitDefEqProofs[hw,ld_at cp,cel_of cp,stm_at cp,stm_upd,ld_same,cel_same,over]
   refine free_ok y1 hs fun h2 e2=>?_
   try simp
   exact kb (hk _ (e1.trans e2)) (by simp[WP.enabled,hd,hw])
end Go.Proofs.YtmbningljbcpkaaGreat
namespace Go.Proofs.YtmbningljbcpkaaGreat
open Go Go.Den Go.MapKept
set_option linter.unusedSimpArgs false
set_option linter.unusedVariables false
set_option maxRecDepth 20000
section
variable {T:Tags}{h:Heap}{g gh:Tag}{q hp:Nat}{p:WP}{H:Hall}{K:KTy}
theorem wlock_ok (w:Wf T h)(gg:Gd gh)(x:WPR T h g q p)(y:HallR T h gh hp H)(wg:WG H.n p)(h8:H.n≤8)(hl:H.acts.length<1000000)(hk:∀ T' h',Only (pre gh) T h T' h'→HallR T' h' gh hp (H.lock p.who p.s)→K (.tuple #[]) h'):callM P qaHZ #[ptr q,ptr hp] h K:=by
 apply qugZ
 unfold qkDZ
 obtain⟨ap,x⟩:=x
 have cp:=x.hp
 simp -implicitDefEqProofs only[wpC] at cp
 simp -implicitDefEqProofs[ld_at cp,cel_of cp,stm_at cp,stm_upd,ld_same,cel_same,over]
 exact lock_ok _ w gg y wg.s h8 hl (by have:=wg.w; omega) hk
theorem wbegin_ok (w:Wf T h)(gg:Gd gh)(x:WPR T h g q p)(y:HallR T h gh hp H)(wg:WG H.n p)(h8:H.n≤8)(hl:H.acts.length<1000000)(hv:U64 (H.ss p.s).v)(hb:U64 (H.ss p.s).bound)(hk:∀ T' h',Only (pre gh) T h T' h'→HallR T' h' gh hp (H.begin p.who p.s)→K (.tuple #[]) h'):callM P qasZ #[ptr q,ptr hp] h K:=by
 apply qtGZ
 unfold qjJZ
 obtain⟨ap,x⟩:=x
 have cp:=x.hp
 simp -implicitDefEqProofs only[wpC] at cp
 simp -implicitDefEqProofs[ld_at cp,cel_of cp,stm_at cp,stm_upd,ld_same,cel_same,over]
 exact begin2_ok _ w gg y wg.s h8 hl hv hb hk
theorem wpub_ok (w:Wf T h)(gg:Gd gh)(x:WPR T h g q p)(y:HallR T h gh hp H)(wg:WG H.n p)(h8:H.n≤8)(hl:H.acts.length<900000)(hk:∀ T' h',Only (pre gh) T h T' h'→HallR T' h' gh hp (H.pub p.who p.s)→K (.tuple #[]) h'):callM P qYZ #[ptr q,ptr hp] h K:=by
 apply qsrZ
 unfold qhSZ
 obtain⟨ap,x⟩:=x
 have cp:=x.hp
 simp -implicitDefEqProofs only[wpC] at cp
 simp -implicitDefEqProofs[ld_at cp,cel_of cp,stm_at cp,stm_upd,ld_same,cel_same,over]
 exact hpub_ok _ w gg y wg.s h8 (by omega) hk
theorem wend_ok (w:Wf T h)(gg:Gd gh)(x:WPR T h g q p)(y:HallR T h gh hp H)(wg:WG H.n p)(h8:H.n≤8)(hl:H.acts.length<1000000)(hv:U64 (H.ss p.s).v)(hw:wrt (H.ss p.s).v=true→(H.ss p.s).v<18446744073709551615)(hk:∀ T' h',Only (pre gh) T h T' h'→HallR T' h' gh hp (H.end_ p.who p.s)→K (.tuple #[]) h'):callM P qaXZ #[ptr q,ptr hp] h K:=by
 apply quyZ
 unfold qlTZ
 obtain⟨ap,x⟩:=x
 have cp:=x.hp
 simp -implicitDefEqProofs only[wpC] at cp
 simp -implicitDefEqProofs[ld_at cp,cel_of cp,stm_at cp,stm_upd,ld_same,cel_same,over]
 exact hend_ok _ w gg y wg.s h8 hl hv hw hk
theorem wunlock_ok (w:Wf T h)(gg:Gd gh)(x:WPR T h g q p)(y:HallR T h gh hp H)(wg:WG H.n p)(h8:H.n≤8)(hl:H.acts.length<1000000)(hw:0≤(H.ss p.s).who∧(H.ss p.s).who≤1000)(hk:∀ T' h',Only (pre gh) T h T' h'→HallR T' h' gh hp (H.unlock p.who p.s)→K (.tuple #[]) h'):callM P qakZ #[ptr q,ptr hp] h K:=by
 apply qtdZ
 unfold qiSZ
 obtain⟨ap,x⟩:=x
 have cp:=x.hp
 simp -implicitDefEqProofs only[wpC] at cp
 simp -implicitDefEqProofs[ld_at cp,cel_of cp,stm_at cp,stm_upd,ld_same,cel_same,over]
 exact unlock_ok _ w gg y wg.s h8 hl (by omega) hk
theorem wtake_ok (w:Wf T h)(gg:Gd gh)(d1:Off (pre gh) g)(d2:Off (pre g) gh)(g2:Gd g)(x:WPR T h g q p)(y:HallR T h gh hp H)(ht:U64 H.t.seq)(hl:H.acts.length<1000000)(hk:∀ T' h',Only (two (pre g) (pre gh)) T h T' h'→WPR T' h' g q { p with t:=(H.take p.who).t }→HallR T' h' gh hp (H.take p.who)→K (.tuple #[]) h'):callM P qaIZ #[ptr q,ptr hp] h K:=by
 apply quhZ
 unfold qkEZ
 obtain⟨ap,x⟩:=x
 have cp:=x.hp
 simp -implicitDefEqProofs only[wpC] at cp
 simp -implicitDefEqProofs[ld_at cp,cel_of cp,stm_at cp,stm_upd,ld_same,cel_same,over]
 refine htake_ok _ w gg y ht hl fun T1 h1 o1 y1=>?_
 have x1:=x.kp o1.k d1 gg.nil
 have cp:=x1.hp
 simp -implicitDefEqProofs only[wpC] at cp
 obtain⟨o2,x2⟩:=x1.st (p':={ p with t:=(H.take p.who).t }) o1.wf (c:=_) rfl rfl rfl rfl
 simp -implicitDefEqProofs[ld_at cp,cel_of cp,stm_at cp,stm_upd,ld_same,cel_same,over,tmC]
 refine hk T1 _ ((o1.mono fun _=>.inr).up o2 fun _ hh=>.inl (eq_pre hh)) ⟨ap,?_⟩ (y1.up o2 (fun t ht hh=>d2 t ht (eq_pre hh)) (by simp))
 exact x2
theorem wwrite_ok (w:Wf T h)(gg:Gd gh)(d1:Off (pre gh) g)(d2:Off (pre g) gh)(g2:Gd g)(x:WPR T h g q p)(y:HallR T h gh hp H)(wg:WG H.n p)(hb:p.k.isBad=false)(h8:H.n≤8)(hl:H.acts.length<1000000)(sg:StG (H.ss p.s))(hk:∀ T' h',Only (two (pre g) (pre gh)) T h T' h'→WPR T' h' g q { p with err:=(p.k.run H p.who p.s p.t).2 }→HallR T' h' gh hp (p.k.run H p.who p.s p.t).1→K (.tuple #[]) h'):callM P qatZ #[ptr q,ptr hp] h K:=by
 apply qtHZ
 unfold qjKZ
 obtain⟨ap,x⟩:=x
 have cp:=x.hp
 simp -implicitDefEqProofs only[wpC] at cp
 have oa:ldV (some (some 3)) (.pointer (some ⟨q,4,none⟩)) h=some (.agg (tmC p.t).toArray):=by simp[ld_at cp,tmC]
 simp -implicitDefEqProofs[ld_at cp,cel_of cp,stm_at cp,stm_upd,ld_same,cel_same,over,oa]
 refine ap_ok hb wg.o p.t wg.t.1 w gg y wg.s h8 hl sg x.ap fun T1 h1 o1 y1=>?_
 have x1:=x.kp o1.k d1 gg.nil
 have cp:=x1.hp
 simp -implicitDefEqProofs only[wpC] at cp
 obtain⟨o2,x2⟩:=x1.st (p':={ p with err:=(p.k.run H p.who p.s p.t).2 }) o1.wf (c:=_) rfl rfl rfl rfl
 simp -implicitDefEqProofs[ld_at cp,cel_of cp,stm_at cp,stm_upd,ld_same,cel_same,over,repC]
 refine hk T1 _ ((o1.mono fun _=>.inr).up o2 fun _ hh=>.inl (eq_pre hh)) ⟨ap,?_⟩ (y1.up o2 (fun t ht hh=>d2 t ht (eq_pre hh)) (by simp))
 exact x2
end
variable {K:KTy}
theorem wact_ok {T:Tags}{h:Heap}{g gh:Tag}{q hp m:Nat}{p:WP}{H:Hall}(n:Int)(w:Wf T h)(gg:Gd gh)(d1:Off (pre gh) g)(d2:Off (pre g) gh)(g2:Gd g)(x:WPR T h g q p)(y:HallR T h gh hp H)(hs:HS m H)(hm:m<100000)(wg:WG H.n p)(hb:p.k.isBad=false)(h7:p.at_<7){f:Value}
  (hf:stepA[p.at_]?=some f) (hpl:p.at_=2→p.placed=n)
  (hk:∀ T' h',Only (two (pre g) (pre gh)) T h T' h'→WPR T' h' g q { (p.stp H n).1 with at_:=p.at_ }→HallR T' h' gh hp (p.stp H n).2→K (.tuple #[]) h'):nxM P (do let d ← Deferred.ofValue f #[ptr q,ptr hp]; invoke d.target d.args) h K:=by
 have st:=hs.st p.s wg.s
 have n8:=hs.n8.2
 have ac:H.acts.length<900000:=by have:=hs.ac; omega
 have up:∀ T' h',Only (pre gh) T h T' h'→Only (two (pre g) (pre gh)) T h T' h'∧WPR T' h' g q p:=fun T' h' o=>⟨o.mono fun _=>.inr,x.kp o.k d1 gg.nil⟩
 by_cases h0:p.at_=0
 ·rw[stp0 H n h0] at hk
  simp -implicitDefEqProofs only[h0] at hf hk
  cases hf
  refine nx_fn good (by kernel_rfl) ?_
  refine wlock_ok w gg x y wg n8 (by omega) fun T1 h1 o1 y1=>hk T1 h1 (up _ _ o1).1 ?_ y1
  have:=(up _ _ o1).2
  rw[← h0]; exact this
 by_cases h1:p.at_=1
 ·rw[stp1 H n h1] at hk
  simp -implicitDefEqProofs only[h1] at hf hk
  cases hf
  refine nx_fn good (by kernel_rfl) ?_
  refine wbegin_ok w gg x y wg n8 (by omega) st.wr.1 st.wr.2.1 fun T1 h2 o1 y1=>hk T1 h2 (up _ _ o1).1 ?_ y1
  have:=(up _ _ o1).2
  rw[← h1]; exact this
 by_cases h2:p.at_=2
 ·rw[stp2 H n h2] at hk
  simp -implicitDefEqProofs only[h2] at hf hk
  cases hf
  refine nx_fn good (by kernel_rfl) ?_
  refine wtake_ok w gg d1 d2 g2 x y hs.ts (by omega) fun T1 h3 o1 x1 y1=>hk T1 h3 o1 ?_ y1
  rw[← hpl h2,← h2]; exact x1
 by_cases h3:p.at_=3
 ·rw[stp3 H n h3] at hk
  simp -implicitDefEqProofs only[h3] at hf hk
  cases hf
  refine nx_fn good (by kernel_rfl) ?_
  refine wwrite_ok w gg d1 d2 g2 x y wg hb n8 (by omega) (stG_of st hm) fun T1 h4 o1 x1 y1=>hk T1 h4 o1 ?_ y1
  rw[← h3]; exact x1
 by_cases h4:p.at_=4
 ·rw[stp4 H n h4] at hk
  simp -implicitDefEqProofs only[h4] at hf hk
  cases hf
  refine nx_fn good (by kernel_rfl) ?_
  refine wpub_ok w gg x y wg n8 ac fun T1 h5 o1 y1=>hk T1 h5 (up _ _ o1).1 ?_ y1
  have:=(up _ _ o1).2
  rw[← h4]; exact this
 by_cases h5:p.at_=5
 ·rw[stp5 H n h5] at hk
  simp -implicitDefEqProofs only[h5] at hf hk
  cases hf
  refine nx_fn good (by kernel_rfl) ?_
  refine wend_ok w gg x y wg n8 (by omega) st.wr.1 st.wr.2.2 fun T1 h6 o1 y1=>hk T1 h6 (up _ _ o1).1 ?_ y1
  have:=(up _ _ o1).2
  rw[← h5]; exact this
 ·have h6:p.at_=6:=by omega
  rw[stp6 H n (by omega)] at hk
  simp -implicitDefEqProofs only[h6] at hf hk
  cases hf
  refine nx_fn good (by kernel_rfl) ?_
  refine wunlock_ok w gg x y wg n8 (by omega) st.wh fun T1 h7 o1 y1=>hk T1 h7 (up _ _ o1).1 ?_ y1
  have:=(up _ _ o1).2
  rw[← h6]; exact this
set_option maxHeartbeats 2000000 in
theorem wstep_ok {T:Tags}{h:Heap}{g gh:Tag}{q hp m:Nat}{p:WP}{H:Hall}(n:Int)(w:Wf T h)(gg:Gd gh)(d1:Off (pre gh) g)(d2:Off (pre g) gh)(g2:Gd g)(x:WPR T h g q p)(y:HallR T h gh hp H)(hs:HS m H)(hm:m<100000)(wg:WG H.n p)
  (hk:∀ T' h',Only (two (pre g) (pre gh)) T h T' h'→WPR T' h' g q (p.step H n).1→HallR T' h' gh hp (p.step H n).2→K (.tuple #[]) h'):callM P qaEZ #[ptr q,ptr hp,.int .i64 n] h K:=by
 apply qtYZ
 unfold qkvZ
 refine wenabled_ok w x y wg.s fun h1 e1=>?_
 have o1:Only non T h T h1:=Only.of_ext w e1
 obtain⟨ap,x⟩:=x.kp o1.k (Off.non _) (not_non _)
 have y:=y.up o1 (Off.non _) (not_non _)
 have cp:=x.hp
 simp -implicitDefEqProofs only[wpC] at cp
 unfold qonZ
 cases he:p.enabled H with
 | false =>
  simp -implicitDefEqProofs
  have e:p.step H n=(p,H):=by simp[WP.step,he]
  rw[e] at hk
  exact hk T h1 (o1.mono non_up) ⟨ap,x⟩ y
 | true =>
  have h7:=enabled_at he
  simp -implicitDefEqProofs
  unfold qomZ
  have hn:=x.ap.nil
  cases hb:p.k.isBad with
  | true =>
   rw[hb] at hn
   have e:p.step H n=({ p with err:=1,placed:=n,at_:=7 },H):=by simp[WP.step,he,hb]
   rw[e] at hk
   simp -implicitDefEqProofs[ld_at cp,cel_of cp,stm_at cp,stm_upd,ld_same,cel_same,over,hn]
   unfold qohZ
   simp -implicitDefEqProofs[bdRepE]
   refine steps_ok fun b h2 n2 e2 c2=>?_
   unfold qogZ
   have o2:Only non T h1 T h2:=Only.of_ext o1.wf e2
   have x:=x.kp o2.k (Off.non _) (not_non _)
   have y:=y.up o2 (Off.non _) (not_non _)
   have cp:=x.hp
   simp -implicitDefEqProofs only[wpC] at cp
   obtain⟨o3,x3⟩:=x.st (p':={ p with err:=1,placed:=n,at_:=7 }) o2.wf (c:=_) rfl rfl rfl rfl
   simp -implicitDefEqProofs[ld_at cp,cel_of cp,stm_at cp,stm_upd,ld_same,cel_same,over]
   refine hk T _ (((o1.mono non_up).up o2 non_up).up o3 fun _ hh=>.inl (eq_pre hh)) ⟨ap,?_⟩ (y.up o3 (fun t ht hh=>d2 t ht (eq_pre hh)) (by simp))
   exact x3
  | false =>
   rw[hb] at hn
   have e:p.step H n=p.stp H n:=by simp[WP.step,he,hb]
   rw[e] at hk
   simp -implicitDefEqProofs[ld_at cp,cel_of cp,stm_at cp,stm_upd,ld_same,cel_same,over,hn]
   unfold qolZ
   rw[seqM_eq]
   -- the act,and going on
   have fin:∀ (p1:WP) (h3:Heap) (s:Env),Only (two (pre g) (pre gh)) T h T h3→WPR T h3 g q p1→HallR T h3 gh hp H→WG H.n p1→p1.stp H n=p.stp H n→p1.at_=p.at_→p1.k=p.k→(p1.at_=2→p1.placed=n)→s 0=ptr q→s 1=ptr hp→qiGZ s h3 K []:=by
    intro p1 h3 s o3 x3 y3 g3 est eat ek epl s0 s1
    obtain⟨ap3,x3'⟩:=x3
    have cp:=x3'.hp
    simp -implicitDefEqProofs only[wpC] at cp
    unfold qiGZ
    simp -implicitDefEqProofs[s0,s1,ld_at cp,cel_of cp,stm_at cp,stm_upd,ld_same,cel_same,over]
    refine steps_ok fun b h4 n4 e4 c4=>?_
    have o4:Only non T h3 T h4:=Only.of_ext o3.wf e4
    have x4:=x3'.kp o4.k (Off.non _) (not_non _)
    have y4:=y3.up o4 (Off.non _) (not_non _)
    have cp:=x4.hp
    simp -implicitDefEqProofs only[wpC] at cp
    unfold qnhZ
    have h17:p1.at_<7:=by omega
    obtain⟨f,hf⟩:∃ f,stepA[p1.at_]?=some f:=⟨_,Array.getElem?_eq_getElem (xs:=stepA) (i:=p1.at_) h17⟩
    have hia:iaV (some (none,1)) (.slice (some ⟨b,0,none⟩) 7 7) (.int .i64 p1.at_)=some (.pointer (some ⟨b,p1.at_,none⟩)):=by
     have:(0:Int)≤p1.at_∧(p1.at_:Int)<7:=by omega
     simp -implicitDefEqProofs[iaV,this]
    have hcl:cel h4 b p1.at_=some f:=by rw[cel_of c4]; exact hf
    simp -implicitDefEqProofs[ld_at cp,cel_of cp,stm_at cp,stm_upd,ld_same,cel_same,over,hia,hcl,s0,s1]
    refine wact_ok n o4.wf gg d1 d2 g2 ⟨ap3,x4⟩ y4 hs hm g3 (by rw[ek]; exact hb) h17 hf epl fun T5 h5 o5 x5 y5=>?_
    obtain⟨ap5,x5⟩:=x5
    have cp:=x5.hp
    simp -implicitDefEqProofs only[wpC] at cp
    unfold qngZ
    have hw:IntKind.i64.wrap ((p1.at_:Int)+1)=(p1.at_+1:Nat):=by rw[wrap64_id (by omega) (by omega)]; omega
    have hat:=stp_at p1 H n h17
    obtain⟨o6,x6⟩:=x5.st (p':=(p1.stp H n).1) o5.wf (c:=_) rfl rfl rfl rfl
    have x6':=x6.hp
    simp -implicitDefEqProofs only[wpC,hat] at o6 x6'
    simp -implicitDefEqProofs[ld_at cp,cel_of cp,stm_at cp,stm_upd,ld_same,cel_same,over,hw,s0,s1,-Int.natCast_add]
    refine hk T5 _ (((o3.up o4 non_up).up o5 fun _ hh=>hh).up o6 fun _ hh=>.inl (eq_pre hh)) ⟨ap5,?_⟩ (by rw[← est]; exact y5.up o6 (fun t ht hh=>d2 t ht (eq_pre hh)) (by simp))
    rw[← est]
    simp -implicitDefEqProofs only[wpC,hat] at x6
    exact x6
   unfold qokZ
   simp -implicitDefEqProofs[ld_at cp,cel_of cp,stm_at cp,stm_upd,ld_same,cel_same,over]
   refine⟨fun h2=>?_,fun h2=>?_⟩
   ·have h2:p.at_=2:=by omega
    unfold qoiZ
    obtain⟨o3,x3⟩:=x.st (p':={ p with placed:=n }) o1.wf (c:=_) rfl rfl rfl rfl
    simp -implicitDefEqProofs[ld_at cp,cel_of cp,stm_at cp,stm_upd,ld_same,cel_same,over]
    refine fin { p with placed:=n } _ _ ((o1.mono non_up).up o3 fun _ hh=>.inl (eq_pre hh)) ⟨ap,?_⟩ (y.up o3 (fun t ht hh=>d2 t ht (eq_pre hh)) (by simp)) ⟨wg.s,wg.w,wg.a,wg.t,wg.o⟩ ?_ rfl rfl (fun _=>rfl) ?_ ?_
    ·exact x3
    ·rw[stp2 H n h2,stp2 H n (by exact h2)]
    ·simp -implicitDefEqProofs
    ·simp -implicitDefEqProofs
   ·have h2:p.at_≠2:=by omega
    unfold qojZ
    simp -implicitDefEqProofs
    refine fin p h1 _ (o1.mono non_up) ⟨ap,x⟩ y wg rfl rfl rfl (fun h=>absurd h h2) ?_ ?_<;>simp
end Go.Proofs.YtmbningljbcpkaaGreat
namespace Go.Den
open Go
set_option linter.unusedVariables false
set_option linter.unusedSimpArgs false
deriving instance DecidableEq for Ent
deriving instance DecidableEq for Evt
end Go.Den
namespace Go.Den
open Go
set_option linter.unusedVariables false
set_option linter.unusedSimpArgs false
def evt0:Evt:=⟨⟨#[]⟩,⟨0,0,0⟩,⟨0,0,0⟩,0⟩
def hdE (l:List Evt):Evt:=l.headD evt0
def nth (r:List (List Evt))(i:Nat):List Evt:=r.getD i []
def bestE (r:List (List Evt)):Nat→Option Nat
 | 0=>none
 | k+1=>match bestE r k with
  | none=>if nth r k=[] then none else some k
  | some b=>if nth r k≠[]∧(hdE (nth r k)).seq<(hdE (nth r b)).seq then some k else some b
def mergeF:Nat→List (List Evt)→List Evt
 | 0,_=>[]
 | f+1,r=>match bestE r r.length with
  | none=>[]
  | some b=>hdE (nth r b)::mergeF f (r.set b (nth r b).tail)
def totE (r:List (List Evt)):Nat:=(r.map (·.length)).sum
def mergeE (r:List (List Evt)):List Evt:=mergeF (totE r) r
structure Tbl where
 c:Cfg
 t:Tm
 n:Nat
 bk:Nat→Book
 fd:Nat→Feed
def rep0:Reply:=⟨0,[],[],false⟩
def repE (e:Int):Reply:=⟨e,[],[],false⟩
def bset {α:Type}(f:Nat→α)(i:Nat)(x:α):Nat→α:=fun k=>if k=i then x else f k
def Tbl.stripe (M:Tbl)(u:ByteArray):Nat:=(stripeOf u M.c.stripes).toNat
def Tbl.take (M:Tbl):Tbl:={ M with t:={ M.t with seq:=addU M.t.seq 1 } }
def Tbl.sweepAt (M:Tbl)(s:Nat)(t:Tm):Tbl:={ M with bk:=bset M.bk s (sweepB (M.bk s) t.now).1,fd:=bset M.fd s ((M.fd s).tell (sweepB (M.bk s) t.now).2 t.seq) }
def Tbl.sweep (M:Tbl)(s:Int):Tbl:=if 0≤s∧s<M.n then M.take.sweepAt s.toNat M.take.t else M
def Tbl.writeAt (M:Tbl)(s:Nat)(x:OpD)(t:Tm):Tbl:={ M with bk:=bset M.bk s (writeB (M.bk s) x t.now M.c.sessions).1,fd:=bset M.fd s ((M.fd s).tell (writeB (M.bk s) x t.now M.c.sessions).2.1 t.seq) }
def Tbl.write (M:Tbl)(x:OpD):Tbl × Reply :=
 if M.t.closed then (M.take,repE 5) else (M.take.writeAt (M.stripe x.user) x M.take.t,repE (writeB (M.bk (M.stripe x.user)) x M.t.now M.c.sessions).2.2)
def Tbl.count (M:Tbl)(who:Int):Nat:=((List.range M.n).map fun s=>(M.fd s).count who).sum
def Tbl.fed (M:Tbl)(s:Nat)(f:Feed):Tbl:={ M with fd:=bset M.fd s f }
def Tbl.watch (M:Tbl)(who:Int)(u:ByteArray):Tbl × Reply :=
 if (M.fd (M.stripe u)).watching who u=false∧M.c.watches≤M.count who then (M,repE 4) else (M.fed (M.stripe u) ((M.fd (M.stripe u)).watch who u),rep0)
def Tbl.drainTo (M:Tbl)(who:Int)(k:Nat):Tbl:={ M with fd:=fun s=>if s<k then (M.fd s).drain who else M.fd s }
def Tbl.lostTo (M:Tbl)(who:Int)(k:Nat):Bool:=(List.range k).any fun s=>(M.fd s).lost who
def Tbl.toldTo (M:Tbl)(who:Int)(k:Nat):List (List Evt):=(List.range k).map fun s=>(M.fd s).told who
def Tbl.poll (M:Tbl)(who:Int):Tbl × Reply:=(M.drainTo who M.n,⟨0,[],mergeE (M.toldTo who M.n),M.lostTo who M.n⟩)
def Tbl.pres (M:Tbl)(u:ByteArray):Pres:=presB (M.bk (M.stripe u)) u M.t.now
def Tbl.do_ (M:Tbl)(who:Int)(x:OpD):Tbl × Reply :=
 if badB x=true∨clientB who=false then (M,repE 1)
 else if x.kind=1∨x.kind=2∨x.kind=3 then M.write x
 else if x.kind=8 then M.poll who
 else if M.t.closed then (M,repE 5)
 else if x.kind=6 then M.watch who x.user
 else if x.kind=7 then (M.fed (M.stripe x.user) ((M.fd (M.stripe x.user)).unwatch who x.user),rep0)
 else if x.kind=9 then ({ M with t:={ M.t with closed:=true } },rep0)
 else (M,⟨0,(usersOf x).map M.pres,[],false⟩)
def Tbl.stored (M:Tbl):Nat:=((List.range M.n).map fun s=>storedB (M.bk s)).sum
def tbl0 (c:Cfg)(n:Nat):Tbl:=⟨c,⟨c.start,0,false⟩,n,fun _=>[],fun _=>feed0 c.queue⟩
def Hall.tbl (H:Hall):Tbl:=⟨H.c,H.t,H.n,fun s=>(H.ss s).book,fun s=>(H.ss s).feed⟩
def Hall.stored (H:Hall):Nat:=H.tbl.stored
def Hall.quiet (H:Hall)(s:Nat):Bool:=!wrt (H.ss s).v && decide ((H.ss s).snap=(H.ss s).book)
structure TS (m:Nat)(M:Tbl):Prop where
 rt:rightB M.c=true
 cw:CfgW M.c
 nn:(M.n:Int)=M.c.stripes
 bk:∀ s,s<M.n→BkM m (M.bk s)
 fd:∀ s,s<M.n→FdM m (M.fd s)
 tn:U64 M.t.now
 ts:U64 M.t.seq
theorem TS.mono {m k:Nat}{M:Tbl}(x:TS m M)(h:m≤k):TS k M:=⟨x.rt,x.cw,x.nn,fun s hs=>(x.bk s hs).mono h,fun s hs=>(x.fd s hs).mono h,x.tn,x.ts⟩
theorem stripeOf_lt {u:ByteArray}{n:Int}(h:1≤n):0≤stripeOf u n∧stripeOf u n<n:=by
 have:=fnv_rng u
 unfold stripeOf
 rw[if_neg (by omega)]
 exact⟨Int.emod_nonneg _ (by omega),Int.emod_lt_of_pos _ (by omega)⟩
theorem TS.stripe {m:Nat}{M:Tbl}(x:TS m M)(u:ByteArray):M.stripe u<M.n:=by
 have h1:=x.rt; have h2:=x.nn
 simp only[rightB,decide_eq_true_eq] at h1
 have:=stripeOf_lt (u:=u) (n:=M.c.stripes) (by omega)
 unfold Tbl.stripe; omega
theorem HS.tbl {m:Nat}{H:Hall}(x:HS m H):TS m H.tbl:=⟨x.rt,x.cw,x.nn,fun s hs=>(x.st s hs).bk,fun s hs=>(x.st s hs).fd,x.tn,x.ts⟩
end Go.Den
namespace Go.Den
open Go
set_option linter.unusedVariables false
set_option linter.unusedSimpArgs false
def Lv (b:Book)(now:Int):Prop:=∀ x∈b,∀ s∈x.2.ss,now<s.un
end Go.Den
namespace Go.Den
open Go
set_option linter.unusedVariables false
set_option linter.unusedSimpArgs false
abbrev Mine:=List ByteArray
def miset (m:Mine)(u:ByteArray)(on:Bool):Mine:=(m.filter fun k=>!decide (k=u))++if on then [u] else []
def mhas (m:Mine)(u:ByteArray):Bool:=m.any fun k=>decide (k=u)
theorem mhas_iff {m:Mine}{u:ByteArray}:mhas m u=true↔u∈m:=by simp[mhas]
structure HP where
 who:Int
 x:OpD
 k:Nat
 s:Nat
 at_:Nat
 t:Tm
 placed:Int
 rep:Reply
 all:List (List Evt)
def HP.one (p:HP):Bool:=badB p.x || decide (p.x.kind=9)
def HP.steps (p:HP):Nat:=if p.one then 1 else if p.x.kind=8 then 3*p.k+1 else 4
def HP.done (p:HP):Bool:=decide (p.steps≤p.at_)
def HP.needs (p:HP):Int:=if p.one then -1 else if p.x.kind=8 then (if p.at_<p.k then p.at_ else -1) else if p.at_=0 then p.s else -1
def HP.enabled (p:HP)(H:Hall):Bool:=!p.done && (decide (p.needs<0) || decide ((H.ss p.needs.toNat).who=0))
def HP.stpP (p:HP)(H:Hall)(n:Int):HP × Hall :=
 if p.at_<p.k then ({ p with at_:=p.at_+1 },H.lock p.who p.at_)
 else if p.at_=p.k then ({ p with at_:=p.at_+1,t:=H.t,placed:=n },H.look p.who)
 else if p.at_≤2*p.k then
  ({ p with at_:=p.at_+1,all:=p.all++[(H.ss (p.at_-p.k-1)).feed.told p.who],rep:={ p.rep with lost:=p.rep.lost || (H.ss (p.at_-p.k-1)).feed.lost p.who } },H.drain p.who (p.at_-p.k-1))
 else ({ p with at_:=p.at_+1,rep:={ p.rep with evs:=mergeE p.all } },H.unlock p.who (p.at_-2*p.k-1))
def HP.stpW (p : HP) (m : Mine) (H : Hall) (n : Int) : HP × Mine × Hall :=
  if p.at_ = 0 then ({ p with at_ := 1 }, m, H.lock p.who p.s)
  else if p.at_ = 1 then ({ p with at_ := 2, t := H.t, placed := n }, m, H.look p.who)
  else if p.at_ = 2 then
    (if p.t.closed then ({ p with at_ := 3, rep := { p.rep with err := 5 } }, m, H)
     else if p.x.kind = 6 ∧ mhas m p.x.user = false ∧ H.c.watches ≤ m.length then ({ p with at_ := 3, rep := { p.rep with err := 4 } }, m, H)
     else ({ p with at_ := 3 }, miset m p.x.user (decide (p.x.kind = 6)), H.watch p.who p.s p.x.user (decide (p.x.kind = 6))))
  else ({ p with at_ := p.at_ + 1 }, m, H.unlock p.who p.s)
def HP.stp (p:HP)(m:Mine)(H:Hall)(n:Int):HP × Mine × Hall :=
 if badB p.x then ({ p with at_:=1,placed:=n,rep:={ p.rep with err:=1 } },m,H)
 else if p.x.kind=9 then ({ p with at_:=1,placed:=n,rep:=if H.t.closed then { p.rep with err:=5 } else p.rep },m,H.shut p.who)
 else if p.x.kind=8 then ((p.stpP H n).1,m,(p.stpP H n).2)
 else p.stpW m H n
def HP.step (p:HP)(m:Mine)(H:Hall)(n:Int):HP × Mine × Hall:=if p.enabled H=true then p.stp m H n else (p,m,H)
structure HPG (n:Nat)(p:HP):Prop where
 k:p.k=n
 s:p.s<n
 w:-1≤p.who∧p.who≤900
 o:OpW p.x
 a:p.at_≤p.steps
theorem HP.lt_of_en {p:HP}{H:Hall}(h:p.enabled H=true):p.at_<p.steps:=by
 simp[HP.enabled,HP.done] at h; omega
theorem HP.kind_of {p:HP}(h1:badB p.x=false)(h2:p.x.kind≠9)(h3:p.x.kind≠8):p.one=false∧p.steps=4:=by
 have:p.one=false:=by simp[HP.one,h1,h2]
 exact⟨this,by simp[HP.steps,this,h3]⟩
theorem HP.poll_of {p:HP}(h1:badB p.x=false)(h3:p.x.kind=8):p.one=false∧p.steps=3*p.k+1:=by
 have:p.one=false:=by simp[HP.one,h1,h3]
 exact⟨this,by simp[HP.steps,this,h3]⟩
theorem HS.hstep {m:Nat}{H:Hall}(x:HS m H){p:HP}(g:HPG H.n p)(M:Mine)(n:Int):HS (m+1) (p.step M H n).2.2:=by
 unfold HP.step
 split
 ·rename_i he
  have hl:=HP.lt_of_en he
  unfold HP.stp
  split
  ·exact x.mono (by omega)
  rename_i hb
  have hb:badB p.x=false:=by simpa using hb
  split
  ·exact x.shut _
  rename_i h9
  split
  ·rename_i h8
   obtain⟨_,hst⟩:=HP.poll_of hb h8
   have hk:=g.k
   unfold HP.stpP
   split
   ·exact x.lock (by omega) g.w.2
   split
   ·exact x.look _
   split
   ·exact x.drain (by omega)
   ·exact x.unlock (by omega)
  ·rename_i h8
   unfold HP.stpW
   split
   ·exact x.lock g.s g.w.2
   split
   ·exact x.look _
   split
   ·split
    ·exact x.mono (by omega)
    split
    ·exact x.mono (by omega)
    ·exact x.watch g.s g.o.s1 _
   ·exact x.unlock g.s
 ·exact x.mono (by omega)
theorem hstep_n (p:HP)(M:Mine)(H:Hall)(n:Int):(p.step M H n).2.2.n=H.n∧(p.step M H n).2.2.c=H.c:=by
 have hl:=fun w s=>lock_n H w s
 have hu:=fun w s=>unlock_n H w s
 unfold HP.step
 split
 ·unfold HP.stp
  split
  ·exact⟨rfl,rfl⟩
  split
  ·exact⟨rfl,rfl⟩
  split
  ·unfold HP.stpP
   split
   ·exact⟨(hl _ _).1,(hl _ _).2.1⟩
   split
   ·exact⟨rfl,rfl⟩
   split
   ·exact⟨rfl,rfl⟩
   ·exact⟨(hu _ _).1,(hu _ _).2.1⟩
  ·unfold HP.stpW
   split
   ·exact⟨(hl _ _).1,(hl _ _).2.1⟩
   split
   ·exact⟨rfl,rfl⟩
   split
   ·split
    ·exact⟨rfl,rfl⟩
    split<;>exact⟨rfl,rfl⟩
   ·exact⟨(hu _ _).1,(hu _ _).2.1⟩
 ·exact⟨rfl,rfl⟩
theorem hstep_k (p:HP)(M:Mine)(H:Hall)(n:Int):(p.step M H n).1.who=p.who∧(p.step M H n).1.x=p.x∧(p.step M H n).1.k=p.k∧(p.step M H n).1.s=p.s:=by
 unfold HP.step
 split
 ·unfold HP.stp
  split
  ·exact⟨rfl,rfl,rfl,rfl⟩
  split
  ·exact⟨rfl,rfl,rfl,rfl⟩
  split
  ·unfold HP.stpP
   split
   ·exact⟨rfl,rfl,rfl,rfl⟩
   split
   ·exact⟨rfl,rfl,rfl,rfl⟩
   split<;>exact⟨rfl,rfl,rfl,rfl⟩
  ·unfold HP.stpW
   split
   ·exact⟨rfl,rfl,rfl,rfl⟩
   split
   ·exact⟨rfl,rfl,rfl,rfl⟩
   split
   ·split
    ·exact⟨rfl,rfl,rfl,rfl⟩
    split<;>exact⟨rfl,rfl,rfl,rfl⟩
   ·exact⟨rfl,rfl,rfl,rfl⟩
 ·exact⟨rfl,rfl,rfl,rfl⟩
theorem hstep_at (p:HP)(M:Mine)(H:Hall)(n:Int):(p.step M H n).1.at_=if p.enabled H=true then p.at_+1 else p.at_:=by
 unfold HP.step
 split
 ·rename_i he
  have hl:=HP.lt_of_en he
  unfold HP.stp
  split
  ·rename_i hb
   have:p.steps=1:=by simp[HP.steps,HP.one,hb]
   show 1=_; omega
  rename_i hb
  split
  ·rename_i h9
   have:p.steps=1:=by simp[HP.steps,HP.one,h9]
   show 1=_; omega
  split
  ·unfold HP.stpP
   split
   ·rfl
   split
   ·rfl
   split<;>rfl
  ·unfold HP.stpW
   split
   ·rename_i h; show 1=_; omega
   split
   ·rename_i h; show 2=_; omega
   split
   ·rename_i h
    split
    ·show 3=_; omega
    split
    ·show 3=_; omega
    ·show 3=_; omega
   ·rfl
 ·rfl
theorem HPG.step {p:HP}{n0:Nat}{H:Hall}(g:HPG n0 p)(M:Mine)(n:Int):HPG n0 (p.step M H n).1:=by
 obtain⟨k1,k2,k3,k4⟩:=hstep_k p M H n
 have ha:=hstep_at p M H n
 have hs:(p.step M H n).1.steps=p.steps:=by unfold HP.steps HP.one; rw[k2,k3]
 refine⟨by rw[k3]; exact g.k,by rw[k4]; exact g.s,by rw[k1]; exact g.w,by rw[k2]; exact g.o,?_⟩
 rw[ha,hs]
 split
 ·rename_i he; have:=HP.lt_of_en he; omega
 ·exact g.a
end Go.Den
namespace Go.Den
open Go
set_option linter.unusedVariables false
set_option linter.unusedSimpArgs false
def WK.bf (k:WK)(c:Cfg)(t:Tm)(x:Book × Feed):Book × Feed:=match k with
 | .bad=>x
 | .op o=>if t.closed then x else ((writeB x.1 o t.now c.sessions).1,x.2.tell (writeB x.1 o t.now c.sessions).2.1 t.seq)
 | .sweep=>((sweepB x.1 t.now).1,x.2.tell (sweepB x.1 t.now).2 t.seq)
def bfH (H:Hall)(s:Nat):Book × Feed:=((H.ss s).book,(H.ss s).feed)
theorem run_bf (k:WK)(H:Hall)(who:Int)(s:Nat)(t:Tm)(s':Nat):bfH (k.run H who s t).1 s'=if s'=s then k.bf H.c t (bfH H s) else bfH H s':=by
 by_cases h:s'=s
 ·subst h
  cases k with
  | bad=>simp[WK.run,WK.bf]
  | op o=>simp only[WK.run,Hall.write,WK.bf,if_true]; split<;>simp[bfH,Hall.put,sput,Hall.wr,Hall.did]
  | sweep=>simp[WK.run,Hall.sweep,WK.bf,bfH,Hall.put,sput,Hall.wr,Hall.did]
 ·cases k with
  | bad=>simp[WK.run,h]
  | op o=>simp only[WK.run,Hall.write]; split<;>simp[bfH,Hall.put,sput,Hall.wr,Hall.did,h]
  | sweep=>simp[WK.run,Hall.sweep,bfH,Hall.put,sput,Hall.wr,Hall.did,h]
theorem run_ss (k:WK)(H:Hall)(who:Int)(s:Nat)(t:Tm)(s':Nat):((k.run H who s t).1.ss s').who=(H.ss s').who∧((k.run H who s t).1.ss s').v=(H.ss s').v∧((k.run H who s t).1.ss s').bound=(H.ss s').bound∧((k.run H who s t).1.ss s').snap=(H.ss s').snap∧(k.run H who s t).1.t=H.t:=by
 have key:∀ (y:Strp) (H':Hall),H'.ss=H.ss→H'.t=H.t→y.who=(H.ss s).who→y.v=(H.ss s).v→y.bound=(H.ss s).bound→y.snap=(H.ss s).snap→((H'.put s y).ss s').who=(H.ss s').who∧((H'.put s y).ss s').v=(H.ss s').v∧((H'.put s y).ss s').bound=(H.ss s').bound∧((H'.put s y).ss s').snap=(H.ss s').snap∧(H'.put s y).t=H.t:=by
  intro y H' e1 e2 h1 h2 h3 h4
  simp only[Hall.put,sput,e1,e2]
  by_cases h:s'=s
  ·subst h; simp[h1,h2,h3,h4]
  ·simp[h]
 cases k with
 | bad=>exact⟨rfl,rfl,rfl,rfl,rfl⟩
 | op o =>
  simp only[WK.run,Hall.write]
  split
  ·exact⟨rfl,rfl,rfl,rfl,rfl⟩
  ·exact key _ _ rfl rfl rfl rfl rfl rfl
 | sweep=>exact key _ _ rfl rfl rfl rfl rfl rfl
inductive PR where
 | w (p:WP)
 | r (p:RP)
 | h (p:HP)
def PR.enabled:PR→Hall→Bool
 | .w p,H=>p.enabled H
 | .r p,H=>p.enabled H
 | .h p,H=>p.enabled H
def PR.step:PR→Mine→Hall→Int→PR × Mine × Hall
 | .w p,m,H,n=>(.w (p.step H n).1,m,(p.step H n).2)
 | .r p,m,H,n=>(.r (p.step H n).1,m,(p.step H n).2)
 | .h p,m,H,n=>(.h (p.step m H n).1,(p.step m H n).2.1,(p.step m H n).2.2)
def WP.holds (p:WP)(s:Nat):Prop:=p.k.isBad=false∧1≤p.at_∧p.at_≤6∧s=p.s
def RP.holds (p:RP)(s:Nat):Prop:=(p.ph=4∧s∈p.ss.take p.at_)∨((p.ph=5∨p.ph=6)∧s∈p.ss)∨(p.ph=7∧s∈p.ss.drop p.at_)
def HP.holds (p:HP)(s:Nat):Prop:=p.one=false∧if p.x.kind=8 then s<p.at_∧s<p.k∧p.at_≤2*p.k+1+s else 1≤p.at_∧p.at_≤3∧s=p.s
def PR.holds:PR→Nat→Prop
 | .w p=>p.holds
 | .r p=>p.holds
 | .h p=>p.holds
def WP.pend (p:WP)(c:Cfg)(s:Nat)(x:Book × Feed):Book × Feed:=if p.at_=3∧s=p.s then p.k.bf c p.t x else x
def HP.wres (p:HP)(m:Mine)(c:Cfg):Int:=if p.t.closed then 5 else if p.x.kind=6∧mhas m p.x.user=false∧c.watches≤m.length then 4 else 0
def HP.wfd (p:HP)(f:Feed):Feed:=if decide (p.x.kind=6) then f.watch p.who p.x.user else f.unwatch p.who p.x.user
def HP.pend (p:HP)(m:Mine)(c:Cfg)(s:Nat)(x:Book × Feed):Book × Feed :=
 if p.one then x else if p.x.kind=8 then (if p.k<p.at_∧p.at_≤p.k+1+s then (x.1,x.2.drain p.who) else x)
 else if p.at_=2∧s=p.s∧p.wres m c=0 then (x.1,p.wfd x.2) else x
def PR.pend:PR→Mine→Cfg→Nat→Book × Feed→Book × Feed
 | .w p,_,c,s,x=>p.pend c s x
 | .r _,_,_,_,x=>x
 | .h p,m,c,s,x=>p.pend m c s x
def HP.em (p:HP)(m:Mine)(c:Cfg):Mine:=if p.one=false∧p.x.kind≠8∧p.at_=2∧p.wres m c=0 then miset m p.x.user (decide (p.x.kind=6)) else m
def PR.em:PR→Mine→Cfg→Mine
 | .w _,m,_=>m
 | .r _,m,_=>m
 | .h p,m,c=>p.em m c
def WP.places (p:WP):Bool:=p.k.isBad || decide (p.at_=2)
def HP.places (p:HP):Bool:=p.one || if p.x.kind=8 then decide (p.at_=p.k) else decide (p.at_=1)
def PR.places:PR→Bool
 | .w p=>p.places
 | .r _=>false
 | .h p=>p.places
def WK.bef (k:WK)(s:Nat)(M:Tbl):Tbl × Reply:=match k with
 | .bad=>(M,repE 1)
 | .op x=>M.write x
 | .sweep=>(M.sweep s,rep0)
def PR.bef:PR→Tbl→Tbl × Reply
 | .w p,M=>p.k.bef p.s M
 | .r _,M=>(M,rep0)
 | .h p,M=>M.do_ p.who p.x
structure Wd where
 H:Hall
 ps:Nat→Option PR
 ms:Nat→Mine
def Wd.em (W:Wd)(i:Nat):Mine:=match W.ps i with
 | some p=>p.em (W.ms i) W.H.c
 | none=>W.ms i
def Wd.step (W:Wd)(i:Nat)(n:Int):Wd:=match W.ps i with
 | some p=>⟨(p.step (W.ms i) W.H n).2.2,bset W.ps i (some (p.step (W.ms i) W.H n).1),bset W.ms i (p.step (W.ms i) W.H n).2.1⟩
 | none=>W
end Go.Den
namespace Go.Den
open Go
set_option linter.unusedVariables false
set_option linter.unusedSimpArgs false
structure Free (x:Strp)(y:Book × Feed):Prop where
 wh:x.who=0
 e:y=(x.book,x.feed)
 v:wrt x.v=false
 q:x.snap=x.book
def PR.mid:PR→Nat→Prop
 | .w p,s=>p.k.isBad=false∧2≤p.at_∧p.at_≤5∧s=p.s
 | .r _,_=>False
 | .h _,_=>False
def PR.at5:PR→Prop
 | .w p=>p.at_=5
 | .r _=>False
 | .h _=>False
structure Held (p:PR)(m:Mine)(c:Cfg)(s:Nat)(x:Strp)(y:Book × Feed):Prop where
 e:y=p.pend m c s (x.book,x.feed)
 v:p.mid s→wrt x.v=true∨x.bound≤x.v
 q:¬ p.mid s→wrt x.v=false∧x.snap=x.book
 f:p.at5→x.snap=x.book
def Tbl.st (M:Tbl)(s:Nat):Book × Feed:=(M.bk s,M.fd s)
structure Loc (i:Nat)(p p':PR)(m m':Mine)(H H':Hall)(M M':Tbl)(s:Nat):Prop where
 a:p.holds s→(H.ss s).who=i+1→Held p m H.c s (H.ss s) (M.st s)→(p'.holds s∧(H'.ss s).who=i+1∧Held p' m' H.c s (H'.ss s) (M'.st s))∨(¬ p'.holds s∧Free (H'.ss s) (M'.st s))
 b:¬ p.holds s→(H'.ss s=H.ss s∧M'.st s=M.st s∧¬ p'.holds s) ∨
  ((H.ss s).who=0∧M'.st s=M.st s∧p'.holds s∧H'.ss s={ H.ss s with who:=i+1 }∧¬ p'.mid s∧¬ p'.at5∧∀ x,p'.pend m' H.c s x=x)
theorem Loc.same {i:Nat}{p p':PR}{m m':Mine}{H H':Hall}{M M':Tbl}{s:Nat}(h1:H'.ss s=H.ss s)(h2:M'.st s=M.st s)(h3:p'.holds s↔p.holds s)(h4:p'.mid s↔p.mid s)(h5:p'.at5→p.holds s→(H.ss s).snap=(H.ss s).book)
  (h6:p.holds s→∀ x,p'.pend m' H.c s x=p.pend m H.c s x):Loc i p p' m m' H H' M M' s:=by
 refine⟨fun a b c=>.inl ⟨h3.2 a,by rw[h1]; exact b,?_⟩,fun a=>.inl ⟨h1,h2,fun h=>a (h3.1 h)⟩⟩
 rw[h1,h2]
 exact⟨by rw[h6 a]; exact c.e,fun h=>c.v (h4.1 h),fun h=>c.q fun hh=>h (h4.2 hh),fun h=>h5 h a⟩
theorem lock_ss {H:Hall}{w:Int}{s:Nat}(hw:0≤w)(h:(H.ss s).who=0)(s':Nat):(H.lock w s).ss s'=if s'=s then { H.ss s with who:=w+1 } else H.ss s':=by
 have hc:canTake (H.ss s).who w=true:=by simp[canTake,hw,h]
 simp only[Hall.lock,hc,if_true,Hall.put,sput]; rfl
theorem unlock_ss {H:Hall}{w:Int}{s:Nat}(hw:0≤w)(h:(H.ss s).who=w+1)(s':Nat):(H.unlock w s).ss s'=if s'=s then { H.ss s with who:=0 } else H.ss s':=by
 have hc:canGive (H.ss s).who w=true:=by simp[canGive,h]; omega
 simp only[Hall.unlock,hc,if_true,Hall.put,sput]; rfl
theorem lock_t (H:Hall)(w:Int)(s:Nat):(H.lock w s).t=H.t:=by unfold Hall.lock; split<;>rfl
theorem unlock_t (H:Hall)(w:Int)(s:Nat):(H.unlock w s).t=H.t:=by unfold Hall.unlock; split<;>rfl
structure WA (i:Nat)(p:WP)(c:Cfg):Prop where
 w:p.who=i
 a:p.at_≤7
 s:∀ x,p.k = .op x→p.s=(stripeOf x.user c.stripes).toNat
theorem bef_st {k:WK}{s:Nat}{M:Tbl}(hk:k.isBad=false)(hs:∀ x,k = .op x→s=M.stripe x.user)(hn:s<M.n)(s':Nat):(k.bef s M).1.st s'=if s'=s then k.bf M.c M.take.t (M.st s) else M.st s':=by
 cases k with
 | bad=>simp[WK.isBad] at hk
 | op x =>
  have e:=hs x rfl
  have hc:M.take.t.closed=M.t.closed:=rfl
  simp only[WK.bef,Tbl.write,WK.bf,hc]
  rw[← e]
  by_cases h:s'=s
  ·subst h
   split<;>simp[Tbl.st,Tbl.take,Tbl.writeAt,bset]
  ·split<;>simp[Tbl.st,Tbl.take,Tbl.writeAt,bset,h]
 | sweep =>
  have hc:(0:Int)≤s∧(s:Int)<M.n:=by omega
  simp only[WK.bef,Tbl.sweep,hc,and_self,if_true,Int.toNat_natCast,WK.bf]
  by_cases h:s'=s
  ·subst h; simp[Tbl.st,Tbl.take,Tbl.sweepAt,bset]
  ·simp[Tbl.st,Tbl.take,Tbl.sweepAt,bset,h]
theorem bef_t {k:WK}{s:Nat}{M:Tbl}(hk:k.isBad=false)(hn:s<M.n):(k.bef s M).1.t=M.take.t∧(k.bef s M).1.c=M.c∧(k.bef s M).1.n=M.n:=by
 cases k with
 | bad=>simp[WK.isBad] at hk
 | op x=>simp only[WK.bef,Tbl.write]; split<;>exact⟨rfl,rfl,rfl⟩
 | sweep =>
  have hc:(0:Int)≤s∧(s:Int)<M.n:=by omega
  simp only[WK.bef,Tbl.sweep,hc,and_self,if_true]; exact⟨rfl,rfl,rfl⟩
def PR.tb (p:PR)(H:Hall)(M:Tbl):Tbl:=if p.enabled H=true∧p.places=true then (p.bef M).1 else M
theorem WP.not_holds {p:WP}{s:Nat}(h:s≠p.s):¬ p.holds s:=fun hh=>h hh.2.2.2
theorem wloc {i:Nat}{p:WP}{m k:Nat}{ms:Mine}{H:Hall}{M:Tbl}(hs:HS k H)(g:WG H.n p)(a:WA i p H.c)(ht:M.t=H.t)(hc:M.c=H.c)(hn:M.n=H.n)(n:Int){s:Nat}(hs8:s<H.n)(he:p.enabled H=true) :
  Loc i (.w p) ((PR.w p).step ms H n).1 ms ms H ((PR.w p).step ms H n).2.2 M ((PR.w p).tb H M) s:=by
 have hl:=enabled_at he
 have hw:=a.w
 by_cases hb:p.k.isBad=true
 ·have e1:p.step H n=({ p with err:=1,placed:=n,at_:=7 },H):=by simp[WP.step,he,hb]
  have e2:(PR.w p).tb H M=M:=by
   have:p.k = .bad:=by cases hk:p.k<;>simp[hk,WK.isBad] at hb ⊢
   simp[PR.tb,PR.bef,this,WK.bef]
  have e3:(PR.w p).step ms H n=(.w { p with err:=1,placed:=n,at_:=7 },ms,H):=by simp[PR.step,e1]
  rw[e2,e3]
  exact Loc.same rfl rfl ⟨fun h=>by have:=h.1; simp[hb] at this,fun h=>by have:=h.1; simp[hb] at this⟩ ⟨fun h=>by have:=h.1; simp[hb] at this,fun h=>by have:=h.1; simp[hb] at this⟩ (fun h=>by simp[PR.at5] at h) (fun h=>by have:=h.1; simp[hb] at this)
 have hb:p.k.isBad=false:=by simpa using hb
 have e1:p.step H n=p.stp H n:=by simp[WP.step,he,hb]
 have e3:(PR.w p).step ms H n=(.w (p.stp H n).1,ms,(p.stp H n).2):=by simp[PR.step,e1]
 have e2:p.at_≠2→(PR.w p).tb H M=M:=fun h=>by simp[PR.tb,PR.places,WP.places,hb,h]
 rw[e3]
 have st:=hs.st p.s g.s
 by_cases h0:p.at_=0
 ·rw[e2 (by omega),stp0 H n h0]
  have hwh:(H.ss p.s).who=0:=by
   simp[WP.enabled,WP.waits,hb,h0] at he
   rcases he.2 with h | h
   ·omega
   ·exact h
  have hls:=lock_ss (H:=H) (w:=p.who) (s:=p.s) (by omega) hwh s
  by_cases hss:s=p.s
  ·subst hss
   rw[if_pos rfl] at hls
   refine⟨fun h=>?_,fun h=>.inr ⟨hwh,rfl,⟨hb,by simp,by simp,rfl⟩,by rw[hls,hw],fun h=>by have:=h.2.1; simp at this,fun h=>by simp[PR.at5] at h,fun x=>by simp[PR.pend,WP.pend]⟩⟩
   have:=h.2.1; omega
  ·rw[if_neg hss] at hls
   exact Loc.same hls rfl ⟨fun h=>absurd h (WP.not_holds hss),fun h=>absurd h (WP.not_holds hss)⟩ ⟨fun h=>absurd h.2.2.2 hss,fun h=>absurd h.2.2.2 hss⟩ (fun h=>by simp[PR.at5] at h) (fun h=>absurd h (WP.not_holds hss))
 by_cases hss:s=p.s
 rotate_left
 ·-- another stripe
  have nh:¬ (PR.w p).holds s:=WP.not_holds hss
  obtain⟨k1,k2,k3⟩:=stp_k p H n
  have nh':¬ (PR.w (p.stp H n).1).holds s:=WP.not_holds (by rw[k3]; exact hss)
  refine⟨fun h=>absurd h nh,fun _=>.inl ⟨?_,?_,nh'⟩⟩
  ·by_cases h1:p.at_=1
   ·rw[stp1 H n h1]; simp[Hall.begin,Hall.put,sput,hss,Hall.did]
   by_cases h2:p.at_=2
   ·rw[stp2 H n h2]; rfl
   by_cases h3:p.at_=3
   ·rw[stp3 H n h3]
    have:∀ (k:WK),(k.run H p.who p.s p.t).1.ss s=H.ss s:=fun k=>by
     cases k with
     | bad=>rfl
     | op o=>simp only[WK.run,Hall.write]; split<;>simp[Hall.put,sput,Hall.wr,Hall.did,hss]
     | sweep=>simp[WK.run,Hall.sweep,Hall.put,sput,Hall.wr,Hall.did,hss]
    exact this p.k
   by_cases h4:p.at_=4
   ·rw[stp4 H n h4]; simp[Hall.pub,Hall.put,sput,hss,Hall.did]
   by_cases h5:p.at_=5
   ·rw[stp5 H n h5]; simp[Hall.end_,Hall.put,sput,hss,Hall.did]
   ·rw[stp6 H n (by omega)]
    simp only[Hall.unlock]
    split
    ·simp[Hall.put,sput,hss,Hall.did]
    ·rfl
  ·by_cases h2:p.at_=2
   ·have e4:(PR.w p).tb H M=(p.k.bef p.s M).1:=by simp[PR.tb,PR.places,WP.places,PR.enabled,he,h2,PR.bef]
    rw[e4,bef_st hb (fun x hx=>by rw[a.s x hx,← hc]; rfl) (by rw[hn]; exact g.s),if_neg hss]
   ·rw[e2 h2]
 subst hss
 have ho:(PR.w p).holds p.s:=⟨hb,by omega,by omega,rfl⟩
 refine⟨fun _ hwho hd=>?_,fun h=>absurd ho h⟩
 by_cases h1:p.at_=1
 ·rw[e2 (by omega),stp1 H n h1]
  have hq:=hd.q fun h=>by have:=h.2.1; omega
  have hss:(H.begin p.who p.s).ss p.s={ H.ss p.s with v:=bgn (H.ss p.s).v (H.ss p.s).bound }:=by simp[Hall.begin,Hall.put,sput,Hall.did]
  refine .inl ⟨⟨hb,by simp,by simp,rfl⟩,by rw[hss]; exact hwho,?_⟩
  rw[hss]
  refine⟨?_,fun _=>?_,fun h=>absurd ⟨hb,by simp,by simp,rfl⟩ h,fun h=>by simp[PR.at5] at h⟩
  ·have:=hd.e; simpa [PR.pend,WP.pend,h1] using this
  ·have hv:=hq.1
   dsimp only
   unfold bgn
   by_cases hlt:(H.ss p.s).v<(H.ss p.s).bound
   ·left; rw[if_pos ⟨hlt,hv⟩]; simp[wrt] at hv ⊢; omega
   ·right; rw[if_neg (fun h=>hlt h.1)]; omega
 by_cases h2:p.at_=2
 ·have e4:(PR.w p).tb H M=(p.k.bef p.s M).1:=by simp[PR.tb,PR.places,WP.places,PR.enabled,he,h2,PR.bef]
  rw[e4,stp2 H n h2,bef_st hb (fun x hx=>by rw[a.s x hx,← hc]; rfl) (by rw[hn]; exact g.s),if_pos rfl]
  refine .inl ⟨⟨hb,by simp,by simp,rfl⟩,hwho,?_,fun _=>hd.v ⟨hb,by omega,by omega,rfl⟩,fun h=>absurd ⟨hb,by simp,by simp,rfl⟩ h,fun h=>by simp[PR.at5] at h⟩
  have he':=hd.e
  simp only[PR.pend,WP.pend,h2] at he'
  have he':M.st p.s=((H.ss p.s).book,(H.ss p.s).feed):=by simpa using he'
  rw[he',hc]
  have htt:M.take.t=(H.take p.who).t:=by simp[Tbl.take,Hall.take,Hall.did,ht]
  rw[htt]
  simp[PR.pend,WP.pend]; rfl
 rw[e2 h2]
 have hmid:2≤p.at_→p.at_≤5→(PR.w p).mid p.s:=fun h h'=>⟨hb,h,h',rfl⟩
 by_cases h3:p.at_=3
 ·rw[stp3 H n h3]
  obtain⟨r1,r2,r3,r4,r5⟩:=run_ss p.k H p.who p.s p.t p.s
  have hbf:=run_bf p.k H p.who p.s p.t p.s
  rw[if_pos rfl] at hbf
  refine .inl ⟨⟨hb,by simp,by simp,rfl⟩,by rw[r1]; exact hwho,?_,fun _=>by dsimp only; rw[r2,r3]; exact hd.v (hmid (by omega) (by omega)),fun h=>absurd ⟨hb,by simp,by simp,rfl⟩ h,fun h=>by simp[PR.at5] at h⟩
  have he':=hd.e
  simp only[PR.pend,WP.pend,h3] at he'
  simp only[bfH] at hbf
  simp[PR.pend,WP.pend,he',hbf]
 by_cases h4:p.at_=4
 ·rw[stp4 H n h4]
  have hss:(H.pub p.who p.s).ss p.s={ H.ss p.s with snap:=(H.ss p.s).book }:=by simp[Hall.pub,Hall.put,sput,Hall.did]
  refine .inl ⟨⟨hb,by simp,by simp,rfl⟩,by rw[hss]; exact hwho,?_⟩
  rw[hss]
  refine⟨?_,fun _=>hd.v (hmid (by omega) (by omega)),fun h=>absurd ⟨hb,by simp,by simp,rfl⟩ h,fun _=>rfl⟩
  have:=hd.e; simpa [PR.pend,WP.pend,h4] using this
 by_cases h5:p.at_=5
 ·rw[stp5 H n h5]
  have hss:(H.end_ p.who p.s).ss p.s={ H.ss p.s with v:=endV (H.ss p.s).v }:=by simp[Hall.end_,Hall.put,sput,Hall.did]
  refine .inl ⟨⟨hb,by simp,by simp,rfl⟩,by rw[hss]; exact hwho,?_⟩
  rw[hss]
  refine⟨?_,fun h=>by have:=h.2.2.1; simp at this,fun _=>⟨?_,hd.f h5⟩,fun h=>by simp[PR.at5] at h⟩
  ·have:=hd.e; simpa [PR.pend,WP.pend,h5] using this
  ·have hv:=hd.v (hmid (by omega) (by omega))
   have h1:=st.v0; have h2:=st.vb
   simp only[endV,wrt] at hv ⊢
   simp at hv ⊢
   split<;>omega
 ·have h6:p.at_=6:=by omega
  rw[stp6 H n (by omega)]
  have hls:=unlock_ss (H:=H) (w:=p.who) (s:=p.s) (by omega) (by rw[hw]; exact hwho) p.s
  rw[if_pos rfl] at hls
  have hq:=hd.q fun h=>by have:=h.2.2.1; omega
  refine .inr ⟨fun h=>by have:=h.2.2.1; simp at this,?_⟩
  rw[hls]
  refine⟨rfl,?_,hq.1,hq.2⟩
  have:=hd.e; simpa [PR.pend,WP.pend,h6] using this
end Go.Den
namespace Go.Den
open Go
set_option linter.unusedVariables false
set_option linter.unusedSimpArgs false
structure RA (i:Nat)(p:RP):Prop where
 w:p.who=i
 nd:p.ss.Nodup
theorem RP.next_cases (p:RP)(ph:Int):(p.at_+1<p.k∧p.next ph={ p with at_:=p.at_+1 })∨(p.k≤p.at_+1∧p.next ph={ p with ph:=ph,at_:=0 }):=by
 by_cases h:p.at_+1<p.k
 ·exact .inl ⟨h,by simp[RP.next,h]⟩
 ·exact .inr ⟨by omega,by simp[RP.next,h]⟩
theorem RP.nh {p:RP}{s:Nat}(h:p.ph≠4)(h5:p.ph≠5)(h6:p.ph≠6)(h7:p.ph≠7):¬ p.holds s:=by
 rintro (h | h | h)
 ·exact absurd h.1 (by omega)
 ·rcases h.1 with h | h<;>omega
 ·exact absurd h.1 (by omega)
theorem take_succ_mem {l:List Nat}{i:Nat}(hi:i<l.length)(s:Nat):s∈l.take (i+1)↔s∈l.take i∨s=l[i]:=by
 rw[List.take_succ_eq_append_getElem hi,List.mem_append,List.mem_singleton]
theorem drop_mem {l:List Nat}{i:Nat}(hi:i<l.length)(s:Nat):s∈l.drop i↔s=l[i]∨s∈l.drop (i+1):=by
 rw[List.drop_eq_getElem_cons hi,List.mem_cons]
theorem nodup_drop {l:List Nat}(nd:l.Nodup){i:Nat}(hi:i<l.length):l[i] ∉ l.drop (i+1):=by
 intro h
 obtain⟨j,hj,e⟩:=List.getElem_of_mem h
 rw[List.getElem_drop] at e
 have:=(List.getElem_inj nd).1 e
 omega
theorem nodup_take {l:List Nat}(nd:l.Nodup){i:Nat}(hi:i<l.length):l[i] ∉ l.take i:=by
 intro h
 obtain⟨j,hj,e⟩:=List.getElem_of_mem h
 rw[List.getElem_take] at e
 have:=(List.getElem_inj nd).1 e
 simp at hj; omega
theorem rloc {i:Nat}{p:RP}{ms:Mine}{H:Hall}{M:Tbl}(rk:RK H.n p)(a:RA i p)(n:Int){s:Nat}(hs8:s<H.n)(he:p.enabled H=true) :
  Loc i (.r p) ((PR.r p).step ms H n).1 ms ms H ((PR.r p).step ms H n).2.2 M ((PR.r p).tb H M) s:=by
 have hw:=a.w
 have e2:(PR.r p).tb H M=M:=by simp[PR.tb,PR.places]
 have e3:(PR.r p).step ms H n=(.r (p.step H n).1,ms,(p.step H n).2):=rfl
 rw[e2,e3]
 -- nothing is changed,and the locks stay
 have triv:∀ (q:RP) (H':Hall),H'.ss s=H.ss s→(q.holds s↔p.holds s)→Loc i (.r p) (.r q) ms ms H H' M M s:=fun q H' h1 h2 =>
  Loc.same h1 rfl h2 (by rfl) (fun h=>h.elim) (fun _ _=>rfl)
 have h8:p.ph≠8:=fun h=>by simp[RP.enabled,h] at he
 by_cases hz:p.ss=[]
 ·have:p.step H n=({ p with err:=1,vals:=[],placed:=n,ph:=8 },H):=by simp[RP.step,he,hz]
  rw[this]
  refine triv _ _ rfl ⟨fun h=>absurd h (RP.nh (by simp) (by simp) (by simp) (by simp)),fun h=>?_⟩
  rcases rk.e0 hz with h0 | h0
  ·exact absurd h (RP.nh (by omega) (by omega) (by omega) (by omega))
  ·exact absurd h0 h8
 have hat:=rk.at_ h8 hz
 have hss:p.s=p.ss[p.at_]'hat:=RP.s_lt hat
 have e1:p.step H n=p.go H n:=by simp[RP.step,he,hz]
 rw[e1]
 have hph:=rk.ph
 have nhof:p.ph≠4→p.ph≠5→p.ph≠6→p.ph≠7→¬ p.holds s:=fun a b c d=>RP.nh a b c d
 -- nothing is held,nor then
 have nn:∀ (q:RP) (H':Hall),H'.ss s=H.ss s→p.ph≠4→p.ph≠5→p.ph≠6→p.ph≠7→¬ q.holds s→Loc i (.r p) (.r q) ms ms H H' M M s:=fun q H' h a b c d e =>
  triv q H' h ⟨fun hh=>absurd hh e,fun hh=>absurd hh (nhof a b c d)⟩
 unfold RP.go
 by_cases h0:p.ph=0
 ·rw[if_pos h0]
  refine nn _ _ rfl (by omega) (by omega) (by omega) (by omega) ?_
  rcases RP.next_cases { p with ep:=epset p.ep p.at_ (H.ss p.s).v,spent:=p.spent || decide (evn H.c.epochs≤(H.ss p.s).v) } 1 with ⟨_,e⟩ | ⟨_,e⟩<;>rw[e]<;>exact RP.nh (by simp; try omega) (by simp; try omega) (by simp; try omega) (by simp; try omega)
 rw[if_neg h0]
 by_cases h1:p.ph=1
 ·rw[if_pos h1]
  refine nn _ _ rfl (by omega) (by omega) (by omega) (by omega) ?_
  rcases RP.next_cases { p with seen:=seenset p.seen p.s (H.ss p.s).snap } 2 with ⟨_,e⟩ | ⟨_,e⟩<;>rw[e]<;>exact RP.nh (by simp; try omega) (by simp; try omega) (by simp; try omega) (by simp; try omega)
 rw[if_neg h1]
 by_cases h2:p.ph=2
 ·rw[if_pos h2]
  exact nn _ _ rfl (by omega) (by omega) (by omega) (by omega) (RP.nh (by simp) (by simp) (by simp) (by simp))
 rw[if_neg h2]
 by_cases h5:p.ph=5
 ·rw[if_pos h5]
  refine triv _ _ rfl ⟨fun h=>?_,fun h=>?_⟩
  ·rcases h with h | h | h
   ·have:=h.1; simp at this
   ·exact .inr (.inl ⟨.inl h5,h.2⟩)
   ·have:=h.1; simp at this
  ·rcases h with h | h | h
   ·have:=h.1; omega
   ·exact .inr (.inl ⟨.inr rfl,h.2⟩)
   ·have:=h.1; omega
 rw[if_neg h5]
 by_cases h3:p.ph=3
 ·rw[if_pos h3]
  refine nn _ _ rfl (by omega) (by omega) (by omega) (by omega) ?_
  dsimp only
  split
  ·rename_i hl
   have key:∀ q:RP,q.ss=p.ss→q.at_=0→¬ q.judge.holds s:=fun q hq hq0=>by
    unfold RP.judge
    split
    ·exact RP.nh (by simp) (by simp) (by simp) (by simp)
    split
    ·rintro (h | h | h)
     ·have h':=h.2; rw[show ({ q with ph:=4 }:RP).at_=q.at_ from rfl,hq0] at h'; simp at h'
     ·have:=h.1; simp at this
     ·have:=h.1; simp at this
    ·exact RP.nh (by simp[RP.begin]) (by simp[RP.begin]) (by simp[RP.begin]) (by simp[RP.begin])
   rcases RP.next_cases { p with valid:=p.valid && validB (p.ep p.at_) (H.ss p.s).v H.c.epochs } 8 with ⟨h,e⟩ | ⟨_,e⟩
   ·simp[RP.last] at hl; have:p.at_+1<p.k:=h; have:p.k≤p.at_+1:=hl; omega
   ·rw[e]; exact key _ rfl rfl
  ·rename_i hl
   rcases RP.next_cases { p with valid:=p.valid && validB (p.ep p.at_) (H.ss p.s).v H.c.epochs } 8 with ⟨h,e⟩ | ⟨_,e⟩<;>rw[e]<;>exact RP.nh (by simp; try omega) (by simp; try omega) (by simp; try omega) (by simp; try omega)
 rw[if_neg h3]
 by_cases h4:p.ph=4
 ·rw[if_pos h4]
  have hwh:(H.ss p.s).who=0:=by simp[RP.enabled,h4] at he; exact he
  have hls:=lock_ss (H:=H) (w:=p.who) (s:=p.s) (by omega) hwh s
  have hold:(p.next 5).holds s↔p.holds s∨s=p.s:=by
   have e0:p.holds s↔s∈p.ss.take p.at_:=by
    constructor
    ·rintro (h | h | h)
     ·exact h.2
     ·have:=h.1; omega
     ·have:=h.1; omega
    ·intro h; exact .inl ⟨h4,h⟩
   rw[e0,hss,← take_succ_mem hat]
   rcases RP.next_cases p 5 with ⟨h,e⟩ | ⟨h,e⟩
   ·rw[e]
    constructor
    ·rintro (h | h | h)
     ·exact h.2
     ·have:=h.1; simp at this; omega
     ·have:=h.1; simp at this; omega
    ·intro h; exact .inl ⟨h4,h⟩
   ·rw[e]
    have:p.ss.take (p.at_+1)=p.ss:=List.take_of_length_le (by unfold RP.k at h; omega)
    rw[this]
    constructor
    ·rintro (h | h | h)
     ·have:=h.1; simp at this
     ·exact h.2
     ·have:=h.1; simp at this
    ·intro h; exact .inr (.inl ⟨.inl rfl,h⟩)
  by_cases hsp:s=p.s
  ·subst hsp
   rw[if_pos rfl] at hls
   have nh:¬ p.holds p.s:=by
    rintro (h | h | h)
    ·have h':=h.2; rw[hss] at h'; exact nodup_take a.nd hat h'
    ·have:=h.1; omega
    ·have:=h.1; omega
   exact⟨fun h=>absurd h nh,fun _=>.inr ⟨hwh,rfl,hold.2 (.inr rfl),by rw[hls,hw],fun h=>h,fun h=>h,fun _=>rfl⟩⟩
  ·rw[if_neg hsp] at hls
   exact triv _ _ hls ⟨fun h=>(hold.1 h).resolve_right hsp,fun h=>hold.2 (.inl h)⟩
 rw[if_neg h4]
 by_cases h6:p.ph=6
 ·rw[if_pos h6]
  have e0:p.holds s↔s∈p.ss:=by
   constructor
   ·rintro (h | h | h)
    ·have:=h.1; omega
    ·exact h.2
    ·have:=h.1; omega
   ·intro h; exact .inr (.inl ⟨.inr h6,h⟩)
  refine triv _ _ rfl ?_
  rw[e0]
  rcases RP.next_cases { p with seen:=seenset p.seen p.s (H.ss p.s).book } 7 with ⟨h,e⟩ | ⟨h,e⟩
  ·rw[e]
   constructor
   ·rintro (h | h | h)
    ·have:=h.1; simp at this; omega
    ·exact h.2
    ·have:=h.1; simp at this; omega
   ·intro h; exact .inr (.inl ⟨.inr h6,h⟩)
  ·rw[e]
   constructor
   ·rintro (h | h | h)
    ·have:=h.1; simp at this
    ·have:=h.1; simp at this
    ·simpa using h.2
   ·intro h; exact .inr (.inr ⟨rfl,by simpa using h⟩)
 rw[if_neg h6]
 have h7:p.ph=7:=by omega
 have e0:p.holds s↔s∈p.ss.drop p.at_:=by
  constructor
  ·rintro (h | h | h)
   ·have:=h.1; omega
   ·have:=h.1; omega
   ·exact h.2
  ·intro h; exact .inr (.inr ⟨h7,h⟩)
 have hold:(if p.last then (p.next 8).answer else p.next 8).holds s↔s∈p.ss.drop (p.at_+1):=by
  rcases RP.next_cases p 8 with ⟨h,e⟩ | ⟨h,e⟩
  ·have hl:p.last=false:=by simp[RP.last,h]
   rw[hl,e]
   constructor
   ·rintro (h | h | h)
    ·have:=h.1; simp at this; omega
    ·have:=h.1; simp at this; omega
    ·exact h.2
   ·intro h; exact .inr (.inr ⟨h7,h⟩)
  ·have hl:p.last=true:=by simp[RP.last]; omega
   rw[hl,e]
   have:p.ss.drop (p.at_+1)=[]:=List.drop_eq_nil_iff.2 (by unfold RP.k at h; omega)
   rw[this]
   simp only[if_true,List.not_mem_nil,iff_false]
   exact RP.nh (by rw[answer_ph]; simp) (by rw[answer_ph]; simp) (by rw[answer_ph]; simp) (by rw[answer_ph]; simp)
 by_cases hsp:s=p.s
 ·subst hsp
  have hm:p.holds p.s:=e0.2 (by rw[hss]; exact (drop_mem hat _).2 (.inl rfl))
  refine⟨fun _ hwho hd=>.inr ⟨fun h=>nodup_drop a.nd hat (by rw[← hss]; exact hold.1 h),?_⟩,fun h=>absurd hm h⟩
  have hls:=unlock_ss (H:=H) (w:=p.who) (s:=p.s) (by omega) (by rw[hw]; exact hwho) p.s
  rw[if_pos rfl] at hls
  rw[hls]
  have hq:=hd.q fun h=>h
  exact⟨rfl,hd.e,hq.1,hq.2⟩
 ·have hls:(H.unlock p.who p.s).ss s=H.ss s:=by
   simp only[Hall.unlock]
   split
   ·simp[Hall.put,sput,hsp,Hall.did]
   ·rfl
  refine triv _ _ hls ?_
  rw[hold,e0,drop_mem hat,← hss]
  simp[hsp]
end Go.Den
namespace Go.Den
open Go
set_option linter.unusedVariables false
set_option linter.unusedSimpArgs false
theorem kind_rng {x:OpD}(h:badB x=false):1≤x.kind∧x.kind≤9:=by
 unfold badB at h
 split at h
 ·omega
 split at h
 ·omega
 split at h
 ·omega
 split at h
 ·omega
 ·simp at h; omega
structure HA (i:Nat)(p:HP)(c:Cfg):Prop where
 w:p.who=i
 i8:i<8
 k6:badB p.x=false→6≤p.x.kind
 s:p.s=(stripeOf p.x.user c.stripes).toNat
theorem HA.cl {i:Nat}{p:HP}{c:Cfg}(a:HA i p c):clientB p.who=true:=by
 have:=a.w; have:=a.i8
 simp[clientB]; omega
structure MA (p:HP)(m:Mine)(M:Tbl):Prop where
 wt:(M.fd (M.stripe p.x.user)).watching p.who p.x.user=mhas m p.x.user
 ct:M.count p.who=m.length
theorem fed_ss (H:Hall)(w:Int)(s:Nat)(f:Feed)(s':Nat):(H.fed w s f).ss s'=if s'=s then { H.ss s with feed:=f } else H.ss s':=by
 simp only[Hall.fed,Hall.put,sput]; rfl
theorem do_watch {i:Nat}{p:HP}{m:Mine}{M:Tbl}{c:Cfg}(a:HA i p c)(hc:M.c=c)(ma:MA p m M)(ht:p.t=M.t)(hb:badB p.x=false)(h9:p.x.kind≠9)(h8:p.x.kind≠8) :
  (M.do_ p.who p.x).1=(if p.wres m c=0 then M.fed p.s (p.wfd (M.fd p.s)) else M)∧(M.do_ p.who p.x).2=repE (p.wres m c):=by
 have hk:=kind_rng hb
 have k6:=a.k6 hb
 have hs:p.s=M.stripe p.x.user:=by rw[a.s,Tbl.stripe,hc]
 have hcl:=a.cl
 unfold Tbl.do_
 rw[if_neg (by simp[hb,hcl]),if_neg (by omega),if_neg h8]
 cases htc:M.t.closed with
 | true =>
  have e:p.wres m c=5:=by simp[HP.wres,ht,htc]
  simp[e]
 | false =>
  simp only[Bool.false_eq_true,if_false]
  by_cases h6:p.x.kind=6
  ·rw[if_pos h6]
   unfold Tbl.watch
   rw[ma.wt,ma.ct,hc]
   by_cases hcc:mhas m p.x.user=false∧c.watches≤(m.length:Int)
   ·have e:p.wres m c=4:=by simp[HP.wres,ht,htc,h6,hcc.1,hcc.2]
    rw[if_pos hcc,e]; simp
   ·have e:p.wres m c=0:=by
     have h2:¬ (p.x.kind=6∧mhas m p.x.user=false∧c.watches≤(m.length:Int)):=fun h=>hcc h.2
     unfold HP.wres; rw[ht,htc,if_neg (by simp),if_neg h2]
    rw[if_neg hcc,e,hs]
    simp[HP.wfd,h6]; rfl
  ·have h7:p.x.kind=7:=by omega
   have e:p.wres m c=0:=by
    have h2:¬ (p.x.kind=6∧mhas m p.x.user=false∧c.watches≤(m.length:Int)):=fun h=>h6 h.1
    unfold HP.wres; rw[ht,htc,if_neg (by simp),if_neg h2]
   rw[if_neg h6,if_pos h7,e,hs]
   simp[HP.wfd,h7]; rfl
theorem drainTo_st (M:Tbl)(who:Int)(s:Nat)(hs:s<M.n):(M.drainTo who M.n).st s=(M.bk s,(M.fd s).drain who):=by simp[Tbl.st,Tbl.drainTo,hs]
theorem hloc {i:Nat}{p:HP}{ms:Mine}{H:Hall}{M:Tbl}(g:HPG H.n p)(a:HA i p H.c)(ht:M.t=H.t)(hc:M.c=H.c)(hn:M.n=H.n)
  (ma:p.one=false→p.x.kind≠8→p.at_=1→MA p ms M) (n:Int) {s:Nat} (hs8:s<H.n) (he:p.enabled H=true) :
  Loc i (.h p) ((PR.h p).step ms H n).1 ms ((PR.h p).step ms H n).2.1 H ((PR.h p).step ms H n).2.2 M ((PR.h p).tb H M) s:=by
 have hl:=HP.lt_of_en he
 have hw:=a.w
 have hcl:=a.cl
 have e3:(PR.h p).step ms H n=(.h (p.stp ms H n).1,(p.stp ms H n).2.1,(p.stp ms H n).2.2):=by simp[PR.step,HP.step,he]
 have etb:p.places=true→(PR.h p).tb H M=(M.do_ p.who p.x).1:=fun h=>by simp[PR.tb,PR.enabled,PR.places,he,h,PR.bef]
 have etn:p.places=false→(PR.h p).tb H M=M:=fun h=>by simp[PR.tb,PR.places,h]
 rw[e3]
 have nm:∀ (q:HP),¬ (PR.h q).mid s:=fun q h=>h
 have n5:∀ (q:HP),¬ (PR.h q).at5:=fun q h=>h
 by_cases hb:badB p.x=true
 ·have ho:p.one=true:=by simp[HP.one,hb]
  have:(M.do_ p.who p.x).1=M:=by simp[Tbl.do_,hb]
  rw[etb (by simp[HP.places,ho]),this]
  simp only[HP.stp,hb,if_true]
  exact Loc.same rfl rfl ⟨fun h=>by have h1:=h.1; simp[HP.one,hb] at h1,fun h=>by have h1:=h.1; simp[HP.one,hb] at h1⟩ ⟨fun h=>h.elim,fun h=>h.elim⟩ (fun h=>h.elim) (fun h=>by have h1:=h.1; simp[HP.one,hb] at h1)
 have hb:badB p.x=false:=by simpa using hb
 by_cases h9:p.x.kind=9
 ·have ho:p.one=true:=by simp[HP.one,h9]
  have:(M.do_ p.who p.x).1.st s=M.st s:=by
   unfold Tbl.do_
   rw[if_neg (by simp[hb,hcl]),if_neg (by omega),if_neg (by omega)]
   split
   ·rfl
   rw[if_neg (by omega),if_neg (by omega)]
   first | rfl | (rw[if_pos h9]; rfl)
  rw[etb (by simp[HP.places,ho])]
  simp only[HP.stp,hb,h9,Bool.false_eq_true,if_false,if_true]
  exact Loc.same rfl this ⟨fun h=>by have h1:=h.1; simp[HP.one,h9] at h1,fun h=>by have h1:=h.1; simp[HP.one,h9] at h1⟩ ⟨fun h=>h.elim,fun h=>h.elim⟩ (fun h=>h.elim) (fun h=>by have h1:=h.1; simp[HP.one,h9] at h1)
 have one:p.one=false:=by simp[HP.one,hb,h9]
 have onq:∀ q:HP,q.x=p.x→q.one=false:=fun q h=>by simp[HP.one,h,hb,h9]
 by_cases h8:p.x.kind=8
 ·-- a Poll
  have hk:=g.k
  have hst:p.steps=3*p.k+1:=(HP.poll_of hb h8).2
  have hh:∀ q:HP,q.x=p.x→(q.holds s↔s<q.at_∧s<q.k∧q.at_≤2*q.k+1+s):=fun q hq=>by
   unfold HP.holds; rw[hq,if_pos h8]; simp[onq q hq]
  have hp:∀ (q:HP) m x,q.x=p.x→q.pend m H.c s x=if q.k<q.at_∧q.at_≤q.k+1+s then (x.1,x.2.drain q.who) else x:=fun q m x hq=>by
   unfold HP.pend; rw[onq q hq,hq,if_neg (by simp),if_pos h8]
  have estp:p.stp ms H n=((p.stpP H n).1,ms,(p.stpP H n).2):=by simp[HP.stp,hb,h8]
  rw[estp]
  dsimp only
  unfold HP.stpP
  by_cases hlk:p.at_<p.k
  ·have hpl:p.places=false:=by simp[HP.places,one,h8]; omega
   rw[etn hpl,if_pos hlk]
   dsimp only
   have hwh:(H.ss p.at_).who=0:=by
    have hnd:p.needs=p.at_:=by simp[HP.needs,one,h8,hlk]
    simp[HP.enabled,hnd] at he
    rcases he.2 with h | h
    ·omega
    ·exact h
   have hls:=lock_ss (H:=H) (w:=p.who) (s:=p.at_) (by omega) hwh s
   by_cases hss:s=p.at_
   ·rw[if_pos hss] at hls
    refine⟨fun h=>?_,fun _=>.inr ⟨by rw[hss]; exact hwh,rfl,(hh _ (by rfl)).2 (by dsimp only; omega),by rw[hls,hw,hss],nm _,n5 _,fun x=>?_⟩⟩
    ·have:=(hh p rfl).1 h; omega
    ·show HP.pend _ _ _ _ _=_
     rw[hp _ _ _ (by rfl),if_neg (by dsimp only; omega)]
   ·rw[if_neg hss] at hls
    refine Loc.same hls rfl ?_ ⟨fun h=>h.elim,fun h=>h.elim⟩ (fun h=>h.elim) fun _ x=>?_
    ·show HP.holds _ _↔HP.holds _ _
     rw[hh _ (by rfl),hh p rfl]; dsimp only; omega
    ·show HP.pend _ _ _ _ _=HP.pend _ _ _ _ _
     rw[hp _ _ _ (by rfl),hp p _ _ rfl,if_neg (by dsimp only; omega),if_neg (by omega)]
  rw[if_neg hlk]
  by_cases hk2:p.at_=p.k
  ·have hpl:p.places=true:=by simp[HP.places,one,h8,hk2]
   have hdo:(M.do_ p.who p.x).1=M.drainTo p.who M.n:=by
    unfold Tbl.do_
    rw[if_neg (by simp[hb,hcl]),if_neg (by omega),if_pos h8]; rfl
   rw[etb hpl,if_pos hk2,hdo]
   dsimp only
   refine⟨fun _ hwho hd=>.inl ⟨(hh _ (by rfl)).2 (by dsimp only; omega),hwho,?_⟩,fun h=>absurd ((hh p rfl).2 (by omega)) h⟩
   rw[drainTo_st _ _ _ (by omega)]
   have he':=hd.e
   simp only[PR.pend] at he'
   rw[hp p _ _ rfl,if_neg (by omega)] at he'
   refine⟨?_,fun h=>h.elim,fun h=>hd.q h,fun h=>h.elim⟩
   show _=HP.pend _ _ _ _ _
   rw[hp _ _ _ (by rfl),if_pos (by dsimp only; omega)]
   simp only[Tbl.st,Prod.mk.injEq] at he'
   rw[he'.1,he'.2]; rfl
  rw[if_neg hk2]
  have hpl:p.places=false:=by simp[HP.places,one,h8]; omega
  rw[etn hpl]
  by_cases hk3:p.at_≤2*p.k
  ·rw[if_pos hk3]
   dsimp only
   have hfs:=fed_ss H p.who (p.at_-p.k-1) ((H.ss (p.at_-p.k-1)).feed.drain p.who) s
   by_cases hss:s=p.at_-p.k-1
   ·rw[if_pos hss,← hss] at hfs
    refine⟨fun _ hwho hd=>.inl ⟨(hh _ (by rfl)).2 (by dsimp only; omega),?_,?_⟩,fun h=>absurd ((hh p rfl).2 (by omega)) h⟩
    ·show ((H.drain p.who (p.at_-p.k-1)).ss s).who=_
     rw[← hss]
     show ((H.fed p.who s ((H.ss s).feed.drain p.who)).ss s).who=_
     rw[hfs]; exact hwho
    ·show Held _ _ _ _ ((H.drain p.who (p.at_-p.k-1)).ss s) _
     rw[← hss]
     show Held _ _ _ _ ((H.fed p.who s ((H.ss s).feed.drain p.who)).ss s) _
     rw[hfs]
     have he':=hd.e
     simp only[PR.pend] at he'
     rw[hp p _ _ rfl,if_pos (by omega)] at he'
     refine⟨?_,fun h=>h.elim,fun h=>hd.q h,fun h=>h.elim⟩
     show _=HP.pend _ _ _ _ _
     rw[hp _ _ _ (by rfl),if_neg (by dsimp only; omega)]
     exact he'
   ·rw[if_neg hss] at hfs
    refine Loc.same hfs rfl ?_ ⟨fun h=>h.elim,fun h=>h.elim⟩ (fun h=>h.elim) fun _ x=>?_
    ·show HP.holds _ _↔HP.holds _ _
     rw[hh _ (by rfl),hh p rfl]; dsimp only; omega
    ·show HP.pend _ _ _ _ _=HP.pend _ _ _ _ _
     rw[hp _ _ _ (by rfl),hp p _ _ rfl]
     dsimp only
     by_cases hcc:p.k<p.at_∧p.at_≤p.k+1+s
     ·rw[if_pos hcc,if_pos (by omega)]
     ·rw[if_neg hcc,if_neg (by omega)]
  ·rw[if_neg hk3]
   dsimp only
   by_cases hss:s=p.at_-2*p.k-1
   ·refine⟨fun _ hwho hd=>.inr ⟨fun h=>?_,?_⟩,fun h=>absurd ((hh p rfl).2 (by omega)) h⟩
    ·have:=(hh _ (by rfl)).1 h
     dsimp only at this; omega
    ·have hls:=unlock_ss (H:=H) (w:=p.who) (s:=p.at_-2*p.k-1) (by omega) (by rw[← hss,hw]; exact hwho) s
     rw[if_pos hss,← hss] at hls
     show Free ((H.unlock p.who (p.at_-2*p.k-1)).ss s) _
     rw[← hss,hls]
     have he':=hd.e
     simp only[PR.pend] at he'
     rw[hp p _ _ rfl,if_neg (by omega)] at he'
     have hq:=hd.q (nm _)
     exact⟨rfl,he',hq.1,hq.2⟩
   ·have hls:(H.unlock p.who (p.at_-2*p.k-1)).ss s=H.ss s:=by
     simp only[Hall.unlock]
     split
     ·simp[Hall.put,sput,hss,Hall.did]
     ·rfl
    refine Loc.same hls rfl ?_ ⟨fun h=>h.elim,fun h=>h.elim⟩ (fun h=>h.elim) fun _ x=>?_
    ·show HP.holds _ _↔HP.holds _ _
     rw[hh _ (by rfl),hh p rfl]; dsimp only; omega
    ·show HP.pend _ _ _ _ _=HP.pend _ _ _ _ _
     rw[hp _ _ _ (by rfl),hp p _ _ rfl,if_neg (by dsimp only; omega),if_neg (by omega)]
 -- a Watch or Unwatch
 have hst:p.steps=4:=(HP.kind_of hb h9 h8).2
 have hh:∀ q:HP,q.x=p.x→(q.holds s↔1≤q.at_∧q.at_≤3∧s=q.s):=fun q hq=>by
  unfold HP.holds; rw[hq,if_neg h8]; simp[onq q hq]
 have hp:∀ (q:HP) m x,q.x=p.x→q.pend m H.c s x=if q.at_=2∧s=q.s∧q.wres m H.c=0 then (x.1,q.wfd x.2) else x:=fun q m x hq=>by
  unfold HP.pend; rw[onq q hq,hq,if_neg (by simp),if_neg h8]
 have estp:p.stp ms H n=p.stpW ms H n:=by simp[HP.stp,hb,h9,h8]
 rw[estp]
 unfold HP.stpW
 by_cases h0:p.at_=0
 ·have hpl:p.places=false:=by simp[HP.places,one,h8]; omega
  rw[etn hpl,if_pos h0]
  dsimp only
  have hwh:(H.ss p.s).who=0:=by
   have hnd:p.needs=p.s:=by simp[HP.needs,one,h8,h0]
   simp[HP.enabled,hnd] at he
   rcases he.2 with h | h
   ·omega
   ·exact h
  have hls:=lock_ss (H:=H) (w:=p.who) (s:=p.s) (by omega) hwh s
  by_cases hss:s=p.s
  ·rw[if_pos hss] at hls
   refine⟨fun h=>?_,fun _=>.inr ⟨by rw[hss]; exact hwh,rfl,(hh _ (by rfl)).2 (by dsimp only; omega),by rw[hls,hw,hss],nm _,n5 _,fun x=>?_⟩⟩
   ·have:=(hh p rfl).1 h; omega
   ·show HP.pend _ _ _ _ _=_
    rw[hp _ _ _ (by rfl),if_neg (by dsimp only; omega)]
  ·rw[if_neg hss] at hls
   refine Loc.same hls rfl ?_ ⟨fun h=>h.elim,fun h=>h.elim⟩ (fun h=>h.elim) fun _ x=>?_
   ·show HP.holds _ _↔HP.holds _ _
    rw[hh _ (by rfl),hh p rfl]; dsimp only; omega
   ·show HP.pend _ _ _ _ _=HP.pend _ _ _ _ _
    rw[hp _ _ _ (by rfl),hp p _ _ rfl,if_neg (by dsimp only; omega),if_neg (by omega)]
 rw[if_neg h0]
 by_cases h1:p.at_=1
 ·have hpl:p.places=true:=by simp[HP.places,one,h8,h1]
  rw[etb hpl,if_pos h1]
  have hdo:=(do_watch (i:=i) (p:={ p with t:=H.t }) (m:=ms) (M:=M) (c:=H.c) ⟨a.w,a.i8,a.k6,a.s⟩ hc ⟨(ma one h8 h1).wt,(ma one h8 h1).ct⟩ ht.symm hb h9 h8).1
  dsimp only at hdo
  rw[hdo]
  dsimp only
  by_cases hss:s=p.s
  ·refine⟨fun _ hwho hd=>.inl ⟨(hh _ (by rfl)).2 (by dsimp only; omega),hwho,?_⟩,fun h=>absurd ((hh p rfl).2 (by omega)) h⟩
   have he':=hd.e
   simp only[PR.pend] at he'
   rw[hp p _ _ rfl,if_neg (by omega)] at he'
   refine⟨?_,fun h=>h.elim,fun h=>hd.q h,fun h=>h.elim⟩
   show _=HP.pend _ _ _ _ _
   rw[hp _ _ _ (by rfl)]
   dsimp only
   have hwr:({ p with at_:=2,t:=H.t,placed:=n }:HP).wres ms H.c=({ p with t:=H.t }:HP).wres ms H.c:=rfl
   rw[hwr]
   by_cases hr:({ p with t:=H.t }:HP).wres ms H.c=0
   ·rw[if_pos hr,if_pos ⟨rfl,hss,hr⟩]
    simp only[Tbl.st,Prod.mk.injEq] at he'
    simp only[Tbl.st,Tbl.fed,bset,hss,if_true]
    rw[← hss,he'.1,he'.2]; rfl
   ·rw[if_neg hr,if_neg (fun h=>hr h.2.2)]
    exact he'
  ·refine Loc.same rfl ?_ ?_ ⟨fun h=>h.elim,fun h=>h.elim⟩ (fun h=>h.elim) fun hh'=>?_
   ·split
    ·simp[Tbl.st,Tbl.fed,bset,hss]
    ·rfl
   ·show HP.holds _ _↔HP.holds _ _
    rw[hh _ (by rfl),hh p rfl]; dsimp only; omega
   ·have:=(hh p rfl).1 hh'; omega
 rw[if_neg h1]
 have hpl:p.places=false:=by simp[HP.places,one,h8]; omega
 rw[etn hpl]
 by_cases h2:p.at_=2
 ·rw[if_pos h2]
  have key:∀ (q:HP) (m':Mine) (H':Hall),q.x=p.x→q.s=p.s→q.at_=3→(∀ s',H'.ss s'=if s'=p.s∧p.wres ms H.c=0 then { H.ss p.s with feed:=p.wfd (H.ss p.s).feed } else H.ss s')→Loc i (.h p) (.h q) ms m' H H' M M s:=by
   intro q m' H' hq hqs hq3 hH
   have hH:=hH s
   by_cases hss:s=p.s
   ·refine⟨fun _ hwho hd=>.inl ⟨(hh _ hq).2 (by omega),?_,?_⟩,fun h=>absurd ((hh p rfl).2 (by omega)) h⟩
    ·rw[hH]; split
     ·rename_i h; dsimp only; rw[← h.1]; exact hwho
     ·exact hwho
    ·have he':=hd.e
     simp only[PR.pend] at he'
     rw[hp p _ _ rfl] at he'
     rw[hH]
     by_cases hr:p.wres ms H.c=0
     ·rw[if_pos ⟨h2,hss,hr⟩] at he'
      rw[if_pos ⟨hss,hr⟩,← hss]
      refine⟨?_,fun h=>h.elim,fun h=>hd.q h,fun h=>h.elim⟩
      show _=HP.pend _ _ _ _ _
      rw[hp _ _ _ hq,if_neg (by omega)]
      exact he'
     ·rw[if_neg (fun h=>hr h.2.2)] at he'
      rw[if_neg (fun h=>hr h.2)]
      refine⟨?_,fun h=>h.elim,fun h=>hd.q h,fun h=>h.elim⟩
      show _=HP.pend _ _ _ _ _
      rw[hp _ _ _ hq,if_neg (by omega)]
      exact he'
   ·rw[if_neg (fun h=>hss h.1)] at hH
    refine Loc.same hH rfl ?_ ⟨fun h=>h.elim,fun h=>h.elim⟩ (fun h=>h.elim) fun hh'=>?_
    ·show HP.holds _ _↔HP.holds _ _
     rw[hh _ hq,hh p rfl,hqs]; omega
    ·have:=(hh p rfl).1 hh'; omega
  by_cases hcl':p.t.closed=true
  ·rw[if_pos hcl']
   exact key _ _ _ rfl rfl rfl fun s'=>by
    have:¬ p.wres ms H.c=0:=by simp[HP.wres,hcl']
    rw[if_neg (fun h=>this h.2)]
  rw[if_neg hcl']
  by_cases hcc:p.x.kind=6∧mhas ms p.x.user=false∧H.c.watches≤(ms.length:Int)
  ·rw[if_pos hcc]
   exact key _ _ _ rfl rfl rfl fun s'=>by
    have:¬ p.wres ms H.c=0:=by simp[HP.wres,hcl',hcc.1,hcc.2.1,hcc.2.2]
    rw[if_neg (fun h=>this h.2)]
  ·rw[if_neg hcc]
   have hr:p.wres ms H.c=0:=by
    unfold HP.wres; rw[if_neg hcl',if_neg hcc]
   exact key _ _ _ rfl rfl rfl fun s'=>by
    unfold Hall.watch
    rw[fed_ss]
    by_cases hs':s'=p.s
    ·have hx:s'=p.s∧p.wres ms H.c=0:=⟨hs',hr⟩
     simp only[if_pos hs',if_pos hx,HP.wfd]
    ·have hx:¬ (s'=p.s∧p.wres ms H.c=0):=fun h=>hs' h.1
     simp only[if_neg hs',if_neg hx]
 rw[if_neg h2]
 dsimp only
 have h3:p.at_=3:=by omega
 by_cases hss:s=p.s
 ·refine⟨fun _ hwho hd=>.inr ⟨fun h=>?_,?_⟩,fun h=>absurd ((hh p rfl).2 (by omega)) h⟩
  ·have:=(hh _ (by rfl)).1 h
   dsimp only at this; omega
  ·have hls:=unlock_ss (H:=H) (w:=p.who) (s:=p.s) (by omega) (by rw[← hss,hw]; exact hwho) s
   rw[if_pos hss] at hls
   rw[hls,← hss]
   have he':=hd.e
   simp only[PR.pend] at he'
   rw[hp p _ _ rfl,if_neg (by omega)] at he'
   have hq:=hd.q (nm _)
   exact⟨rfl,he',hq.1,hq.2⟩
 ·have hls:(H.unlock p.who p.s).ss s=H.ss s:=by
   simp only[Hall.unlock]
   split
   ·simp[Hall.put,sput,hss,Hall.did]
   ·rfl
  refine Loc.same hls rfl ?_ ⟨fun h=>h.elim,fun h=>h.elim⟩ (fun h=>h.elim) fun _ x=>?_
  ·show HP.holds _ _↔HP.holds _ _
   rw[hh _ (by rfl),hh p rfl]; dsimp only; omega
  ·show HP.pend _ _ _ _ _=HP.pend _ _ _ _ _
   rw[hp _ _ _ (by rfl),hp p _ _ rfl,if_neg (by dsimp only; omega),if_neg (by omega)]
end Go.Den
namespace Go.Den
open Go
set_option linter.unusedVariables false
set_option linter.unusedSimpArgs false
theorem TS.take {m:Nat}{M:Tbl}(x:TS m M):TS m M.take:=⟨x.rt,x.cw,x.nn,x.bk,x.fd,x.tn,addU_rng x.ts (by simp[U64])⟩
theorem TS.set {m:Nat}{M:Tbl}(x:TS m M){s:Nat}{b:Book}{f:Feed}(hb:BkM m b)(hf:FdM m f):TS m { M with bk:=bset M.bk s b,fd:=bset M.fd s f } :=
 ⟨x.rt,x.cw,x.nn,fun t ht=>by simp only[bset]; split; exact hb; exact x.bk t ht,fun t ht=>by simp only[bset]; split; exact hf; exact x.fd t ht,x.tn,x.ts⟩
theorem TS.fed {m:Nat}{M:Tbl}(x:TS m M){s:Nat}{f:Feed}(hf:FdM m f):TS m (M.fed s f) :=
 ⟨x.rt,x.cw,x.nn,x.bk,fun t ht=>by simp only[Tbl.fed,bset]; split; exact hf; exact x.fd t ht,x.tn,x.ts⟩
theorem TS.sweep {m:Nat}{M:Tbl}(x:TS m M)(s:Int):TS m (M.sweep s):=by
 unfold Tbl.sweep
 split
 ·rename_i h
  have hs:s.toNat<M.n:=by omega
  exact x.take.set ((x.bk _ hs).sweepTo _ _ (Nat.le_refl _)) ((x.fd _ hs).tell _ _)
 ·exact x
theorem TS.write {m:Nat}{M:Tbl}(x:TS m M){o:OpD}(ow:OpW o):TS (m+1) (M.write o).1:=by
 have y:=x.mono (Nat.le_succ m)
 have hs:=x.stripe o.user
 unfold Tbl.write
 split
 ·exact y.take
 ·exact y.take.set ((x.bk _ hs).write ow x.tn _) ((y.fd _ hs).tell _ _)
theorem TS.do_ {m:Nat}{M:Tbl}(x:TS m M)(who:Int){o:OpD}(ow:OpW o):TS (m+1) (M.do_ who o).1:=by
 have y:=x.mono (Nat.le_succ m)
 have hs:=x.stripe o.user
 unfold Tbl.do_
 split
 ·exact y
 split
 ·exact x.write ow
 split
 ·exact⟨y.rt,y.cw,y.nn,y.bk,fun t ht=>by simp only[Tbl.poll,Tbl.drainTo]; split; exact (y.fd t ht).drain _; exact y.fd t ht,y.tn,y.ts⟩
 split
 ·exact y
 split
 ·unfold Tbl.watch
  split
  ·exact y
  ·exact y.fed ((x.fd _ hs).watch _ _ ow.s1)
 split
 ·exact y.fed ((x.fd _ hs).unwatch _ _ ow.s1)
 split
 ·exact⟨y.rt,y.cw,y.nn,y.bk,y.fd,y.tn,y.ts⟩
 ·exact y
def PR.owd:PR→Prop
 | .w p=>∀ o,p.k = .op o→OpW o
 | .r _=>True
 | .h p=>OpW p.x
theorem TS.bef {m:Nat}{M:Tbl}(x:TS m M){p:PR}(h:p.owd):TS (m+1) (p.bef M).1:=by
 have y:=x.mono (Nat.le_succ m)
 cases p with
 | w p =>
  simp only[PR.bef]
  cases hk:p.k with
  | bad=>exact y
  | op o=>exact x.write (h o hk)
  | sweep=>exact y.sweep _
 | r p=>exact y
 | h p=>exact x.do_ _ h
theorem TS.tb {m:Nat}{M:Tbl}(x:TS m M){p:PR}{H:Hall}(h:p.owd):TS (m+1) (p.tb H M):=by
 unfold PR.tb
 split
 ·exact x.bef h
 ·exact x.mono (Nat.le_succ m)
def allWs (M:Tbl)(i:Nat):List ByteArray:=(List.range M.n).flatMap fun s=>wsOf (M.fd s).ws i
structure WsI (M:Tbl)(e:Nat→Mine):Prop where
 pm:∀ i,i<8→(allWs M i).Perm (e i)
 lo:∀ s i u,s<M.n→i<8→u∈wsOf (M.fd s).ws i→M.stripe u=s
theorem sum_map_len {α β:Type}(l:List α)(f:α→List β):(l.map fun a=>(f a).length).sum=(l.flatMap f).length:=by
 induction l with
 | nil=>rfl
 | cons a l ih=>rw[List.map_cons,List.sum_cons,List.flatMap_cons,List.length_append,ih]
theorem WsI.count {M:Tbl}{e:Nat→Mine}(x:WsI M e){i:Nat}(hi:i<8):M.count i=(e i).length:=by
 rw[← (x.pm i hi).length_eq]
 unfold allWs Tbl.count
 rw[← sum_map_len]
 congr 1
 apply List.map_congr_left
 intro s _
 have hc:clientB (i:Int)=true:=by simp[clientB]; omega
 simp[Feed.count,hc,wsOf]
theorem WsI.watching {M:Tbl}{e:Nat→Mine}{m:Nat}(x:WsI M e)(ts:TS m M){i:Nat}(hi:i<8)(u:ByteArray):(M.fd (M.stripe u)).watching i u=mhas (e i) u:=by
 have hs:=ts.stripe u
 have hc:clientB (i:Int)=true:=by simp[clientB]; omega
 unfold Feed.watching
 rw[hc,Bool.true_and,Bool.eq_iff_iff,← wsOf_mem (ts.fd _ hs).so,mhas_iff,← (x.pm i hi).mem_iff]
 unfold allWs
 rw[List.mem_flatMap]
 constructor
 ·intro h; exact⟨M.stripe u,List.mem_range.2 hs,h⟩
 ·rintro⟨s,h1,h2⟩
  have:=x.lo s i u (List.mem_range.1 h1) hi h2
  rw[this]; exact h2
theorem WsI.same {M M':Tbl}{e e':Nat→Mine}(x:WsI M e)(hn:M'.n=M.n)(hc:M'.c=M.c)(hw:∀ s,s<M.n→(M'.fd s).ws=(M.fd s).ws)(he:∀ i,i<8→e' i=e i):WsI M' e':=by
 have ha:∀ i,allWs M' i=allWs M i:=fun i=>by
  unfold allWs; rw[hn]
  rw[List.flatMap_def,List.flatMap_def]
  congr 1
  exact List.map_congr_left fun s hs=>by rw[hw s (by simpa using hs)]
 refine⟨fun i hi=>by rw[ha,he i hi]; exact x.pm i hi,fun s i u hs hi hu=>?_⟩
 rw[hw s (by omega)] at hu
 have:=x.lo s i u (by omega) hi hu
 unfold Tbl.stripe at this ⊢
 rw[hc]; exact this
theorem tell_ws (f:Feed)(l:List Chg)(seq:Int):(f.tell l seq).ws=f.ws:=by
 unfold Feed.tell
 induction l generalizing f with
 | nil=>rfl
 | cons c l ih=>rw[List.foldl_cons,ih,tell1_ws]
theorem drain_ws (f:Feed)(who:Int):(f.drain who).ws=f.ws:=by unfold Feed.drain; split<;>rfl
theorem range_split {n s:Nat}(hs:s<n):List.range n=List.range s++s::(List.range (n-s-1)).map (·+(s+1)):=by
 have h1:n=s+(1+(n-s-1)):=by omega
 rw[h1,List.range_add]
 congr 1
 rw[List.range_add]
 simp only[List.range_one,List.map_append,List.map_cons,List.map_nil,Nat.add_zero,List.map_map,List.singleton_append]
 rw[show s+(1+(n-s-1))-s-1=n-s-1 by omega]
 congr 1
 apply List.map_congr_left
 intro k _
 simp only[Function.comp]; omega
theorem flatMap_perm {β:Type}{n s:Nat}(hs:s<n){f g:Nat→List β}(h:∀ k,k≠s→(g k).Perm (f k))(x y:List β)(hxy:(x++g s).Perm (y++f s)):(x++(List.range n).flatMap g).Perm (y++(List.range n).flatMap f):=by
 have hl:∀ l:List Nat,s ∉ l→(l.flatMap g).Perm (l.flatMap f):=fun l hl=>by
  induction l with
  | nil=>exact List.Perm.refl _
  | cons a l ih =>
   simp only[List.mem_cons,not_or] at hl
   simp only[List.flatMap_cons]
   exact (h a (Ne.symm hl.1)).append (ih hl.2)
 rw[range_split hs]
 simp only[List.flatMap_append,List.flatMap_cons]
 have h1:=hl (List.range s) (by simp)
 have h2:=hl ((List.range (n-s-1)).map (·+(s+1))) (by simp; omega)
 generalize (List.range s).flatMap g=A at *
 generalize (List.range s).flatMap f=A' at *
 generalize ((List.range (n-s-1)).map (·+(s+1))).flatMap g=B at *
 generalize ((List.range (n-s-1)).map (·+(s+1))).flatMap f=B' at *
 have e1:(x++(A++(g s++B))).Perm ((x++g s)++(A++B)):=by
  rw[List.append_assoc]
  refine List.Perm.append_left x ?_
  rw[← List.append_assoc,← List.append_assoc]
  exact (List.perm_append_comm).append_right B
 have e2:((y++f s)++(A'++B')).Perm (y++(A'++(f s++B'))):=by
  rw[List.append_assoc]
  refine List.Perm.append_left y ?_
  rw[← List.append_assoc,← List.append_assoc]
  exact (List.perm_append_comm).append_right B'
 exact (e1.trans (hxy.append (h1.append h2))).trans e2
theorem wsOf_watch {f:Feed}(so:SrtK (keysL f.ws))(ms:∀ x∈f.ws,0≤x.2∧x.2<4294967296){w j:Nat}(hw:w<8)(hj:j<8)(u:ByteArray) :
  (wsOf (f.watch w u).ws j).Perm (if j=w then (wsOf f.ws j).filter (fun k=>!decide (k=u))++[u] else wsOf f.ws j):=by
 have hc:clientB (w:Int)=true:=by simp[clientB]; omega
 obtain⟨m0,m1⟩:=valL_rng (u:=u) ms
 have e0:=wsOf_self so u j
 have e1:wsOf (f.watch w u).ws j=wsOf (putB f.ws u (mor (valL 0 f.ws u) w)) j:=by simp[Feed.watch,hc]
 rw[e1]
 refine (wsOf_put so u _ j).trans ?_
 rw[mbit_mor m0 m1 hw hj]
 by_cases h:j=w
 ·have e2:(wsOf (delB f.ws u) j).filter (fun k=>!decide (k=u))=wsOf (delB f.ws u) j:=List.filter_eq_self.2 fun k hk=>by
   have:¬ k=u:=fun h=>wsOf_del_not (h▸hk)
   simp[this]
  have e3:=e0.filter (fun k=>!decide (k=u))
  rw[List.filter_append,e2] at e3
  have e4:(if mbit (valL 0 f.ws u) j=true then [u] else []).filter (fun k=>!decide (k=u))=[]:=by split<;>simp
  rw[e4,List.nil_append] at e3
  simp only[h,decide_true,Bool.or_true,if_true]
  rw[h] at e3
  exact (List.perm_append_comm).trans (e3.symm.append_right [u])
 ·simp only[h,decide_false,Bool.or_false,if_false]
  exact e0.symm
theorem wsOf_unwatch {f:Feed}(so:SrtK (keysL f.ws))(ms:∀ x∈f.ws,0≤x.2∧x.2<4294967296){w j:Nat}(hw:w<8)(hj:j<8)(u:ByteArray) :
  (wsOf (f.unwatch w u).ws j).Perm (if j=w then (wsOf f.ws j).filter (fun k=>!decide (k=u)) else wsOf f.ws j):=by
 have hc:clientB (w:Int)=true:=by simp[clientB]; omega
 obtain⟨m0,m1⟩:=valL_rng (u:=u) ms
 have e0:=wsOf_self so u j
 have e2:(wsOf (delB f.ws u) j).filter (fun k=>!decide (k=u))=wsOf (delB f.ws u) j:=List.filter_eq_self.2 fun k hk=>by
  have:¬ k=u:=fun h=>wsOf_del_not (h▸hk)
  simp[this]
 have e3:=e0.filter (fun k=>!decide (k=u))
 rw[List.filter_append,e2] at e3
 have e4:(if mbit (valL 0 f.ws u) j=true then [u] else []).filter (fun k=>!decide (k=u))=[]:=by split<;>simp
 rw[e4,List.nil_append] at e3
 have main:∀ ws':List (ByteArray × Int),(wsOf ws' j).Perm ((if mbit (mclr (valL 0 f.ws u) w) j then [u] else [])++wsOf (delB f.ws u) j)→(wsOf ws' j).Perm (if j=w then (wsOf f.ws j).filter (fun k=>!decide (k=u)) else wsOf f.ws j):=fun ws' h=>by
  rw[mbit_mclr m0 m1 hw hj] at h
  by_cases hjw:j=w
  ·rw[if_pos hjw]
   simp only[hjw,decide_true,Bool.not_true,Bool.and_false,Bool.false_eq_true,if_false,List.nil_append] at h
   rw[hjw] at e3 ⊢
   exact h.trans e3.symm
  ·rw[if_neg hjw]
   simp only[hjw,decide_false,Bool.not_false,Bool.and_true] at h
   exact h.trans e0.symm
 unfold Feed.unwatch
 simp only[hc,true_and]
 by_cases hv:valL 0 f.ws u=0
 ·simp only[hv,ne_eq,not_true_eq_false,if_false]
  split
  ·rw[hv,mbit_zero] at e0
   simp only[Bool.false_eq_true,if_false,List.nil_append] at e0
   exact e0.trans e3.symm
  ·exact List.Perm.refl _
 ·simp only[ne_eq,hv,not_false_eq_true,if_true]
  split
  ·rename_i h0
   refine main _ ?_
   rw[h0,mbit_zero]; simp
  ·exact main _ (wsOf_put so u _ j)
theorem WsI.put {M:Tbl}{e e':Nat→Mine}{m:Nat}(x:WsI M e)(ts:TS m M){p:HP}{w:Nat}(hw:w<8)(hp:p.who=w)(hs:p.s=M.stripe p.x.user)
  (he:e' w=miset (e w) p.x.user (decide (p.x.kind=6))) (ho:∀ j,j≠w→e' j=e j):WsI (M.fed p.s (p.wfd (M.fd p.s))) e':=by
 have hsn:p.s<M.n:=by rw[hs]; exact ts.stripe _
 have fm:=ts.fd p.s hsn
 obtain⟨u,hu⟩:∃ u,p.x.user=u:=⟨_,rfl⟩
 have hwf:p.wfd (M.fd p.s)=if decide (p.x.kind=6) then (M.fd p.s).watch w u else (M.fd p.s).unwatch w u:=by unfold HP.wfd; rw[hp,hu]
 have key:∀ j,j<8→(wsOf (p.wfd (M.fd p.s)).ws j).Perm (if j=w then (wsOf (M.fd p.s).ws j).filter (fun k=>!decide (k=u))++(if decide (p.x.kind=6) then [u] else []) else wsOf (M.fd p.s).ws j):=fun j hj=>by
  rw[hwf]
  cases hk:decide (p.x.kind=6) with
  | true=>simpa using wsOf_watch fm.so fm.ms hw hj u
  | false=>simpa using wsOf_unwatch fm.so fm.ms hw hj u
 have hfd:∀ s,s≠p.s→(M.fed p.s (p.wfd (M.fd p.s))).fd s=M.fd s:=fun s h=>by simp[Tbl.fed,bset,h]
 have hfs:(M.fed p.s (p.wfd (M.fd p.s))).fd p.s=p.wfd (M.fd p.s):=by simp[Tbl.fed,bset]
 refine⟨fun j hj=>?_,fun s j v hs' hj hv=>?_⟩
 ·have kj:=key j hj
  by_cases hjw:j=w
  ·subst hjw
   rw[if_pos rfl] at kj
   rw[he,hu]
   unfold miset
   -- the others have none of this user's
   have hno:∀ s,s<M.n→s≠p.s→(wsOf (M.fd s).ws j).filter (fun k=>!decide (k=u))=wsOf (M.fd s).ws j:=fun s h1 h2=>List.filter_eq_self.2 fun k hk=>by
    have:¬ k=u:=fun h=>by
     subst h
     have:=x.lo s j k h1 hj hk
     rw[← hu,← hs] at this
     exact h2 this.symm
    simp[this]
   have h1:=(x.pm j hj).filter (fun k=>!decide (k=u))
   refine List.Perm.trans ?_ (h1.append_right _)
   unfold allWs
   rw[List.filter_flatMap]
   have:=flatMap_perm (s:=p.s) hsn (f:=fun s=>(wsOf (M.fd s).ws j).filter (fun k=>!decide (k=u))) (g:=fun s=>if s<M.n then wsOf ((M.fed p.s (p.wfd (M.fd p.s))).fd s).ws j else (wsOf (M.fd s).ws j).filter (fun k=>!decide (k=u)))
    (fun k hk=>by
     by_cases hkn:k<M.n
     ·simp only[if_pos hkn]; rw[hfd k hk,hno k hkn hk]
     ·simp only[if_neg hkn]; exact List.Perm.refl _) [] (if decide (p.x.kind=6) then [u] else [])
    (by
     simp only[if_pos hsn]; rw[hfs,List.nil_append]
     exact kj.trans List.perm_append_comm)
   rw[List.nil_append] at this
   have e1:(List.range M.n).flatMap (fun s=>if s<M.n then wsOf ((M.fed p.s (p.wfd (M.fd p.s))).fd s).ws j else (wsOf (M.fd s).ws j).filter (fun k=>!decide (k=u)))=(List.range M.n).flatMap fun s=>wsOf ((M.fed p.s (p.wfd (M.fd p.s))).fd s).ws j:=by
    rw[List.flatMap_def,List.flatMap_def]
    congr 1
    exact List.map_congr_left fun s hs=>by rw[if_pos (by simpa using hs)]
   rw[e1] at this
   exact this.trans List.perm_append_comm
  ·rw[if_neg hjw] at kj
   rw[ho j hjw]
   refine List.Perm.trans ?_ (x.pm j hj)
   have:=flatMap_perm (s:=p.s) hsn (f:=fun s=>wsOf (M.fd s).ws j) (g:=fun s=>wsOf ((M.fed p.s (p.wfd (M.fd p.s))).fd s).ws j) (fun k hk=>by rw[hfd k hk]) [] [] (by rw[hfs]; exact kj)
   rw[List.nil_append,List.nil_append] at this
   exact this
 ·show M.stripe v=s
  have hs':s<M.n:=hs'
  by_cases hsp:s=p.s
  ·subst hsp
   rw[hfs] at hv
   have hv:=(key j hj).mem_iff.1 hv
   split at hv
   ·rcases List.mem_append.1 hv with hv | hv
    ·exact x.lo _ j v hs' hj (List.mem_filter.1 hv).1
    ·split at hv
     ·simp at hv; rw[hv,← hu,hs]
     ·simp at hv
   ·exact x.lo _ j v hs' hj hv
  ·rw[hfd s hsp] at hv
   exact x.lo s j v hs' hj hv
end Go.Den
namespace Go.Den
open Go
set_option linter.unusedVariables false
set_option linter.unusedSimpArgs false
def PA (n i:Nat)(c:Cfg):PR→Prop
 | .w p=>WG n p∧WA i p c
 | .r p=>RK n p∧RA i p
 | .h p=>HPG n p∧HA i p c
structure LI (W:Wd)(M:Tbl):Prop where
 t:M.t=W.H.t
 c:M.c=W.H.c
 n:M.n=W.H.n
 st:∀ s,s<W.H.n→Free (W.H.ss s) (M.st s)∨∃ i p,W.ps i=some p∧p.holds s∧(W.H.ss s).who=i+1∧Held p (W.ms i) W.H.c s (W.H.ss s) (M.st s)
 own:∀ i p s,s<W.H.n→W.ps i=some p→p.holds s→(W.H.ss s).who=i+1
 pa:∀ i p,W.ps i=some p→PA W.H.n i W.H.c p
 ws:WsI M W.em
theorem bset_same {α:Type}(f:Nat→α)(i:Nat)(x:α):bset f i x i=x:=by simp[bset]
theorem bset_ne {α:Type}{f:Nat→α}{i j:Nat}{x:α}(h:j≠i):bset f i x j=f j:=by simp[bset,h]
theorem bset_id {α:Type}(f:Nat→α)(i:Nat):bset f i (f i)=f:=by
 funext j; unfold bset; split
 ·rename_i h; rw[h]
 ·rfl
theorem pstep_off {p : PR} {m : Mine} {H : Hall} {n : Int} (h : p.enabled H = false) : p.step m H n = (p, m, H) := by
  cases p with
  | w p => have h : p.enabled H = false := h
           simp [PR.step, WP.step, h]
  | r p => have h : p.enabled H = false := h
           simp [PR.step, RP.step, h]
  | h p => have h : p.enabled H = false := h
           simp [PR.step, HP.step, h]
theorem pstep_n {k i:Nat}{p:PR}{m:Mine}{H:Hall}(hs:HS k H)(n:Int)(hk:k<100000)(g:PA H.n i H.c p):(p.step m H n).2.2.n=H.n∧(p.step m H n).2.2.c=H.c∧HS (k+1) (p.step m H n).2.2∧PA H.n i H.c (p.step m H n).1:=by
 cases p with
 | w p =>
  obtain⟨k1,k2,k3⟩:=wstep_k p H n
  obtain⟨n1,n2⟩:=wstep_n p H n
  exact⟨n1,n2,hs.wstep g.1 n,g.1.step hs n,by rw[show (p.step H n).1.who=p.who from k2]; exact g.2.w,(g.1.step hs n).a,fun x hx=>by rw[k3]; exact g.2.s x (by rw[← k1]; exact hx)⟩
 | r p =>
  have hg:=hs.g hk
  obtain⟨k1,k2,k3,k4,k5⟩:=g.1.step hg n (by have:=hs.ac; omega)
  refine⟨k3,k4,?_,by have:=k1; exact k1,?_⟩
  ·show HS (k+1) (p.step H n).2
   unfold RP.step
   split
   ·exact hs.mono (by omega)
   rename_i hen
   split
   ·exact hs.mono (by omega)
   rename_i hz
   have h8:p.ph≠8:=fun h=>by simp[RP.enabled,h] at hen
   have hat:=g.1.at_ h8 hz
   have hss:p.s<H.n:=by rw[RP.s_lt hat]; exact g.1.ss _ (List.getElem_mem _)
   unfold RP.go
   split
   ·exact hs.epoch _ _
   split
   ·exact hs.snap _ _
   split
   ·exact hs.look _
   split
   ·exact hs.look _
   split
   ·exact hs.epoch _ _
   split
   ·exact hs.lock hss g.1.wr.2
   split
   ·exact hs.read _ _
   ·exact hs.unlock hss
  ·show RA i (p.step H n).1
   have hkeep:(p.step H n).1.who=p.who∧(p.step H n).1.ss=p.ss:=by
    unfold RP.step
    split
    ·exact⟨rfl,rfl⟩
    split
    ·exact⟨rfl,rfl⟩
    have hnx:∀ (q:RP) ph,(q.next ph).who=q.who∧(q.next ph).ss=q.ss:=fun q ph=>by unfold RP.next; split<;>exact⟨rfl,rfl⟩
    have han:∀ q:RP,q.answer.who=q.who∧q.answer.ss=q.ss:=fun q=>by unfold RP.answer; split<;>exact⟨rfl,rfl⟩
    have hju:∀ q:RP,q.judge.who=q.who∧q.judge.ss=q.ss:=fun q=>by
     unfold RP.judge
     split
     ·exact han q
     split<;>exact⟨rfl,rfl⟩
    unfold RP.go
    split
    ·exact hnx _ _
    split
    ·exact hnx _ _
    split
    ·exact⟨rfl,rfl⟩
    split
    ·exact⟨rfl,rfl⟩
    split
    ·dsimp only; split
     ·exact⟨(hju _).1.trans (hnx _ _).1,(hju _).2.trans (hnx _ _).2⟩
     ·exact hnx _ _
    split
    ·exact hnx _ _
    split
    ·exact hnx _ _
    ·dsimp only; split
     ·exact⟨(han _).1.trans (hnx _ _).1,(han _).2.trans (hnx _ _).2⟩
     ·exact hnx _ _
   exact⟨by rw[hkeep.1]; exact g.2.w,by rw[hkeep.2]; exact g.2.nd⟩
 | h p =>
  obtain⟨k1,k2,k3,k4⟩:=hstep_k p m H n
  obtain⟨n1,n2⟩:=hstep_n p m H n
  exact⟨n1,n2,hs.hstep g.1 m n,g.1.step m n,by rw[show (p.step m H n).1.who=p.who from k1]; exact g.2.w,g.2.i8,fun h=>by rw[show (p.step m H n).1.x=p.x from k2] at h ⊢; exact g.2.k6 h,by rw[show (p.step m H n).1.s=p.s from k4,show (p.step m H n).1.x=p.x from k2]; exact g.2.s⟩
theorem tb_n {i:Nat}{p:PR}{H:Hall}{M:Tbl}(hn:M.n=H.n)(g:PA H.n i H.c p):(p.tb H M).n=M.n∧(p.tb H M).c=M.c:=by
 unfold PR.tb
 split
 ·cases p with
  | w p =>
   cases hk:p.k with
   | bad=>simp[PR.bef,hk,WK.bef]
   | op x=>have:=bef_t (k:=p.k) (s:=p.s) (M:=M) (by simp[hk,WK.isBad]) (by rw[hn]; exact g.1.s); exact⟨this.2.2,this.2.1⟩
   | sweep=>have:=bef_t (k:=p.k) (s:=p.s) (M:=M) (by simp[hk,WK.isBad]) (by rw[hn]; exact g.1.s); exact⟨this.2.2,this.2.1⟩
  | r p=>exact⟨rfl,rfl⟩
  | h p =>
   simp only[PR.bef]
   unfold Tbl.do_
   split
   ·exact⟨rfl,rfl⟩
   split
   ·unfold Tbl.write; split<;>exact⟨rfl,rfl⟩
   split
   ·exact⟨rfl,rfl⟩
   split
   ·exact⟨rfl,rfl⟩
   split
   ·unfold Tbl.watch; split<;>exact⟨rfl,rfl⟩
   split
   ·exact⟨rfl,rfl⟩
   split<;>exact⟨rfl,rfl⟩
 ·exact⟨rfl,rfl⟩
theorem tb_t {i:Nat}{p:PR}{m:Mine}{H:Hall}{M:Tbl}(ht:M.t=H.t)(hn:M.n=H.n)(g:PA H.n i H.c p)(n:Int):(p.tb H M).t=(p.step m H n).2.2.t:=by
 cases hen:p.enabled H with
 | false =>
  rw[pstep_off hen]
  simp[PR.tb,hen,ht]
 | true =>
  cases p with
  | w p =>
   have he:p.enabled H=true:=hen
   by_cases hb:p.k.isBad=true
   ·have:p.k = .bad:=by cases hk:p.k<;>simp[hk,WK.isBad] at hb ⊢
    simp[PR.tb,PR.bef,this,WK.bef,PR.step,WP.step,he,hb,ht]
    simp[this,WK.isBad,ht]
   have hb:p.k.isBad=false:=by simpa using hb
   have e3:((PR.w p).step m H n).2.2=(p.stp H n).2:=by simp[PR.step,WP.step,he,hb]
   rw[e3]
   by_cases h2:p.at_=2
   ·have e4:(PR.w p).tb H M=(p.k.bef p.s M).1:=by simp[PR.tb,PR.places,WP.places,hen,h2,PR.bef]
    rw[e4,(bef_t hb (by rw[hn]; exact g.1.s)).1,stp2 H n h2]
    simp[Tbl.take,Hall.take,Hall.did,ht]
   ·have e4:(PR.w p).tb H M=M:=by simp[PR.tb,PR.places,WP.places,hb,h2]
    rw[e4,ht]
    by_cases h0:p.at_=0
    ·rw[stp0 H n h0]; exact (lock_t _ _ _).symm
    by_cases h1:p.at_=1
    ·rw[stp1 H n h1]; rfl
    by_cases h3:p.at_=3
    ·rw[stp3 H n h3]; exact (run_ss p.k H p.who p.s p.t p.s).2.2.2.2.symm
    by_cases h4:p.at_=4
    ·rw[stp4 H n h4]; rfl
    by_cases h5:p.at_=5
    ·rw[stp5 H n h5]; rfl
    ·rw[stp6 H n (by have:=enabled_at he; omega)]; exact (unlock_t _ _ _).symm
  | r p =>
   have e4:(PR.r p).tb H M=M:=by simp[PR.tb,PR.places]
   rw[e4,ht]
   show H.t=(p.step H n).2.t
   unfold RP.step
   split
   ·rfl
   split
   ·rfl
   unfold RP.go
   split
   ·rfl
   split
   ·rfl
   split
   ·rfl
   split
   ·rfl
   split
   ·rfl
   split
   ·exact (lock_t _ _ _).symm
   split
   ·rfl
   ·exact (unlock_t _ _ _).symm
  | h p =>
   have he:p.enabled H=true:=hen
   have e3:((PR.h p).step m H n).2.2=(p.stp m H n).2.2:=by simp[PR.step,HP.step,he]
   rw[e3]
   have hcl:=g.2.cl
   have hpt:∀ (who:Int) (x:OpD),badB x=true∨x.kind≠9→(badB x=false→6≤x.kind)→(M.do_ who x).1.t=M.t:=fun who x h h6=>by
    unfold Tbl.do_
    split
    ·rfl
    rename_i hnb
    have hb:badB x=false:=by
     cases hbb:badB x with
     | true=>exact absurd (.inl hbb) hnb
     | false=>rfl
    have hk:=h6 hb
    split
    ·omega
    split
    ·rfl
    split
    ·rfl
    split
    ·unfold Tbl.watch; split<;>rfl
    split
    ·rfl
    split
    ·rcases h with h | h
     ·rw[hb] at h; cases h
     ·contradiction
    ·rfl
   by_cases hb:badB p.x=true
   ·have:((PR.h p).tb H M).t=M.t:=by
     unfold PR.tb; split
     ·exact hpt _ _ (.inl hb) g.2.k6
     ·rfl
    rw[this,ht]; simp[HP.stp,hb]
   have hb:badB p.x=false:=by simpa using hb
   by_cases h9:p.x.kind=9
   ·have e4:(PR.h p).tb H M=(M.do_ p.who p.x).1:=by simp[PR.tb,PR.places,HP.places,HP.one,h9,hen,PR.bef]
    have e5:(p.stp m H n).2.2=H.shut p.who:=by simp[HP.stp,hb,h9]
    rw[e4,e5]
    unfold Tbl.do_
    rw[if_neg (by simp[hb,hcl]),if_neg (by omega),if_neg (by omega)]
    cases htc:M.t.closed with
    | true =>
     simp only[if_true]
     rw[ht] at htc ⊢
     have:(H.shut p.who).t={ H.t with closed:=true }:=rfl
     rw[this,← htc]
    | false =>
     simp only[Bool.false_eq_true,if_false]
     rw[if_neg (by omega),if_neg (by omega),if_pos h9]
     show _={ H.t with closed:=true }
     rw[← ht]
   ·have:((PR.h p).tb H M).t=M.t:=by
     unfold PR.tb; split
     ·exact hpt _ _ (.inr h9) g.2.k6
     ·rfl
    rw[this,ht]
    simp only[HP.stp,hb,h9,Bool.false_eq_true,if_false]
    split
    ·unfold HP.stpP
     split
     ·exact (lock_t _ _ _).symm
     split
     ·rfl
     split
     ·rfl
     ·exact (unlock_t _ _ _).symm
    ·unfold HP.stpW
     split
     ·exact (lock_t _ _ _).symm
     split
     ·rfl
     split
     ·split
      ·rfl
      split<;>rfl
     ·exact (unlock_t _ _ _).symm
theorem em_of {W:Wd}{i:Nat}{p:PR}(h:W.ps i=some p):W.em i=p.em (W.ms i) W.H.c:=by simp[Wd.em,h]
theorem LI.ma {W:Wd}{M:Tbl}{k:Nat}(x:LI W M)(ts:TS k M){i:Nat}{p:HP}(hp:W.ps i=some (.h p))(h1:p.at_≠2):MA p (W.ms i) M:=by
 have hpa:=x.pa i _ hp
 have he:W.em i=W.ms i:=by rw[em_of hp]; simp[PR.em,HP.em,h1]
 have hw:=hpa.2.w
 exact⟨by rw[hw,x.ws.watching ts hpa.2.i8,he],by rw[hw,x.ws.count hpa.2.i8,he]⟩
theorem LI.loc {W:Wd}{M:Tbl}{k j:Nat}(x:LI W M)(hs:HS k W.H)(ts:TS j M){i:Nat}{p:PR}(hp:W.ps i=some p)(n:Int)(he:p.enabled W.H=true){s:Nat}(hn:s<W.H.n) :
  Loc i p (p.step (W.ms i) W.H n).1 (W.ms i) (p.step (W.ms i) W.H n).2.1 W.H (p.step (W.ms i) W.H n).2.2 M (p.tb W.H M) s:=by
 have hpa:=x.pa i _ hp
 cases p with
 | w p=>exact wloc (m:=0) hs hpa.1 hpa.2 x.t x.c x.n n hn he
 | r p=>exact rloc hpa.1 hpa.2 n hn he
 | h p=>exact hloc hpa.1 hpa.2 x.t x.c x.n (fun _ _ h=>x.ma ts hp (by omega)) n hn he
end Go.Den
namespace Go.Den
open Go
set_option linter.unusedVariables false
set_option linter.unusedSimpArgs false
theorem bef_ws {k:WK}{s:Nat}{M:Tbl}(s':Nat):((k.bef s M).1.fd s').ws=(M.fd s').ws:=by
 cases k with
 | bad=>rfl
 | op x =>
  simp only[WK.bef,Tbl.write]
  split
  ·rfl
  ·simp only[Tbl.writeAt,bset]
   split
   ·rename_i h; rw[tell_ws,h]; rfl
   ·rfl
 | sweep =>
  simp only[WK.bef,Tbl.sweep]
  split
  ·simp only[Tbl.sweepAt,bset]
   split
   ·rename_i h; rw[tell_ws,h]; rfl
   ·rfl
  ·rfl
theorem step_em_ne {W:Wd}{i:Nat}{n:Int}(hc:(W.step i n).H.c=W.H.c){j:Nat}(h:j≠i):(W.step i n).em j=W.em j:=by
 unfold Wd.em
 unfold Wd.step at hc ⊢
 cases hp:W.ps i with
 | none=>rfl
 | some p =>
  simp only[hp] at hc ⊢
  rw[bset_ne h,bset_ne h,hc]
theorem HP.em_def (p:HP)(m:Mine)(c:Cfg):p.em m c=if p.one=false∧p.x.kind≠8∧p.at_=2∧p.wres m c=0 then miset m p.x.user (decide (p.x.kind=6)) else m:=rfl
theorem LI.ws_step {W:Wd}{M:Tbl}{j:Nat}(x:LI W M)(ts:TS j M){i:Nat}{p:PR}(hp:W.ps i=some p)(n:Int)(hc:(W.step i n).H.c=W.H.c)(hm:(p.tb W.H M).n=M.n∧(p.tb W.H M).c=M.c):WsI (p.tb W.H M) (W.step i n).em:=by
 have hpa:=x.pa i p hp
 have hWi:(W.step i n).em i=(p.step (W.ms i) W.H n).1.em (p.step (W.ms i) W.H n).2.1 W.H.c:=by
  have:(W.step i n).ps i=some (p.step (W.ms i) W.H n).1:=by simp only[Wd.step,hp,bset_same]
  rw[em_of this,hc]
  simp only[Wd.step,hp,bset_same]
 have hWn:=fun j (h:j≠i)=>step_em_ne (W:=W) (i:=i) (n:=n) hc h
 have he0:=em_of hp
 -- nothing is changed
 have same:(∀ s,s<M.n→((p.tb W.H M).fd s).ws=(M.fd s).ws)→(p.step (W.ms i) W.H n).1.em (p.step (W.ms i) W.H n).2.1 W.H.c=p.em (W.ms i) W.H.c→WsI (p.tb W.H M) (W.step i n).em:=fun h1 h2 =>
  x.ws.same hm.1 hm.2 h1 fun j hj=>by
   by_cases h:j=i
   ·subst h; rw[hWi,he0,h2]
   ·exact hWn j h
 cases hen:p.enabled W.H with
 | false =>
  refine same (fun s _=>by simp[PR.tb,hen]) ?_
  rw[pstep_off hen]
 | true =>
  cases p with
  | w p =>
   refine same (fun s _=>?_) rfl
   unfold PR.tb; split
   ·exact bef_ws s
   ·rfl
  | r p=>exact same (fun s _=>by simp[PR.tb,PR.places]) rfl
  | h p =>
   have he:p.enabled W.H=true:=hen
   have hl:=HP.lt_of_en he
   have e3:(PR.h p).step (W.ms i) W.H n=(.h (p.stp (W.ms i) W.H n).1,(p.stp (W.ms i) W.H n).2.1,(p.stp (W.ms i) W.H n).2.2):=by simp[PR.step,HP.step,he]
   rw[e3] at same hWi
   dsimp only[PR.em] at same hWi he0
   have hcl:=hpa.2.cl
   by_cases hb:badB p.x=true
   ·refine same (fun s _=>?_) ?_
    ·unfold PR.tb; split
     ·simp[PR.bef,Tbl.do_,hb]
     ·rfl
    ·simp[HP.stp,hb,HP.em,HP.one]
   have hb:badB p.x=false:=by simpa using hb
   by_cases h9:p.x.kind=9
   ·refine same (fun s _=>?_) ?_
    ·unfold PR.tb; split
     ·simp only[PR.bef]
      unfold Tbl.do_
      rw[if_neg (by simp[hb,hcl]),if_neg (by omega),if_neg (by omega)]
      split
      ·rfl
      rw[if_neg (by omega),if_neg (by omega)]
      try rw[if_pos h9]
     ·rfl
    ·simp[HP.stp,hb,HP.em,HP.one,h9]
   have one:p.one=false:=by simp[HP.one,hb,h9]
   by_cases h8:p.x.kind=8
   ·have hem:∀ q:HP,q.x=p.x→q.em (W.ms i) W.H.c=W.ms i:=fun q hq=>by rw[HP.em_def,if_neg (by rw[hq]; simp[h8])]
    have hx:(p.stpP W.H n).1.x=p.x:=by
     unfold HP.stpP; split
     ·rfl
     split
     ·rfl
     split<;>rfl
    have estp:p.stp (W.ms i) W.H n=((p.stpP W.H n).1,W.ms i,(p.stpP W.H n).2):=by simp[HP.stp,hb,h8]
    refine same (fun s _=>?_) (by rw[estp]; dsimp only; rw[hem _ hx,hem p rfl])
    unfold PR.tb; split
    ·simp only[PR.bef]
     unfold Tbl.do_
     rw[if_neg (by simp[hb,hcl]),if_neg (by omega),if_pos h8]
     have hdw:=drain_ws (M.fd s) p.who
     show (if s<M.n then (M.fd s).drain p.who else M.fd s).ws=_
     by_cases hsn:s<M.n
     ·rw[if_pos hsn]; exact hdw
     ·rw[if_neg hsn]
    ·rfl
   -- a Watch or Unwatch
   have estp:p.stp (W.ms i) W.H n=p.stpW (W.ms i) W.H n:=by simp[HP.stp,hb,h9,h8]
   rw[estp] at same hWi
   have hst:p.steps=4:=(HP.kind_of hb h9 h8).2
   by_cases h1:p.at_=1
   ·have hpl:p.places=true:=by simp[HP.places,one,h8,h1]
    have etb:(PR.h p).tb W.H M=(M.do_ p.who p.x).1:=by simp[PR.tb,PR.places,hen,hpl,PR.bef]
    have ma:=x.ma ts hp (by omega)
    have hdo:=(do_watch (i:=i) (p:={ p with t:=W.H.t }) (m:=W.ms i) (M:=M) (c:=W.H.c) ⟨hpa.2.w,hpa.2.i8,hpa.2.k6,hpa.2.s⟩ x.c ⟨ma.wt,ma.ct⟩ x.t.symm hb h9 h8).1
    dsimp only at hdo
    have e1:p.stpW (W.ms i) W.H n=({ p with at_:=2,t:=W.H.t,placed:=n },W.ms i,W.H.look p.who):=by simp[HP.stpW,h1]
    rw[e1] at hWi
    dsimp only at hWi
    rw[HP.em_def] at hWi
    dsimp only at hWi
    have hwr:({ p with at_:=2,t:=W.H.t,placed:=n }:HP).wres (W.ms i) W.H.c=({ p with t:=W.H.t }:HP).wres (W.ms i) W.H.c:=rfl
    have ho:({ p with at_:=2,t:=W.H.t,placed:=n }:HP).one=false:=one
    rw[hwr,ho] at hWi
    have hei:W.em i=W.ms i:=by rw[he0,HP.em_def,if_neg (by omega)]
    rw[etb,hdo]
    by_cases hr:({ p with t:=W.H.t }:HP).wres (W.ms i) W.H.c=0
    ·rw[if_pos hr]
     rw[if_pos ⟨rfl,h8,rfl,hr⟩] at hWi
     refine WsI.put (p:={ p with t:=W.H.t }) x.ws ts hpa.2.i8 hpa.2.w (by rw[hpa.2.s,Tbl.stripe,x.c]) ?_ fun j hj=>hWn j hj
     rw[hWi,hei]
    ·rw[if_neg hr]
     rw[if_neg (fun h=>hr h.2.2.2)] at hWi
     refine x.ws.same rfl rfl (fun _ _=>rfl) fun j hj=>?_
     by_cases h:j=i
     ·subst h; rw[hWi,hei]
     ·exact hWn j h
   have hpl:p.places=false:=by simp[HP.places,one,h8,h1]
   have etn:(PR.h p).tb W.H M=M:=by simp[PR.tb,PR.places,hpl]
   refine same (fun s _=>by rw[etn]) ?_
   rw[HP.em_def p]
   unfold HP.stpW
   by_cases h0:p.at_=0
   ·rw[if_pos h0,if_neg (by omega)]
    dsimp only
    rw[HP.em_def,if_neg (by dsimp only; omega)]
   rw[if_neg h0,if_neg h1]
   by_cases h2:p.at_=2
   ·rw[if_pos h2]
    by_cases hcl':p.t.closed=true
    ·have hr:p.wres (W.ms i) W.H.c=5:=by simp[HP.wres,hcl']
     rw[if_pos hcl',if_neg (by omega)]
     dsimp only
     rw[HP.em_def,if_neg (by dsimp only; omega)]
    by_cases hcc:p.x.kind=6∧mhas (W.ms i) p.x.user=false∧W.H.c.watches≤((W.ms i).length:Int)
    ·have hr:p.wres (W.ms i) W.H.c=4:=by simp[HP.wres,hcl',hcc.1,hcc.2.1,hcc.2.2]
     rw[if_neg hcl',if_pos hcc,if_neg (by omega)]
     dsimp only
     rw[HP.em_def,if_neg (by dsimp only; omega)]
    ·have hr:p.wres (W.ms i) W.H.c=0:=by unfold HP.wres; rw[if_neg hcl',if_neg hcc]
     rw[if_neg hcl',if_neg hcc,if_pos ⟨one,h8,h2,hr⟩]
     dsimp only
     rw[HP.em_def,if_neg (by dsimp only; omega)]
   ·rw[if_neg h2,if_neg (by omega)]
    dsimp only
    rw[HP.em_def,if_neg (by dsimp only; omega)]
theorem PA.ow {n i:Nat}{c:Cfg}{p:PR}(g:PA n i c p):p.owd:=by
 cases p with
 | w p=>exact g.1.o
 | r p=>trivial
 | h p=>exact g.1.o
theorem LI.step {W:Wd}{M:Tbl}{k j:Nat}(x:LI W M)(hs:HS k W.H)(hk:k<100000)(ts:TS j M){i:Nat}{p:PR}(hp:W.ps i=some p)(n:Int) :
  LI (W.step i n) (p.tb W.H M)∧HS (k+1) (W.step i n).H∧TS (j+1) (p.tb W.H M):=by
 have hpa:=x.pa i p hp
 obtain⟨n1,n2,n3,n4⟩:=pstep_n (m:=W.ms i) hs n hk hpa
 have hH:(W.step i n).H=(p.step (W.ms i) W.H n).2.2:=by simp only[Wd.step,hp]
 have hP:∀ j,(W.step i n).ps j=if j=i then some (p.step (W.ms i) W.H n).1 else W.ps j:=fun j=>by simp only[Wd.step,hp,bset]
 have hM:∀ j,(W.step i n).ms j=if j=i then (p.step (W.ms i) W.H n).2.1 else W.ms j:=fun j=>by simp only[Wd.step,hp,bset]
 have tbn:=tb_n x.n hpa
 have hc:(W.step i n).H.c=W.H.c:=by rw[hH]; exact n2
 have hpa':∀ j q,(W.step i n).ps j=some q→PA W.H.n j W.H.c q:=fun j q hq=>by
  rw[hP] at hq
  split at hq
  ·rename_i h; simp only[Option.some.injEq] at hq; subst hq; subst h; exact n4
  ·exact x.pa j q hq
 refine⟨?_,by rw[hH]; exact n3,ts.tb hpa.ow⟩
 cases hen:p.enabled W.H with
 | false =>
  have e:=pstep_off (m:=W.ms i) (n:=n) hen
  have e1:W.step i n=W:=by
   simp only[Wd.step,hp,e]
   rw[← hp,bset_id,bset_id]
  have e2:p.tb W.H M=M:=by simp[PR.tb,hen]
  rw[e1,e2]; exact x
 | true =>
  have L:=fun s hn=>x.loc hs ts hp n hen (s:=s) hn
  rw[← hH] at L
  refine⟨by rw[hH]; exact tb_t x.t x.n hpa n,tbn.2.trans (x.c.trans hc.symm),tbn.1.trans (x.n.trans (by rw[hH]; exact n1.symm)),fun s hs'=>?_,fun j q s hs' hq hh=>?_,fun j q hq=>?_,x.ws_step ts hp n hc tbn⟩
  ·have hsn:s<W.H.n:=by rw[hH,n1] at hs'; exact hs'
   have Ls:=L s hsn
   by_cases hh:p.holds s
   ·have hwho:=x.own i p s hsn hp hh
    have hd:Held p (W.ms i) W.H.c s (W.H.ss s) (M.st s):=by
     rcases x.st s hsn with h | ⟨j,q,h1,h2,h3,h4⟩
     ·have:=h.wh; omega
     ·have:j=i:=by omega
      subst this
      rw[hp] at h1; cases h1
      exact h4
    rcases Ls.a hh hwho hd with ⟨h1,h2,h3⟩ | ⟨h1,h2⟩
    ·refine .inr ⟨i,_,by rw[hP,if_pos rfl],h1,h2,?_⟩
     rw[hM,if_pos rfl,hc]; exact h3
    ·exact .inl h2
   ·rcases Ls.b hh with ⟨h1,h2,h3⟩ | ⟨h1,h2,h3,h4,h5,h6,h7⟩
    ·rw[h1,h2]
     rcases x.st s hsn with h | ⟨j,q,g1,g2,g3,g4⟩
     ·exact .inl h
     ·have hji:j≠i:=fun h=>by
       subst h
       rw[hp] at g1; cases g1
       exact hh g2
      refine .inr ⟨j,q,by rw[hP,if_neg hji]; exact g1,g2,g3,?_⟩
      rw[hM,if_neg hji,hc]; exact g4
    ·rw[h2,h4]
     rcases x.st s hsn with h | ⟨j,q,g1,g2,g3,g4⟩
     ·refine .inr ⟨i,_,by rw[hP,if_pos rfl],h3,rfl,?_⟩
      rw[hM,if_pos rfl,hc]
      exact⟨by rw[h7]; exact h.e,fun hh=>absurd hh h5,fun _=>⟨h.v,h.q⟩,fun hh=>absurd hh h6⟩
     ·omega
  ·have hsn:s<W.H.n:=by rw[hH,n1] at hs'; exact hs'
   have Ls:=L s hsn
   rw[hP] at hq
   by_cases hji:j=i
   ·subst hji
    rw[if_pos rfl] at hq
    simp only[Option.some.injEq] at hq
    subst hq
    by_cases hph:p.holds s
    ·have hwho:=x.own j p s hsn hp hph
     have hd:Held p (W.ms j) W.H.c s (W.H.ss s) (M.st s):=by
      rcases x.st s hsn with h | ⟨j',q,h1,h2,h3,h4⟩
      ·have:=h.wh; omega
      ·have:j'=j:=by omega
       subst this
       rw[hp] at h1; cases h1
       exact h4
     rcases Ls.a hph hwho hd with ⟨h1,h2,h3⟩ | ⟨h1,h2⟩
     ·exact h2
     ·exact absurd hh h1
    ·rcases Ls.b hph with ⟨h1,h2,h3⟩ | ⟨h1,h2,h3,h4,h5,h6,h7⟩
     ·exact absurd hh h3
     ·rw[h4]
   ·rw[if_neg hji] at hq
    have hwho:=x.own j q s hsn hq hh
    have hph:¬ p.holds s:=fun h=>by
     have:=x.own i p s hsn hp h
     omega
    rcases Ls.b hph with ⟨h1,h2,h3⟩ | ⟨h1,h2,h3,h4,h5,h6,h7⟩
    ·rw[h1]; exact hwho
    ·omega
  ·rw[hH,n1,n2]; exact hpa' j q hq
end Go.Den
namespace Go.Proofs.YtmbningljbcpkaaGreat
open Go Go.Den Go.MapKept
set_option linter.unusedSimpArgs false
set_option linter.unusedVariables false
set_option maxRecDepth 20000
@[simp] theorem cells_nilF:Value.cells .nilFunc=#[.nilFunc]:=rfl
theorem bdWP (who s:Int)(f:FuncId)(a b:Array Value):bdV (binf P qcaZ) [(0,.int .i64 who),(1,.int .i64 s),(2,.func (.func f) a b),(5,.int .i64 (-1))]=some (.agg #[.int .i64 who,.int .i64 s,.func (.func f) a b,.int .i64 0,.int .u64 0,.int .u64 0,.bool false,.int .i64 (-1),.int .i64 0,.slice none 0 0,.slice none 0 0,.bool false]):=by kernel_rfl
variable {K:KTy}
theorem section_ok (who:Int)(s:Nat)(k:WK)(f:FuncId)(a b:Array Value){h:Heap}(hk:∀ q h',h q=none→Ext h h'→h' q=some (.cells (wpC (sect who s k) (.func (.func f) a b)).toArray qcaZ (0,0))→K (ptr q) h'):callM P qlJZ #[.int .i64 who,.int .i64 s,.func (.func f) a b] h K:=by
 apply quCZ
 unfold qnsZ
 simp -implicitDefEqProofs only[bdWP,ov_s]
 exact nw_intro fun q h' n e c=>hk q h' n e c
def wp0 (H:Hall)(who:Int)(x:OpD):WP:=sect who (stripeOf x.user H.c.stripes).toNat (if badB x then .bad else .op x)
theorem wnew_ok (who:Int)(x:OpD)(xw:OpW x){T:Tags}{h:Heap}{g gh:Tag}{hp:Nat}{H:Hall}(w:Wf T h)(gg:Gd g)(y:HallR T h gh hp H){v:Value}(hv:Sl 1 StrR (fz T h) v x.users)(hl:x.users.length<1000000)(c8:1≤H.c.stripes∧H.c.stripes≤8)
  (hk:∀ T' h' q,Only non T h T' h'→h q=none→WPR T' h' g q (wp0 H who x)→K (ptr q) h'):callM P qfIZ #[ptr hp,.int .i64 who,.agg (opC x v).toArray] h K:=by
 apply qvfZ
 unfold qriZ
 have hone:=hv.one
 refine nw_intro fun v1 h1 n1 e1 c1=>?_
 refine nw_agg fun v3 h3 n3 e3 c3=>?_
 have o1:Only non T h T h3:=Only.of_ext w (e1.trans e3)
 have c1:=e3 _ _ c1
 have c3':=c3
 simp -implicitDefEqProofs only[opC] at c3
 simp -implicitDefEqProofs[ld_at c3,cel_of c3,stm_at c3,stm_upd,ld_same,cel_same,over]
 refine hstripe_ok x.user xw.s1 (y.up o1 (Off.non _) (not_non _)) c8.2 ?_
 unfold qsBZ
 rw[zcInt]
 refine nw_st rfl rfl (by simp) fun v9 h9 n9 e9 c9=>?_
 have c1:=e9 _ _ c1
 have c3:=e9 _ _ c3
 have c3':=e9 _ _ c3'
 obtain⟨s,hs⟩:∃ s,(stripeOf x.user H.c.stripes).toNat=s:=⟨_,rfl⟩
 have hsi:stripeOf x.user H.c.stripes=(s:Int):=by have:=stripeOf_lt (u:=x.user) (n:=H.c.stripes) c8.1; omega
 rw[hsi] at c9
 simp -implicitDefEqProofs only[cells_i] at c1 c9
 simp -implicitDefEqProofs[ld_at c1,cel_of c1,stm_at c1,ld_at c9,cel_of c9,stm_at c9,stm_upd,ld_same,cel_same,over,hsi]
 refine section_ok who s (.op x) qfdZ _ _ fun q h4 n4 e4 c4=>?_
 have c1:=e4 _ _ c1
 have c3:=e4 _ _ c3
 have c3':=e4 _ _ c3'
 have c9':=e4 _ _ c9
 have e04:=((e1.trans e3).trans e9).trans e4
 have nq:h q=none:=fresh_of ((e1.trans e3).trans e9) n4
 have oa:ldV (some (some 7)) (ptr v3) h4=some (.agg (opC x v).toArray):=by simp[ld_at c3',opC]
 have ne1:v1≠q:=ne_fresh (e9 _ _ (e3 _ _ ‹_›)) n4
 have ne3:v3≠q:=ne_fresh (e9 _ _ ‹_›) n4
 have ne9:v9≠q:=ne_fresh c9 n4
 unfold qsAZ
 rw[seqM_eq]
 unfold qszZ
 simp -implicitDefEqProofs only[oa,ov_s]
 refine modBad_ok x xw (hv.ext (@StrR.ext) ((fz_ext T h).trans e04)) hl fun h5 e5=>?_
 unfold qsyZ
 have c4:=e5 _ _ c4
 have cb1:=e5 _ _ c1
 have cb3:=e5 _ _ c3'
 have cb9:=e5 _ _ c9'
 have e05:=e04.trans e5
 have on:Only non T h (tset T q (g++[0])) h5:=Only.enew _ w e05 nq c4
 have hz:∀ b,b≠q→h b=none→∀ o,h5 b=some o→fz (tset T q (g++[0])) h5 b=some o:=fun b hb hn o ho=>fz_at ho (by rw[tset_ne hb]; exact w b hn)
 have n3':h v3=none:=fresh_of e1 n3
 have n9':h v9=none:=fresh_of (e1.trans e3) n9
 unfold wp0 at hk
 rw[hs] at hk
 cases hb:badB x with
 | false =>
  rw[hb] at hk
  simp -implicitDefEqProofs only[Bool.false_eq_true,if_false] at hk
  unfold qsxZ
  simp -implicitDefEqProofs
  exact hk _ h5 q on nq ⟨_,c4,tset_same _ _ _,v1,v9,v3,v,rfl,hz _ ne1 n1 _ cb1,hz _ ne9 n9' _ cb9,hz _ ne3 n3' _ cb3,hone⟩
 | true =>
  rw[hb] at hk
  simp -implicitDefEqProofs only[if_true] at hk
  unfold qswZ
  simp -implicitDefEqProofs only[wpC,sect] at c4
  simp -implicitDefEqProofs[ld_at c4,cel_of c4,stm_at c4,stm_upd,ld_same,cel_same,over]
  rw[stm_at (n:=1) (v:=.nilFunc) c4 rfl (by simp) rfl]
  refine hk _ _ q (on.own nq c4) nq ⟨.nilFunc,?_,tset_same _ _ _,rfl⟩
  rw[upd_same']; simp[wpC,sect,over]
theorem wreply_ok {T:Tags}{h:Heap}{g:Tag}{q:Nat}{p:WP}(w:Wf T h)(x:WPR T h g q p)(hk:∀ h',Ext h h'→K (.agg (repC (if p.done then p.err else 0)).toArray) h'):callM P qiyZ #[ptr q] h K:=by
 apply qtuZ
 unfold qjAZ
 rw[zcRep]
 refine nw_intro fun v1 h1 n1 e1 c1=>?_
 have o1:Only non T h T h1:=Only.of_ext w e1
 refine wdone_ok (x.kp o1.k (Off.non _) (not_non _)) fun h2 e2=>?_
 have c1:=e2 _ _ c1
 unfold qnjZ
 cases hd:p.done with
 | false =>
  rw[hd] at hk
  simp -implicitDefEqProofs[ld_at c1,cel_of c1,stm_at c1,stm_upd,ld_same,cel_same,over,bdRep0]
  exact kv (hk _ (ext_upd n1 (e1.trans e2))) (by simp[repC])
 | true =>
  rw[hd] at hk
  unfold qniZ
  obtain⟨ap,x⟩:=x
  have cp:=(e1.trans e2) _ _ x.hp
  simp -implicitDefEqProofs only[wpC] at cp
  simp -implicitDefEqProofs[ld_at c1,cel_of c1,stm_at c1,ld_at cp,cel_of cp,stm_at cp,stm_upd,ld_same,cel_same,over]
  exact kv (hk _ (ext_upd n1 (e1.trans e2))) (by simp[repC])
end Go.Proofs.YtmbningljbcpkaaGreat
namespace Go.Den
open Go
set_option linter.unusedVariables false
def wo (h:Heap)(l:List Nat):Heap:=fun q=>if q∈l then none else h q
theorem wo_out {h:Heap}{l:List Nat}{q:Nat}(hq:q ∉ l):wo h l q=h q:=if_neg hq
theorem wo_ext {F h:Heap}{l:List Nat}(e:Ext F h)(hl:∀ q∈l,F q=none):Ext F (wo h l):=fun b o hb=>by
 rw[wo_out (fun hm=>by rw[hl b hm] at hb; cases hb)]; exact e b o hb
theorem wo_get {h:Heap}{l:List Nat}{q:Nat}{o:Obj}(e:wo h l q=some o):q ∉ l∧h q=some o:=by
 unfold wo at e
 split at e
 ·cases e
 ·rename_i hq; exact⟨hq,e⟩
theorem wo_keep {h h' h'':Heap}{l:List Nat}{b:Nat}(e:Ext (wo h l) h')(hb:h b=none)(k:Keep (some b) h' h''):Ext (wo h l) h'':=fun q o hq=>by
 refine k q o (e q o hq) fun hh=>?_
 cases hh
 rw[(wo_get hq).2] at hb; cases hb
theorem wo_upd {h h':Heap}{l:List Nat}{b:Nat}{o:Obj}(e:Ext (wo h l) h')(hb:b∈l):Ext (wo h l) (upd h' b o):=fun q x hq=>by
 rw[upd_ne (fun hh=>(wo_get hq).1 (by rw[hh]; exact hb))]; exact e q x hq
theorem ext_wo {h0 h h':Heap}{l:List Nat}(e0:Ext h0 h)(hl:∀ q∈l,h0 q=none)(e:Ext (wo h l) h'):Ext h0 h':=(wo_ext e0 hl).trans e
def stoTo (b:Book)(i:Nat):Nat:=storedB (b.take i)
theorem stoTo_s {b:Book}{i:Nat}(hi:i<b.length):stoTo b (i+1)=stoTo b i+b[i].2.ss.length:=by
 unfold stoTo storedB
 rw[List.take_succ_eq_append_getElem hi,List.map_append,List.sum_append_nat,List.map_cons,List.map_nil,List.sum_cons,List.sum_nil,Nat.add_zero]
theorem stored_le {m k:Nat}{b:Book}(h1:b.length≤m)(h2:∀ y∈b,y.2.ss.length≤k):storedB b≤m*k:=by
 unfold storedB
 have:∀ (l:Book),(∀ y∈l,y.2.ss.length≤k)→(l.map fun x=>x.2.ss.length).sum≤l.length*k:=by
  intro l hl
  induction l with
  | nil=>simp
  | cons a l ih =>
   have h3:=hl a (by simp)
   have h4:=ih fun y hy=>hl y (by simp[hy])
   simp only[List.map_cons,List.sum_cons,List.length_cons,Nat.add_mul]; omega
 exact Nat.le_trans (this b h2) (Nat.mul_le_mul_right _ h1)
theorem stoTo_le {b:Book}(i:Nat):stoTo b i≤storedB b:=by
 unfold stoTo storedB
 have:(b.map fun x=>x.2.ss.length).sum=((b.take i).map fun x=>x.2.ss.length).sum+((b.drop i).map fun x=>x.2.ss.length).sum:=by
  rw[← List.sum_append_nat,← List.map_append,List.take_append_drop]
 omega
def stoH (H:Hall)(i:Nat):Nat:=((List.range i).map fun s=>storedB (H.ss s).book).sum
theorem stoH_s (H:Hall)(i:Nat):stoH H (i+1)=stoH H i+storedB (H.ss i).book:=by
 unfold stoH
 rw[List.range_succ,List.map_append,List.sum_append_nat,List.map_cons,List.map_nil,List.sum_cons,List.sum_nil,Nat.add_zero]
theorem stoH_all (H:Hall):stoH H H.n=H.stored:=rfl
theorem stoH_le {m:Nat}{H:Hall}(x:HS m H):∀ i,i≤H.n→stoH H i≤i*(m*m)
 | 0,_=>by simp[stoH]
 | i+1,hi=>by
  have ih:=stoH_le x i (by omega)
  have b:=(x.st i (by omega)).bk
  have:=stored_le b.bl b.bn
  rw[stoH_s,Nat.add_mul]; omega
end Go.Den
