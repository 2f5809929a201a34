/- Words, plain data and contracts of the Go functions that this claim reaches. No condition beyond the hypotheses that each theorem states. -/
import Derived.Test.YtcnphhhcknhhaaaGreatHt5
set_option linter.unusedSimpArgs false
set_option linter.unusedVariables false
namespace Go.Proofs.YtcnphhhcknhhaaaGreat
open Go Go.Den Go.MapKept
set_option linter.unusedSimpArgs false
set_option linter.unusedVariables false
set_option maxRecDepth 20000
def mdC (c:Cfg)(t:Tm)(bv fv:Value):List Value:=[.int .i64 c.stripes,.int .i64 c.sessions,.int .i64 c.queue,.int .i64 c.watches,.int .i64 c.retries,.int .u64 c.epochs,.int .u64 c.start,.int .u64 t.now,.int .u64 t.seq,.bool t.closed,bv,fv]
structure MdX (T:Tags)(h:Heap)(g:Tag)(p:Nat)(M:Tbl)(bv fv:Value)(K V:Nat→Value)(F:Nat→Nat):Prop where
 hp:h p=some (.cells (mdC M.c M.t bv fv).toArray qamZ (0,0))
 tp:T p=g++[0]
 bk:Rw T h (g++[1]) 2 qaZ bv M.n (seqF M.n fun i=>[K i,V i])
 fd:Rw T h (g++[2]) 1 qeoZ fv M.n (seqF M.n fun i=>[ptr (F i)])
 br:∀ s,s<M.n→BookR (fz T h) (K s) (V s) (M.bk s)
 fr:∀ s,s<M.n→FeedR T h (g++[3,s]) (F s) (M.fd s)
def MdR (T:Tags)(h:Heap)(g:Tag)(p:Nat)(M:Tbl):Prop:=∃ bv fv K V F,MdX T h g p M bv fv K V F
theorem MdX.kp {U:Tag→Prop}{T T':Tags}{h h':Heap}{g:Tag}{p:Nat}{M:Tbl}{bv fv:Value}{K V:Nat→Value}{F:Nat→Nat}(x:MdX T h g p M bv fv K V F)(k:Kp U T h T' h')(o:Off U g)(n:¬ U []):MdX T' h' g p M bv fv K V F :=
 ⟨(k.at x.hp x.tp (o.at [0])).1,(k.at x.hp x.tp (o.at [0])).2,x.bk.kp k (o.at [1]),x.fd.kp k (o.at [2]),fun s hs=>(x.br s hs).ext (k.ext n),fun s hs=>(x.fr s hs).kp k (o.app [3,s]) n⟩
theorem MdR.kp {U:Tag→Prop}{T T':Tags}{h h':Heap}{g:Tag}{p:Nat}{M:Tbl}(x:MdR T h g p M)(k:Kp U T h T' h')(o:Off U g)(n:¬ U []):MdR T' h' g p M:=by
 obtain⟨bv,fv,K,V,F,x⟩:=x
 exact⟨bv,fv,K,V,F,x.kp k o n⟩
theorem MdR.up {U:Tag→Prop}{T T':Tags}{h h':Heap}{g:Tag}{p:Nat}{M:Tbl}(x:MdR T h g p M)(k:Only U T h T' h')(o:Off U g)(n:¬ U []):MdR T' h' g p M:=x.kp k.k o n
theorem MdX.st {T:Tags}{h:Heap}{g:Tag}{p:Nat}{M M':Tbl}{bv fv:Value}{K V:Nat→Value}{F:Nat→Nat}(x:MdX T h g p M bv fv K V F)(w:Wf T h)(gg:Gd g){c:Array Value}(hc:c=(mdC M'.c M'.t bv fv).toArray)(h3:M'.n=M.n)(h4:M'.bk=M.bk)(h5:M'.fd=M.fd) :
  Only (fun t=>t=g++[0]) T h T (upd h p (.cells c qamZ (0,0)))∧MdX T (upd h p (.cells c qamZ (0,0))) g p M' bv fv K V F:=by
 have o:Only (fun t=>t=g++[0]) T h T (upd h p (.cells c qamZ (0,0))):=Only.upd w x.hp x.tp
 refine⟨o,by rw[upd_same',hc],x.tp,?_,?_,fun s hs=>?_,fun s hs=>?_⟩
 ·rw[h3]; exact x.bk.kp o.k (ne_tag (by simp))
 ·rw[h3]; exact x.fd.kp o.k (ne_tag (by simp))
 ·rw[h4]; exact (x.br s (by rw[← h3]; exact hs)).ext (o.ext (by simp))
 ·rw[h5]; exact (x.fr s (by rw[← h3]; exact hs)).kp o.k (off_eq (by simp)) (by simp)
theorem MdX.ldb {T:Tags}{h:Heap}{g:Tag}{p:Nat}{M:Tbl}{bv fv:Value}{K V:Nat→Value}{F:Nat→Nat}(x:MdX T h g p M bv fv K V F){s:Nat}(hs:s<M.n):∃ b,rowOf bv=some b∧iaV (some (none,2)) bv (.int .i64 s)=some (.pointer (some ⟨b,s*2,none⟩))∧ldV (some (some 2)) (.pointer (some ⟨b,s*2,none⟩)) h=some (.agg #[K s,V s]):=by
 obtain⟨b,h1,h2⟩:=x.bk.1.ia (k:=.i64) hs
 refine⟨b,h1,h2,?_⟩
 have hc:cels h b (s*2) 2=some [K s,V s]:=by
  rw[x.bk.1.cels h1 (by have:(s+1)*2≤M.n*2:=Nat.mul_le_mul_right _ hs; omega)]
  exact congrArg some (seqF_at (F:=fun i=>[K i,V i]) (fun _ _=>rfl) hs)
 rw[ldV_n hc]
theorem MdX.ldf {T:Tags}{h:Heap}{g:Tag}{p:Nat}{M:Tbl}{bv fv:Value}{K V:Nat→Value}{F:Nat→Nat}(x:MdX T h g p M bv fv K V F){s:Nat}(hs:s<M.n):∃ b,iaV (some (none,1)) fv (.int .i64 s)=some (.pointer (some ⟨b,s,none⟩))∧cel h b s=some (ptr (F s)):=by
 obtain⟨b,h1,h2⟩:=x.fd.1.ia (k:=.i64) hs
 rw[Nat.mul_one] at h2
 refine⟨b,h2,?_⟩
 have hc:cels h b s 1=some [ptr (F s)]:=by
  rw[x.fd.1.cels h1 (by omega)]
  have:=seqF_at (F:=fun i=>[ptr (F i)]) (sz:=1) (n:=M.n) (fun _ _=>rfl) hs
  rw[Nat.mul_one] at this
  exact congrArg some this
 have:=(cels_get hc).2 0 (by simp)
 simpa using this
theorem MdX.stb {T:Tags}{h:Heap}{g:Tag}{p:Nat}{M:Tbl}{bv fv:Value}{K V:Nat→Value}{F:Nat→Nat}(x:MdX T h g p M bv fv K V F)(w:Wf T h){s b:Nat}(hs:s<M.n)(hb:rowOf bv=some b){k v:Value}{B:Book}(hB:BookR (fz T h) k v B){Q:Heap→Prop}
  (hk:∀ h',Only (fun t=>t=g++[1]) T h T h'→MdX T h' g p { M with bk:=bset M.bk s B } bv fv (bset K s k) (bset V s v) F→Q h'):stM (some 2) (.pointer (some ⟨b,s*2,none⟩)) (.agg #[k,v]) h Q:=by
 have tb:=x.bk.2 b hb
 have u1:=hB.1.one
 have u2:=hB.2.1.one
 refine x.bk.1.st hb (m:=2) (by simp) (by have:(s+1)*2≤M.n*2:=Nat.mul_le_mul_right _ hs; omega) (by simp[u1.1,u2.1]) fun h' hk' hrow=>?_
 obtain⟨ob,hob⟩:=x.bk.1.lt b hb
 obtain⟨ob',hob'⟩:=hrow.lt b hb
 have e:h'=upd h b ob':=upd_of hk' hob'
 have o1:Only (fun t=>t=g++[1]) T h T h':=by rw[e]; exact Only.upd w hob tb
 refine hk h' o1 ⟨(o1.k.at x.hp x.tp (ne_tag (by simp))).1,x.tp,⟨?_,x.bk.2⟩,x.fd.kp o1.k (ne_tag (by simp)),fun i hi=>?_,fun i hi=>(x.fr i hi).kp o1.k (off_eq (by simp)) (by simp)⟩
 ·have hsp:=seqF_spl (F:=fun i=>[K i,V i]) (sz:=2) (n:=M.n) (off:=0) (l:=[k,v]) (fun i _=>rfl) hs (by simp)
  rw[Nat.add_zero] at hsp
  have:seqF M.n (fset (fun i=>[K i,V i]) s (spl [K s,V s] 0 [k,v]))=seqF M.n fun i=>[bset K s k i,bset V s v i]:=by
   refine seqF_congr fun i hi=>?_
   simp -implicitDefEqProofs only[fset,bset]
   by_cases his:i=s
   ·subst his; simp[spl]
   ·simp -implicitDefEqProofs[his]
  rw[show (Value.agg #[k,v]).cells.toList=[k,v] from by simp] at hrow
  rw[hsp,this] at hrow
  exact hrow
 ·by_cases his:i=s
  ·subst his
   show BookR _ (bset K i k i) (bset V i v i) (bset M.bk i B i)
   rw[bset_same,bset_same,bset_same]
   exact hB.ext (o1.ext (by simp))
  ·show BookR _ (bset K s k i) (bset V s v i) (bset M.bk s B i)
   rw[bset_ne his,bset_ne his,bset_ne his]
   exact (x.br i hi).ext (o1.ext (by simp))
theorem MdX.fed {T T':Tags}{h h':Heap}{g:Tag}{p:Nat}{M:Tbl}{bv fv:Value}{K V:Nat→Value}{F:Nat→Nat}(x:MdX T h g p M bv fv K V F){s:Nat}{f:Feed}(o:Only (pre (g++[3,s])) T h T' h')(gg:Gd g)(r:FeedR T' h' (g++[3,s]) (F s) f) :
  MdX T' h' g p (M.fed s f) bv fv K V F:=by
 have b:=o.k.at x.hp x.tp (not_pre (by simp))
 have n:¬ pre (g++[3,s]) []:=(gg.app _).nil
 refine⟨b.1,b.2,x.bk.kp o.k (not_pre (by simp)),x.fd.kp o.k (not_pre (by simp)),fun i hi=>(x.br i hi).ext (o.ext n),fun i hi=>?_⟩
 show FeedR T' h' _ _ (bset M.fd s f i)
 by_cases his:i=s
 ·subst his; rw[bset_same]; exact r
 ·rw[bset_ne his]; exact (x.fr i hi).kp o.k (off_pre (by simp; omega) (by simp; omega)) n
section
variable {T:Tags}{h:Heap}{g:Tag}{p m:Nat}{M:Tbl}{K:KTy}
theorem mstripe_ok (u:ByteArray)(hu:u.size≤maxLen)(x:MdR T h g p M)(hc:M.c.stripes≤8)(hk:K (.int .i64 (stripeOf u M.c.stripes)) h):callM P qazZ #[ptr p,.string u] h K:=by
 apply qseZ
 unfold qgHZ
 obtain⟨bv,fv,Kk,V,F,x⟩:=x
 have cp:=x.hp
 simp -implicitDefEqProofs only[mdC] at cp
 simp -implicitDefEqProofs[ld_at cp,cel_of cp,stm_at cp,stm_upd,ld_same,cel_same,over]
 exact stripe_ok u _ (by omega) hu hk
theorem mtake_ok (w:Wf T h)(gg:Gd g){bv fv:Value}{Kk V:Nat→Value}{F:Nat→Nat}(x:MdX T h g p M bv fv Kk V F)(ht:U64 M.t.seq)(hk:∀ h',Only (fun t=>t=g++[0]) T h T h'→MdX T h' g p M.take bv fv Kk V F→K (.int .u64 M.take.t.seq) h'):callM P qhBZ #[ptr p] h K:=by
 apply qtIZ
 unfold qiLZ
 have cp:=x.hp
 simp -implicitDefEqProofs only[mdC] at cp
 have hld:ldV (some (some 3)) (.pointer (some ⟨p,7,none⟩)) h=some (.agg (tmC M.t).toArray):=by simp[ld_at cp,tmC]
 simp -implicitDefEqProofs only[ncV_p,faV_p,ov_s,Nat.zero_add,hld]
 refine tickTake_ok M.t ht fun h1 e1=>?_
 have o1:Only non T h T h1:=Only.of_ext w e1
 have x1:=x.kp o1.k (Off.non _) (not_non _)
 have cp:=x1.hp
 simp -implicitDefEqProofs only[mdC] at cp
 obtain⟨o2,x2⟩:=x1.st (M':=M.take) o1.wf gg rfl rfl rfl rfl
 simp -implicitDefEqProofs[ld_at cp,cel_of cp,stm_at cp,stm_upd,ld_same,cel_same,over,tmC]
 exact hk _ ((o1.mono non_up).trans o2) x2
theorem mbook_tell {s b:Nat}{bv fv k v cv:Value}{Kk V:Nat→Value}{F:Nat→Nat}(w:Wf T h)(gg:Gd g)(x:MdX T h g p M bv fv Kk V F)(hs:s<M.n)(rb:rowOf bv=some b){B:Book}{l:List Chg}{seq:Int}
  (hb:BookR (fz T h) k v B) (hc:Sl 7 ChgR (fz T h) cv l) (hl:l.length<1000000) (fg:FdG (M.fd s)) {Q:Heap→Prop}
  (hk:∀ h3,Only (fun t=>t=g++[1]) T h T h3→(∃ fb,iaV (some (none,1)) fv (.int .i64 s)=some (.pointer (some ⟨fb,s,none⟩))∧cel h3 fb s=some (ptr (F s)))→h3 p=some (.cells (mdC M.c M.t bv fv).toArray qamZ (0,0))→(∀ K':Value→Heap→Prop,(∀ T' h',Only (pre g) T h T' h'→MdR T' h' g p { M with bk:=bset M.bk s B,fd:=bset M.fd s ((M.fd s).tell l seq) }→K' (.tuple #[]) h')→callM P qaRZ #[ptr (F s),cv,.int .u64 seq] h3 K')→Q h3) :
  stM (some 2) (.pointer (some ⟨b,s*2,none⟩)) (.agg #[k,v]) h Q:=by
 refine x.stb w hs rb hb fun h3 o3 x3=>?_
 obtain⟨fb,i1,i2⟩:=x3.ldf (s:=s) hs
 refine hk h3 o3 ⟨fb,i1,i2⟩ x3.hp fun K' hk'=>?_
 have hf:=x3.fr s hs
 refine tell_ok l seq o3.wf (gg.app [3,s]) hf fg (hc.ext (R:=ChgR) (@ChgR.ext) (o3.ext (by simp))) hl fun T4 h4 o4 r4=>?_
 have x4:=x3.fed o4 gg (f:=(M.fd s).tell l seq) r4
 exact hk' T4 h4 ((o3.mono fun t=>eq_pre).up o4 fun t=>pre_trans) ⟨bv,fv,_,_,F,x4⟩
end
end Go.Proofs.YtcnphhhcknhhaaaGreat
namespace Go.Proofs.YtcnphhhcknhhaaaGreat
open Go Go.Den Go.MapKept
set_option linter.unusedSimpArgs false
set_option linter.unusedVariables false
set_option maxRecDepth 20000
theorem unSlBook:P.underlying qbSZ=some (.slice qaZ):=by kernel_rfl
theorem apBook:apC P qaZ=some (2,48,2):=by kernel_rfl
theorem bsFeedP:bsI P qbeZ=some (qeoZ,1,#[.pointer none]):=by kernel_rfl
theorem unSlFeedP:P.underlying qbeZ=some (.slice qeoZ):=by kernel_rfl
theorem apFeedP:apC P qeoZ=some (1,8,1):=by kernel_rfl
theorem bdModel (c:Cfg)(n m:Int)(b:Bool)(a:Option Addr)(i j:Nat):bdV (binf P qamZ) [(0,.agg (cfgC c).toArray),(1,.agg #[.int .u64 n,.int .u64 m,.bool b]),(2,.slice a i j)] =
 some (.agg #[.int .i64 c.stripes,.int .i64 c.sessions,.int .i64 c.queue,.int .i64 c.watches,.int .i64 c.retries,.int .u64 c.epochs,.int .u64 c.start,.int .u64 n,.int .u64 m,.bool b,.slice a i j,.slice none 0 0]):=by kernel_rfl
theorem bdTime1 (n:Int):bdV (binf P qBZ) [(0,.int .u64 n)]=some (.agg #[.int .u64 n,.int .u64 0,.bool false]):=by kernel_rfl
theorem made_at (z:Array Value)(n i:Nat)(hi:i<n)(hz:0<z.size):(madeCells z n)[i]?=z[i % z.size]?:=by
 have:i % z.size<z.size:=Nat.mod_lt _ hz
 simp -implicitDefEqProofs[madeCells,hi,this]
theorem made_seq {e:TypeId}{h:Heap}{b n:Nat}(hn:n≤maxLen)(hb:h b=some (.cells (madeCells #[.slice none 0 0,.slice none 0 0] (n*2)) e (0,0))):Row 2 e h (.slice (some ⟨b,0,none⟩) n n) n (seqF n fun _=>[.slice none 0 0,.slice none 0 0]):=by
 have hsz:(madeCells #[Value.slice none 0 0,.slice none 0 0] (n*2)).size=n*2:=by simp[madeCells]
 refine⟨by rw[seqF_len (sz:=2) (fun _ _=>rfl)],.inr ⟨b,n,_,rfl,hb,Nat.le_refl _,hn,by simpa using hsz,?_⟩⟩
 rw[List.take_of_length_le (by simp[hsz])]
 have hl:(seqF n fun _=>[Value.slice none 0 0,.slice none 0 0]).length=n*2:=seqF_len (sz:=2) (fun _ _=>rfl)
 apply List.ext_getElem?
 intro i
 by_cases hi:i<n*2
 ·have h1:=seqF_get (F:=fun _=>[Value.slice none 0 0,.slice none 0 0]) (n:=n) (sz:=2) (fun _ _=>rfl) (i:=i / 2) (j:=i % 2) (by omega) (by omega)
  rw[show i / 2*2+i % 2=i by omega] at h1
  rw[h1,Array.getElem?_toList,made_at _ _ _ hi (by simp)]
  simp -implicitDefEqProofs
 ·rw[List.getElem?_eq_none (by simp[hsz]; omega),List.getElem?_eq_none (by omega)]
def MdNewI (T:Tags)(h:Heap)(g:Tag)(p:Nat)(c:Cfg)(n:Nat)(bv:Value)(v:Value)(h':Heap):Prop :=
 ∃ (T':Tags) (i:Nat) (fv:Value) (F:Nat→Nat),Only (pre g) T h T' h'∧h' p=some (.cells (mdC c ⟨c.start,0,false⟩ bv fv).toArray qamZ (0,0))∧T' p=g++[0] ∧
  Rw T' h' (g++[1]) 2 qaZ bv n (seqF n fun _=>[.slice none 0 0,.slice none 0 0])∧Rw T' h' (g++[2]) 1 qeoZ fv i (seqF i fun k=>[ptr (F k)])∧(∀ k,k<i→FeedR T' h' (g++[3,k]) (F k) (feed0 c.queue))∧i≤n∧v = .int .i64 i
variable {K:KTy}
set_option maxHeartbeats 2000000 in
theorem mnew_ok (c : Cfg) (cw : CfgW c) {T : Tags} {h : Heap} (w : Wf T h) {g : Tag} (gg : Gd g)
    (hk1 : rightB c = true → ∀ T' h' p, Only (pre g) T h T' h' → MdR T' h' g p (tbl0 c c.stripes.toNat) → K (.tuple #[ptr p, .int .i64 0]) h')
    (hk2 : rightB c = false → ∀ h', Ext h h' → K (.tuple #[.pointer none, .int .i64 1]) h') : callM P qpYZ #[.agg (cfgC c).toArray] h K := by
  apply qvzZ
  unfold qqRZ
  refine nw_agg fun v1 h1 n1 e1 c1 => ?_
  have og : ∀ h', h' v1 = some (.cells (cfgC c).toArray qHZ (0, 0)) → ldV (some (some 7)) (ptr v1) h' = some (.agg (cfgC c).toArray) := fun h' hc => by simp [ld_at hc, cfgC]
  have os : ∀ h', h' v1 = some (.cells (cfgC c).toArray qHZ (0, 0)) → cel h' v1 0 = some (.int .i64 c.stripes) ∧ cel h' v1 6 = some (.int .u64 c.start) ∧ cel h' v1 2 = some (.int .i64 c.queue) := fun h' hc => by simp [cel_of hc, cfgC]
  simp -implicitDefEqProofs only [og _ c1, ov_s]
  refine modRight_ok c fun h2 e2 => ?_
  have c1 := e2 _ _ c1
  have e0 := e1.trans e2
  unfold qsJZ
  simp -implicitDefEqProofs only [unV_n, ov_s, cd_b]
  refine ⟨fun hr => hk2 (by simpa using hr) _ e0, fun hr => ?_⟩
  have hr : rightB c = true := by simpa using hr
  have hn : 1 ≤ c.stripes ∧ c.stripes ≤ 8 := by simp [rightB] at hr; omega
  obtain ⟨N, hN⟩ : ∃ N : Nat, c.stripes = N := ⟨c.stripes.toNat, by omega⟩
  have hNt : c.stripes.toNat = N := by omega
  unfold qsIZ
  simp -implicitDefEqProofs [og _ c1, os _ c1, bdTime1, hN]
  refine makeSlice_vv (n := N) unSlBook apBook zcMap (by omega) (by omega) (by unfold maxLen; omega) fun sb h3 n3 e3 c3 => ?_
  have c12 := c1
  have c1 := e3 _ _ c1
  have e0 := e0.trans e3
  have w2 := w.ext (e1.trans e2)
  have o3 : Only (pre g) T h2 (tset T sb (g ++ [1])) h3 := Only.enew _ w2 e3 n3 c3
  have t3 : (tset T sb (g ++ [1])) sb = g ++ [1] := tset_same _ _ _
  have o03 : Only (pre g) T h (tset T sb (g ++ [1])) h3 := ((Only.of_ext (U := non) w (e1.trans e2)).mono non_up).trans o3
  have b1 : h2 v1 = _ ∧ T v1 = [] := ⟨(show h2 v1 = some (.cells (cfgC c).toArray qHZ (0, 0)) from by
    exact c12), w v1 n1⟩
  have c1 := c1
  generalize tset T sb (g ++ [1]) = T3 at *
  unfold qsHZ
  simp -implicitDefEqProofs [og _ c1, os _ c1]
  rw [bdModel]
  simp -implicitDefEqProofs
  refine nw_tag o3.wf (g ++ [0]) fun p T4 h4 n4 o4 t4 c4 => ?_
  have b3 : h3 sb = _ ∧ T3 sb = g ++ [1] := ⟨c3, t3⟩
  have b3 := o4.see b3 (not_non _)
  have b1 : h3 v1 = _ ∧ T3 v1 = [] := ⟨c1, (o3.k.at c12 (w v1 n1) gg.nil).2⟩
  have b1 := o4.see b1 (not_non _)
  have c1 := b1.1
  rw [seqM_eq]
  unfold qsGZ
  simp -implicitDefEqProofs [os _ c1, hN]
  have hbv : Rw T4 h4 (g ++ [1]) 2 qaZ (.slice (some ⟨sb, 0, none⟩) N N) N (seqF N fun _ => [.slice none 0 0, .slice none 0 0]) := ⟨made_seq (by unfold maxLen; omega) b3.1, fun b hb => by simp [rowOf] at hb; subst hb; exact b3.2⟩
  refine loop_on [1, 4, 18] (fun s h' => MdNewI T4 h4 g p c N (.slice (some ⟨sb, 0, none⟩) N N) (s 19) h') (fun s _ => (N - num (s 19)).toNat) ⟨T4, 0, .slice none 0 0, fun _ => 0, Only.refl o4.wf, by simpa [mdC] using c4, t4, hbv, Rw.nil _ _ _ _ _, fun k hk => by omega, by omega, rfl⟩ ?_
  rintro s h5 hf ⟨T5, i, fv, F, o5, cp, tp, rb, rf, fr, hi, s19⟩
  have s1 : s 1 = ptr v1 := by simpa using hf 1 (by simp)
  have s4 : s 4 = ptr p := by simpa using hf 4 (by simp)
  have s18 : s 18 = .int .i64 N := by simpa using hf 18 (by simp)
  have b1 := o5.see b1 gg.nil
  have c1 := b1.1
  unfold qsFZ
  simp -implicitDefEqProofs only [s19, s18, bin_lss, ov_s, cd_b]
  refine ⟨fun hc => ?_, fun hc => ?_⟩
  rotate_left
  · have : i = N := by have : ¬ ((i : Int) < N) := by simpa using hc
                       omega
    subst this
    simp -implicitDefEqProofs [s4]
    refine hk1 hr T5 h5 p (((o03.trans (o4.mono non_up)).trans o5)) ⟨.slice (some ⟨sb, 0, none⟩) i i, fv, fun _ => .slice none 0 0, fun _ => .slice none 0 0, F, ?_⟩
    rw [hNt]
    exact ⟨cp, tp, rb, rf, fun s hs => BookR.nil _, fun s hs => fr s hs⟩
  have hlt : i < N := by have : ((i : Int) < N) := by simpa using hc
                         omega
  simp -implicitDefEqProofs only [mdC] at cp
  have bp : h5 p = _ ∧ T5 p = _ := ⟨cp, tp⟩
  unfold qsEZ
  simp -implicitDefEqProofs [s1, s4, ld_at cp, cel_of cp, stm_at cp, stm_upd, ld_same, cel_same, over, os _ c1]
  refine feedNew_ok _ o5.wf (gg.app [3, i]) fun T6 h6 fp o6 r6 => ?_
  have bp := o6.see bp (not_pre (by simp))
  have cp := bp.1
  unfold qsDZ
  simp -implicitDefEqProofs [ld_at cp, cel_of cp, stm_at cp, stm_upd, ld_same, cel_same, over]
  refine bs_one bsFeedP (by simp) (by omega) fun nb h7 n7 e7 c7 => ?_
  have o7 : Only non T6 h6 T6 h7 := Only.of_ext o6.wf e7
  have bp := o7.see bp (not_non _)
  have cp := bp.1
  have r7 := r6.kp o7.k (Off.non _) (not_non _)
  refine ⟨by simp [ld_at cp, cel_of cp, stm_at cp, stm_upd, ld_same, cel_same, over], ?_⟩
  have rf7 := (rf.kp o6.k (not_pre (by simp))).kp o7.k (not_non _)
  have rb7 := (rb.kp o6.k (not_pre (by simp))).kp o7.k (not_non _)
  refine Rw.app1 (m := 1) (news := _) unSlFeedP apFeedP (by omega) o7.wf rf7 (cels_one c7 (by simp)) (by simp) (by unfold maxLen; omega) (by omega) fun fv' T8 h8 o8 rf8 => ?_
  have bp := o8.see bp (ne_tag (by simp))
  have cp := bp.1
  have ho := rf8.one
  have hw : IntKind.i64.wrap ((i : Int) + 1) = i + 1 := wrap64_id (by omega) (by omega)
  simp -implicitDefEqProofs [ld_at cp, cel_of cp, stm_at cp, stm_upd, ld_same, cel_same, over, ho.1, ho.2, s18, s19, s1, s4, hw]
  refine ⟨?_, by omega⟩
  have o9 := fun o' => Only.upd (U := fun t => t = g ++ [0]) (o' := o') o8.wf bp.1 bp.2
  have f9 := (o9 (.cells (mdC c ⟨c.start, 0, false⟩ (.slice (some ⟨sb, 0, none⟩) N N) fv').toArray qamZ (0, 0))).k
  have a8 : ∀ k, Off (fun t => t = g ++ [2]) (g ++ [3, k]) := fun k => off_eq (by simp)
  have a9 : ∀ k, Off (fun t => t = g ++ [0]) (g ++ [3, k]) := fun k => off_eq (by simp)
  refine ⟨T8, i + 1, fv', fun k => if k = i then fp else F k, (((o5.up o6 fun t => pre_trans).up o7 non_up).up o8 fun t e => e ▸ pre_app _ _).up (o9 _) fun t e => e ▸ pre_app _ _, upd_same' _ _ _, bp.2, (rb7.kp o8.k (ne_tag (by simp))).kp f9 (ne_tag (by simp)), ?_, fun k hk => ?_, by omega, by simp⟩
  · have := rf8.kp f9 (ne_tag (by simp))
    rw [seqF_succ]
    have e1 : seqF i (fun k => [ptr (if k = i then fp else F k)]) = seqF i fun k => [ptr (F k)] := seqF_congr fun k hk => by rw [if_neg (by omega)]
    have e2 : (fun k => if k = i then fp else F k) i = fp := if_pos rfl
    rw [e1, e2]
    simpa [mdC] using this
  · by_cases hki : k = i
    · subst hki
      simp -implicitDefEqProofs only [if_true]
      exact (r7.kp o8.k (a8 _) (by simp)).kp f9 (a9 _) (by simp)
    · simp -implicitDefEqProofs only [if_neg hki]
      exact ((((fr k (by omega)).kp o6.k (off_pre (by simp; omega) (by simp; omega)) ((gg.app _).nil)).kp o7.k (Off.non _) (not_non _)).kp o8.k (a8 _) (by simp)).kp f9 (a9 _) (by simp)
theorem tgRep86:tagg P 86=some (some 4):=by kernel_rfl
set_option maxHeartbeats 4000000 in
theorem mwrite_ok (o:OpD)(ow:OpW o){uv:Value}(ou:One uv){T:Tags}{h:Heap}{g:Tag}{p m:Nat}{M:Tbl}(w:Wf T h)(gg:Gd g)(x:MdR T h g p M)(hs:TS m M)(hm:m<100000)
  (hk:∀ T' h',Only (pre g) T h T' h'→MdR T' h' g p (M.write o).1→K (.agg (repC (M.write o).2.err).toArray) h'):callM P qgxZ #[ptr p,.agg (opC o uv).toArray] h K:=by
 have n8:1≤M.c.stripes∧M.c.stripes≤8:=by have:=hs.rt; simp[rightB] at this; omega
 have nn:=hs.nn
 apply qsWZ
 unfold qhQZ
 refine nw_agg fun v1 h0 n0 e0 c0=>?_
 have w0:=w.ext e0
 rw[zcRep]
 refine nw_tag w0 lc fun v3 T1 h1 n1 o1 t3 c3=>?_
 have o01:Only non T h T1 h1:=(Only.of_ext (U:=non) w e0).trans o1
 have b0:h0 v1=_∧T v1=[]:=⟨c0,w v1 n0⟩
 have b0:=o1.see b0 (not_non _)
 have b3:h1 v3=_∧T1 v3=lc:=⟨c3,t3⟩
 obtain⟨bv,fv,Kk,V,F,x1⟩:=x.up o01 (Off.non _) (not_non _)
 refine mtake_ok o1.wf gg x1 hs.ts fun h2 o2 x2=>?_
 have b0:=o2.see b0 (by simp)
 have b3:=o2.see b3 (lc_ne g gg [0])
 have oh:Only (pre g) T h T1 h2:=(o01.mono non_up).up o2 fun _=>eq_pre
 have cp:=x2.hp
 simp -implicitDefEqProofs only[mdC] at cp
 have c3':=b3.1
 have n3:h v3=none:=by
  cases hh:h v3 with
  | none=>rfl
  | some ob=>rw[e0 _ _ hh] at n1; cases n1
 unfold qlvZ
 cases htc:M.t.closed with
 | true =>
  have e:M.write o=(M.take,repE 5):=by simp[Tbl.write,htc]
  rw[e] at hk
  have htc':M.take.t.closed=true:=htc
  rw[htc'] at cp
  simp -implicitDefEqProofs[ld_at cp,cel_of cp,stm_at cp,stm_upd,ld_same,cel_same,over]
  unfold qloZ
  rw[bdRepE]
  simp -implicitDefEqProofs[ld_at c3',cel_of c3',stm_at c3',stm_upd,ld_same,cel_same,over]
  have x3:MdR T1 (upd h2 v3 (.cells #[.int .i64 5,.slice none 0 0,.slice none 0 0,.bool false] qcZ (0,0))) g p M.take:=⟨bv,fv,Kk,V,F,x2.kp (Only.lst o2.wf b3).k gg.off (by simp)⟩
  exact hk T1 _ (oh.own n3 b3.1) x3
 | false =>
 obtain⟨s,hs'⟩:∃ s:Nat,M.stripe o.user=s:=⟨_,rfl⟩
 have hst:=stripeOf_lt (u:=o.user) (n:=M.c.stripes) n8.1
 have hsn:s<M.n:=by rw[← hs']; unfold Tbl.stripe; omega
 have hse:stripeOf o.user M.c.stripes=(s:Int):=by rw[← hs']; unfold Tbl.stripe; omega
 obtain⟨r,hr⟩:∃ r,writeB (M.bk s) o M.t.now M.c.sessions=r:=⟨_,rfl⟩
 have e:M.write o=({ M.take with bk:=bset M.bk s r.1,fd:=bset M.fd s ((M.fd s).tell r.2.1 M.take.t.seq) },repE r.2.2):=by
  simp -implicitDefEqProofs only[Tbl.write,htc,Bool.false_eq_true,if_false,hs',Tbl.writeAt,← hr]
  rfl
 rw[e] at hk
 have htc':M.take.t.closed=false:=htc
 rw[htc'] at cp
 simp -implicitDefEqProofs[ld_at cp,cel_of cp,stm_at cp,stm_upd,ld_same,cel_same,over]
 unfold qluZ
 have c0':=b0.1
 have c0u:cel h2 v1 1=some (.string o.user):=by simp[cel_of c0',opC]
 simp -implicitDefEqProofs[c0u]
 refine mstripe_ok o.user ow.s1 ⟨bv,fv,Kk,V,F,x2⟩ n8.2 ?_
 rw[show M.take.c.stripes=M.c.stripes from rfl,hse]
 unfold qltZ
 rw[seqM_eq]
 unfold qlsZ
 obtain⟨b,rb,ia,l1⟩:=x2.ldb (s:=s) hsn
 have hbr:=x2.br s hsn
 have hlen:r.2.1.length≤1:=by rw[← hr]; exact settle_chg _ _ _ _
 have bm:=hs.bk s hsn
 have fg:=(hs.fd s hsn).g hm
 have oa:ldV (some (some 7)) (ptr v1) h2=some (.agg (opC o uv).toArray):=by simp[ld_at c0',opC]
 have fin:∀ (h5:Heap) (s6:Env) (k v cv:Value) (vb:Nat),Ext h2 h5→BookR (fz T1 h5) k v r.1→Sl 7 ChgR (fz T1 h5) cv r.2.1→h5 vb=some (.cells #[k,v] qaZ (0,0))→s6 0=ptr p→s6 4=ptr v3→s6 5 = .int .u64 M.take.t.seq→s6 6 = .int .i64 s→s6 7=ptr vb→s6 8=cv→s6 9 = .int .i64 r.2.2→qgkZ s6 h5 K []:=by
  intro h5 s6 k v cv vb e5 hb hc cvb s0 s4 s5 s6' s7 s8 s9
  have o5:Only non T1 h2 T1 h5:=Only.of_ext o2.wf e5
  have x5:=x2.kp o5.k (Off.non _) (not_non _)
  have b35:=o5.see b3 (not_non _)
  have cp5:=x5.hp
  simp -implicitDefEqProofs only[mdC] at cp5
  unfold qgkZ
  simp -implicitDefEqProofs[s0,s7,s6',ld_at cp5,cel_of cp5,stm_at cp5,ld_at cvb,cel_of cvb,stm_at cvb,stm_upd,ld_same,cel_same,over,ia]
  refine mbook_tell (seq:=M.take.t.seq) o5.wf gg x5 hsn rb hb hc (by omega) fg fun h6 o6 ⟨fb,f1,f2⟩ cp6 hT=>?_
  have b36:=o6.see b35 (lc_ne g gg [1])
  simp -implicitDefEqProofs only[mdC] at cp6
  simp -implicitDefEqProofs[ld_at cp6,cel_of cp6,stm_at cp6,stm_upd,ld_same,cel_same,over,f1,f2,s0,s6',s8,s5]
  refine hT _ fun T7 h7 o7 x7=>?_
  have ne3:¬ pre g lc:=fun hh=>gg.off lc hh rfl
  have b37:=o7.see b35 ne3
  have c37:=b37.1
  unfold qkhZ
  simp -implicitDefEqProofs[s9,bdRepE,s4,ld_at c37,cel_of c37,stm_at c37,stm_upd,ld_same,cel_same,over,tgRep86]
  have o27:Only (pre g) T h T7 h7:=(oh.up o5 non_up).trans o7
  refine hk T7 _ (o27.own n3 b37.1) (x7.kp (Only.lst o7.wf b37).k gg.off (by simp))
 have ht0:M.take.t.now=M.t.now:=rfl
 have c0s:M.take.c.sessions=M.c.sessions:=rfl
 simp -implicitDefEqProofs[ld_at cp,cel_of cp,stm_at cp,stm_upd,ld_same,cel_same,over,ia,l1,oa,ht0,c0s]
 refine⟨?_,?_⟩
 ·unfold qlqZ
  refine bwrite_ok _ bm.bw o ow ou hs.tn M.c.sessions o2.wf hbr (by have:=bm.bl; omega) ?_ fun h5 k v cv e5 hb hc=>?_
  ·have:=bm.ent o.user
   show (entOf (M.bk s) o.user).ss.length<_
   omega
  have hb:BookR (fz T1 h5) k v r.1:=by rw[← hr]; exact hb
  have hc:Sl 7 ChgR (fz T1 h5) cv r.2.1:=by rw[← hr]; exact hc
  have hrr:(writeB (M.take.bk s) o M.t.now M.c.sessions).2.2=r.2.2:=by rw[← hr]; rfl
  unfold qlpZ
  have p1:=hb.1.one
  have p2:=hb.2.1.one
  simp -implicitDefEqProofs only[exV_0,exV_1,exV_2,ov_s,zcMap,hrr]
  refine nw_st (by simp) (by simp) (by simp[p1.1,p2.1]) fun vb h6 n6 e6 c6=>?_
  simp -implicitDefEqProofs only[cells_agg] at c6
  try simp only[thenM_n]
  refine fin h6 _ k v cv vb (e5.trans e6) (hb.ext (fz_of_ext e6)) (hc.ext (R:=ChgR) (@ChgR.ext) (fz_of_ext e6)) c6 ?_ ?_ ?_ ?_ ?_ ?_ ?_<;>simp[hr]
 ·unfold qlrZ
  rw[zcMap]
  refine nw_intro fun vb h5 n5 e5 c5=>?_
  have o5:Only non T1 h2 T1 h5:=Only.of_ext o2.wf e5
  have x5:=x2.kp o5.k (Off.non _) (not_non _)
  obtain⟨b',rb',ia',l1'⟩:=x5.ldb (s:=s) hsn
  have hbb:b'=b:=by rw[rb] at rb'; cases rb'; rfl
  subst hbb
  have c1:=e5 _ _ c0'
  have cp:=x5.hp
  simp -implicitDefEqProofs only[mdC] at cp
  have oa:ldV (some (some 7)) (ptr v1) h5=some (.agg (opC o uv).toArray):=by simp[ld_at c1,opC]
  refine⟨by simp[ld_at cp,cel_of cp,stm_at cp,stm_upd,ld_same,cel_same,over],l1',oa,by simp[ld_at cp,cel_of cp,stm_at cp,stm_upd,ld_same,cel_same,over,ht0],by simp[ld_at cp,cel_of cp,stm_at cp,stm_upd,ld_same,cel_same,over,c0s],?_⟩
  have wt:Wf (tset T1 vb lc) h5:=wf_loc o5.wf c5
  refine bwrite_ok _ bm.bw o ow ou hs.tn M.c.sessions wt (hbr.ext (fz_in n5 e5)) (by have:=bm.bl; omega) ?_ fun h6 k v cv e6 hb hc=>?_
  ·have:=bm.ent o.user
   show (entOf (M.bk s) o.user).ss.length<_
   omega
  have hb:BookR (fz (tset T1 vb lc) h6) k v r.1:=by rw[← hr]; exact hb
  have hc:Sl 7 ChgR (fz (tset T1 vb lc) h6) cv r.2.1:=by rw[← hr]; exact hc
  have hrr:(writeB (M.take.bk s) o M.t.now M.c.sessions).2.2=r.2.2:=by rw[← hr]; rfl
  have p1:=hb.1.one
  have p2:=hb.2.1.one
  have c6:=e6 _ _ c5
  try simp only[hrr]
  simp -implicitDefEqProofs[ld_at c6,cel_of c6,stm_at c6,stm_upd,ld_same,cel_same,over,p1.1,p2.1]
  try simp only[thenM_n]
  refine fin _ _ k v cv vb (ext_upd n5 (e5.trans e6)) (hb.ext fz_loc) (hc.ext (R:=ChgR) (@ChgR.ext) fz_loc) (upd_same' _ _ _) ?_ ?_ ?_ ?_ ?_ ?_ ?_<;>simp[hr]
end Go.Proofs.YtcnphhhcknhhaaaGreat
namespace Go.Proofs.YtcnphhhcknhhaaaGreat
open Go Go.Den Go.MapKept
set_option linter.unusedSimpArgs false
set_option linter.unusedVariables false
set_option maxRecDepth 20000
theorem evNe (p q:Evt){x y:Operand}{K:Value→Prop}:pvM P (do eqGuard .neq qtZ x y (.agg (evC p).toArray) (.agg (evC q).toArray); binOp .neq qtZ (.agg (evC p).toArray) (.agg (evC q).toArray)) K=K (.bool (!decide (p=q))):=by
 simp -implicitDefEqProofs only[evC,presC,List.cons_append,List.nil_append]
 rw[pv_neq (d:=5) (b:=(p.user.toList == q.user.toList) && (((p.old.st == q.old.st) && ((p.old.pr == q.old.pr) && ((p.old.lv == q.old.lv) && true))) && (((p.new.st == q.new.st) && ((p.new.pr == q.new.pr) && ((p.new.lv == q.new.lv) && true))) && ((p.seq == q.seq) && true)))) (by kernel_rfl) (by omega) (by kernel_rfl)]
 have:((p.user.toList == q.user.toList) && (((p.old.st == q.old.st) && ((p.old.pr == q.old.pr) && ((p.old.lv == q.old.lv) && true))) && (((p.new.st == q.new.st) && ((p.new.pr == q.new.pr) && ((p.new.lv == q.new.lv) && true))) && ((p.seq == q.seq) && true))))=decide (p=q):=by
  rw[str_beq,Bool.eq_iff_iff]
  obtain⟨u,⟨a,b,c⟩,⟨d,e,f⟩,s⟩:=p
  obtain⟨u',⟨a',b',c'⟩,⟨d',e',f'⟩,s'⟩:=q
  simp -implicitDefEqProofs[and_assoc]
 rw[this]
theorem ev_ld {F:Heap}{v:Value}{l:List Evt}(x:Sl 8 EvR F v l){i:Nat}(hi:i<l.length){k:IntKind}:∃ b p,iaV (some (none,8)) v (.int k i)=some (.pointer (some ⟨b,p,none⟩))∧∀ h',Ext F h'→cels h' b p 8=some (evC l[i]):=by
 obtain⟨b,p,c,h1,h2,h3⟩:=x.at (k:=k) (i:=i) (by omega) (by omega)
 refine⟨b,p,h1,fun h' e=>?_⟩
 have hc:c=evC l[i]:=h3
 subst hc
 exact cels_ext e h2
theorem pres_ld {F:Heap}{v:Value}{l:List Pres}(x:Sl 3 PresR F v l){i:Nat}(hi:i<l.length){k:IntKind}:∃ b p,iaV (some (none,3)) v (.int k i)=some (.pointer (some ⟨b,p,none⟩))∧∀ h',Ext F h'→cels h' b p 3=some (presC l[i]):=by
 obtain⟨b,p,c,h1,h2,h3⟩:=x.at (k:=k) (i:=i) (by omega) (by omega)
 refine⟨b,p,h1,fun h' e=>?_⟩
 have hc:c=presC l[i]:=h3
 subst hc
 exact cels_ext e h2
variable {K:KTy}
set_option maxHeartbeats 1000000 in
theorem evSame_ok (xs ys : List Evt) {h : Heap} {v u : Value} (x : Sl 8 EvR h v xs) (y : Sl 8 EvR h u ys) (hl : xs.length < 1000000) (hk : K (.bool (decide (xs = ys))) h) : callM P qgwZ #[v, u] h K := by
  apply qsUZ
  unfold qhOZ
  have lx := x.len
  have ly := y.len
  by_cases hlen : xs.length = ys.length
  rotate_left
  · have hne : xs ≠ ys := fun e => hlen (by rw [e])
    have hi : ¬ (xs.length : Int) = ys.length := by omega
    simp -implicitDefEqProofs [lx, ly, hi]
    rw [decide_eq_false hne] at hk; exact hk
  · have hi : (xs.length : Int) = ys.length := by omega
    simp -implicitDefEqProofs [lx, ly, hi]
    unfold qlnZ
    rw [seqM_eq]
    unfold qlmZ
    refine loop_on [0, 1, 4] (fun s h' => h' = h ∧ ∃ i : Nat, i ≤ xs.length ∧ s 5 = .int .i64 i ∧ xs.take i = ys.take i) (fun s _ => (xs.length - num (s 5)).toNat) ⟨rfl, 0, by omega, rfl, by simp⟩ ?_
    rintro s h1 hf ⟨rfl, i, hi, s5, hT⟩
    have s0 : s 0 = v := by simpa using hf 0 (by simp)
    have s1 : s 1 = u := by simpa using hf 1 (by simp)
    have s4 : s 4 = .bool false := by simpa using hf 4 (by simp)
    unfold qllZ
    simp -implicitDefEqProofs only [s5, s0, lx, bin_lss, ov_s, cd_b]
    refine ⟨fun hc => ?_, fun hc => ?_⟩
    · have hlt : i < xs.length := by have : ((i : Int) < xs.length) := by simpa using hc
                                     omega
      have hly : i < ys.length := by omega
      have hw : IntKind.i64.wrap ((i : Int) + 1) = (i + 1 : Nat) := by rw [wrap64_id (by omega) (by omega)]; omega
      obtain ⟨b, p, i1, i2⟩ := ev_ld x (k := .i64) hlt
      obtain ⟨b', p', j1, j2⟩ := ev_ld y (k := .i64) hly
      unfold qlkZ
      simp -implicitDefEqProofs only [s0, s1, s5, i1, j1, ov_s, ldV_n (i2 _ (Ext.refl _)), ldV_n (j2 _ (Ext.refl _)), evNe, cd_b]
      refine ⟨fun hd => ?_, fun hd => ?_⟩
      · have hne : xs[i] ≠ ys[i] := by simpa using hd
        have hne' : xs ≠ ys := fun e => hne (by subst e; rfl)
        unfold qliZ
        simp -implicitDefEqProofs [s4]
        rw [decide_eq_false hne'] at hk; exact hk
      · have he : xs[i] = ys[i] := by simpa using hd
        unfold qljZ
        simp -implicitDefEqProofs [s0, s1, s4, s5, hw, -Int.natCast_add]
        exact ⟨⟨i + 1, by omega, rfl, take_eq_succ hT hlt hly he⟩, by omega⟩
    · have : i = xs.length := by have : ¬ ((i : Int) < xs.length) := by simpa using hc
                                 omega
      subst this
      have he : xs = ys := by
        rw [List.take_of_length_le (Nat.le_refl _), List.take_of_length_le (by omega)] at hT; exact hT
      simp -implicitDefEqProofs
      rw [decide_eq_true he] at hk; exact hk
deriving instance DecidableEq for Reply
def rplC (r:Reply)(vv ev:Value):List Value:=[.int .i64 r.err,vv,ev,.bool r.lost]
structure RpX (h:Heap)(r:Reply)(vv ev:Value):Prop where
 v:Sl 3 PresR h vv r.vals
 e:Sl 8 EvR h ev r.evs
theorem RpX.ext {h h':Heap}{r:Reply}{vv ev:Value}(x:RpX h r vv ev)(e:Ext h h'):RpX h' r vv ev:=⟨x.v.ext (@PresR.ext) e,x.e.ext (@EvR.ext) e⟩
theorem RpX.no (h:Heap){r:Reply}(h1:r.vals=[])(h2:r.evs=[]):RpX h r (.slice none 0 0) (.slice none 0 0):=⟨.inl ⟨h1,_,_,rfl⟩,.inl ⟨h2,_,_,rfl⟩⟩
theorem rep_eq (a b:Reply):a=b↔a.err=b.err∧a.lost=b.lost∧a.vals=b.vals∧a.evs=b.evs:=by
 cases a; cases b; simp only[Reply.mk.injEq]; constructor<;>(rintro⟨h1,h2,h3,h4⟩; exact⟨h1,by assumption,by assumption,by assumption⟩)
set_option maxHeartbeats 4000000 in
theorem repSame_ok (a b:Reply){h:Heap}{va ea vb eb:Value}(x:RpX h a va ea)(y:RpX h b vb eb)(h1:a.vals.length<1000000)(h2:a.evs.length<1000000)(hk:∀ h',Ext h h'→K (.bool (decide (a=b))) h'):callM P qgtZ #[.agg (rplC a va ea).toArray,.agg (rplC b vb eb).toArray] h K:=by
 apply qsRZ
 unfold qhIZ
 refine nw_agg fun v1 g1 n1 e1 c1=>?_
 refine nw_agg fun v3 g3 n3 e3 c3=>?_
 have c1:=e3 _ _ c1
 have e0:=e1.trans e3
 have lx:=x.v.len
 have ly:=y.v.len
 have lex:=x.e.len
 have ley:=y.e.len
 have c1:g3 v1=some (.cells #[.int .i64 a.err,va,ea,.bool a.lost] qcZ (0,0)):=c1
 have c3:g3 v3=some (.cells #[.int .i64 b.err,vb,eb,.bool b.lost] qcZ (0,0)):=c3
 have ne:a≠b↔¬ (a.err=b.err∧a.lost=b.lost∧a.vals=b.vals∧a.evs=b.evs):=not_congr (rep_eq a b)
 by_cases q1:a.err=b.err
 rotate_left
 ·have:a≠b:=ne.2 fun hh=>q1 hh.1
  simp -implicitDefEqProofs[ld_at c1,cel_of c1,stm_at c1,ld_at c3,cel_of c3,stm_at c3,stm_upd,ld_same,cel_same,over,q1]
  exact kb (hk _ e0) (by simp[this])
 by_cases q2:a.lost=b.lost
 rotate_left
 ·have:a≠b:=ne.2 fun hh=>q2 hh.2.1
  have hbq:(a.lost == b.lost)=false:=by simpa using q2
  simp -implicitDefEqProofs[ld_at c1,cel_of c1,stm_at c1,ld_at c3,cel_of c3,stm_at c3,stm_upd,ld_same,cel_same,over,q1,hbq]
  exact kb (hk _ e0) (by simp[this])
 by_cases q3:a.vals.length=b.vals.length
 rotate_left
 ·have:a≠b:=ne.2 fun hh=>q3 (by rw[hh.2.2.1])
  have q3':¬ (a.vals.length:Int)=b.vals.length:=by omega
  simp -implicitDefEqProofs[ld_at c1,cel_of c1,stm_at c1,ld_at c3,cel_of c3,stm_at c3,stm_upd,ld_same,cel_same,over,q1,q2,lx,ly,q3']
  exact kb (hk _ e0) (by simp[this])
 simp -implicitDefEqProofs[ld_at c1,cel_of c1,stm_at c1,ld_at c3,cel_of c3,stm_at c3,stm_upd,ld_same,cel_same,over,q1,q2,lx,ly,q3]
 refine evSame_ok a.evs b.evs (x.e.ext (@EvR.ext) e0) (y.e.ext (@EvR.ext) e0) h2 ?_
 by_cases q4:a.evs=b.evs
 rotate_left
 ·have:a≠b:=ne.2 fun hh=>q4 hh.2.2.2
  simp -implicitDefEqProofs[q4]
  exact kb (hk _ e0) (by simp[this])
 simp -implicitDefEqProofs[q4]
 unfold qlcZ
 rw[seqM_eq]
 unfold qlbZ
 have hab:a=b↔a.vals=b.vals:=⟨fun e=>by rw[e],fun e=>(rep_eq a b).2 ⟨q1,q2,e,q4⟩⟩
 refine loop_on [2,3,4] (fun s h'=>h'=g3∧∃ i:Nat,i≤a.vals.length∧s 5 = .int .i64 i∧a.vals.take i=b.vals.take i) (fun s _=>(a.vals.length-num (s 5)).toNat) ⟨rfl,0,by omega,rfl,by simp⟩ ?_
 rintro s h3 hf ⟨rfl,i,hi,s5,hT⟩
 have s2:s 2=ptr v1:=by simpa using hf 2 (by simp)
 have s3:s 3=ptr v3:=by simpa using hf 3 (by simp)
 have s4:s 4 = .bool false:=by simpa using hf 4 (by simp)
 unfold qlaZ
 by_cases hlt:i<a.vals.length
 ·have hlt':(i:Int)<a.vals.length:=by omega
  have hly:i<b.vals.length:=by omega
  have hw:IntKind.i64.wrap ((i:Int)+1)=(i+1:Nat):=by rw[wrap64_id (by omega) (by omega)]; omega
  obtain⟨p1,p2,i1,i2⟩:=pres_ld x.v (k:=.i64) hlt
  obtain⟨p1',p2',j1,j2⟩:=pres_ld y.v (k:=.i64) hly
  simp -implicitDefEqProofs[s2,s5,ld_at c1,cel_of c1,stm_at c1,stm_upd,ld_same,cel_same,over,lx,hlt']
  unfold qkZZ
  simp -implicitDefEqProofs[s2,s3,s5,ld_at c1,cel_of c1,stm_at c1,ld_at c3,cel_of c3,stm_at c3,stm_upd,ld_same,cel_same,over,i1,j1,ldV_n (i2 _ e0),ldV_n (j2 _ e0)]
  simp -implicitDefEqProofs only[presC,presNe]
  by_cases he:a.vals[i]=b.vals[i]
  ·simp -implicitDefEqProofs[he]
   unfold qkYZ
   simp -implicitDefEqProofs[s2,s3,s4,s5,hw,-Int.natCast_add]
   exact⟨⟨i+1,by omega,rfl,take_eq_succ hT hlt hly he⟩,by omega⟩
  ·have:a≠b:=fun e=>he (by simp only[e])
   simp -implicitDefEqProofs[he]
   unfold qkXZ
   simp -implicitDefEqProofs[s4]
   exact kb (hk _ e0) (by simp[this])
 ·have:i=a.vals.length:=by omega
  subst this
  have he:a.vals=b.vals:=by
   rw[List.take_of_length_le (Nat.le_refl _),List.take_of_length_le (by omega)] at hT; exact hT
  simp -implicitDefEqProofs[s2,s5,ld_at c1,cel_of c1,stm_at c1,stm_upd,ld_same,cel_same,over,lx]
  exact kb (hk _ e0) (by simp[hab.2 he])
end Go.Proofs.YtcnphhhcknhhaaaGreat
namespace Go.Proofs.YtcnphhhcknhhaaaGreat
open Go Go.Den Go.MapKept
set_option linter.unusedSimpArgs false
set_option linter.unusedVariables false
set_option maxRecDepth 20000
theorem g4:Gd [4]:=⟨3,[],rfl⟩
end Go.Proofs.YtcnphhhcknhhaaaGreat
namespace Go.Proofs.YtcnphhhcknhhaaaGreat
open Go Go.Den Go.MapKept
set_option linter.unusedSimpArgs false
set_option linter.unusedVariables false
set_option maxRecDepth 20000
theorem u32_id {a:Int}(h0:0≤a)(h1:a<4294967296):IntKind.u32.wrap a=a:=by
 unfold IntKind.wrap
 simp -implicitDefEqProofs[IntKind.bits,IntKind.signed]
 omega
theorem pow8 {w:Nat}(hw:w<8):(2:Int) ^ w≤128∧0<(2:Int) ^ w:=by
 have:w=0∨w=1∨w=2∨w=3∨w=4∨w=5∨w=6∨w=7:=by omega
 rcases this with rfl | rfl | rfl | rfl | rfl | rfl | rfl | rfl<;>decide
theorem b_shl {w:Nat}(hw:w<8):binV .shl 2 true (.int .u32 1) (.int .i64 w)=some (.int .u32 (2 ^ w)):=by
 have h:=pow8 hw
 have h0:¬ (w:Int)<0:=by omega
 have hm:min w 32=w:=by omega
 simp -implicitDefEqProofs only[binV,intV,if_neg h0,Int.toNat_natCast,IntKind.bits,hm,Int.one_mul]
 rw[u32_id (by omega) (by omega)]
theorem b_or {m:Int}{w:Nat}(hw:w<8):binV .or 2 false (.int .u32 m) (.int .u32 (2 ^ w))=some (.int .u32 (mor m w)):=by
 have:=mor_rng m w
 simp -implicitDefEqProofs only[binV,intV,if_true,bitV,IntKind.bits]
 show some (Value.int .u32 (IntKind.u32.wrap ((BitVec.ofInt 32 m ||| BitVec.ofInt 32 (2 ^ w)).toNat:Int)))=_
 have e:((BitVec.ofInt 32 m ||| BitVec.ofInt 32 (2 ^ w)).toNat:Int)=mor m w:=by simp[mor]
 rw[e,u32_id this.1 this.2]
theorem b_clr {m:Int}{w:Nat}(hw:w<8):binV .andNot 2 false (.int .u32 m) (.int .u32 (2 ^ w))=some (.int .u32 (mclr m w)):=by
 have:=mclr_rng m w
 simp -implicitDefEqProofs only[binV,intV,if_true,bitV,IntKind.bits]
 show some (Value.int .u32 (IntKind.u32.wrap ((BitVec.ofInt 32 m &&& ~~~BitVec.ofInt 32 (2 ^ w)).toNat:Int)))=_
 have e:((BitVec.ofInt 32 m &&& ~~~BitVec.ofInt 32 (2 ^ w)).toNat:Int)=mclr m w:=by simp[mclr]
 rw[e,u32_id this.1 this.2]
theorem FeedX.stw {T:Tags}{h:Heap}{g:Tag}{p:Nat}{f:Feed}{kw vw k v:Value}{q:Nat→Nat}(x:FeedX T h g p f kw vw q)(w:Wf T h)(gg:Gd g){ws:List (ByteArray × Int)}(y:WsR (fz T h) k v ws){c:Array Value}(hc:c=(feedC k v fun j=>ptr (q j)).toArray) :
  Only (fun t=>t=g++[0]) T h T (upd h p (.cells c qajZ (0,0)))∧FeedX T (upd h p (.cells c qajZ (0,0))) g p { f with ws:=ws } k v q:=by
 have o:Only (fun t=>t=g++[0]) T h T (upd h p (.cells c qajZ (0,0))):=Only.upd w x.hp x.tp
 have e:=o.ext (by simp)
 exact⟨o,by rw[upd_same',hc],x.tp,y.1.ext (@StrR.ext) e,y.2.1.ext (@MaskR.ext) e,fun j hj=>(x.xq j hj).kp o.k (off_eq (by simp)),y.2.2.1,y.2.2.2⟩
variable {K:KTy}
theorem fwatch_ok (who:Int)(u:ByteArray)(hu:u.size≤maxLen){T:Tags}{h:Heap}{g:Tag}{p:Nat}{f:Feed}(w:Wf T h)(gg:Gd g)(x:FeedR T h g p f)(fg:FdG f)(hl:f.ws.length<999999)
  (hk:∀ T' h',Only (pre g) T h T' h'→FeedR T' h' g p (f.watch who u)→K (.tuple #[]) h'):callM P qfCZ #[ptr p,.int .i64 who,.string u] h K:=by
 apply qumZ
 unfold qjwZ
 refine client_ok who ?_
 unfold qocZ
 cases hc:clientB who with
 | false =>
  simp -implicitDefEqProofs
  have e:f.watch who u=f:=by simp[Feed.watch,hc]
  rw[e] at hk
  exact hk T h (Only.refl w) x
 | true =>
 have e:f.watch who u={ f with ws:=putB f.ws u (mor (valL 0 f.ws u) who) }:=by simp[Feed.watch,hc]
 rw[e] at hk
 obtain⟨n,rfl⟩:∃ n:Nat,who=n:=⟨who.toNat,by simp[clientB] at hc; omega⟩
 have hn:n<8:=by simp[clientB] at hc; omega
 simp -implicitDefEqProofs
 unfold qobZ
 obtain⟨kw,vw,q,x⟩:∃ kw vw q,FeedX T h g p f kw vw q:=by
  obtain⟨kw,vw,q,a1,a2,a3,a4,a5,a6,a7⟩:=x
  exact⟨kw,vw,q,a1,a2,a3,a4,a5,a6,a7⟩
 have cp:=x.hp
 have hws:WsR (fz T h) kw vw f.ws:=⟨x.x1,x.x2,x.s1,x.s2⟩
 have ldw:∀ h',h' p=some (.cells (feedC kw vw fun j=>ptr (q j)).toArray qajZ (0,0))→ldV (some (some 2)) (.pointer (some ⟨p,0,none⟩)) h'=some (.agg #[kw,vw]):=fun h' c=>by simp[ld_at c,feedC,feedG,List.range_succ]
 simp -implicitDefEqProofs[ldw _ cp]
 refine mget_ok f.ws fg.so u (fz_ext T h) hws (by omega) fun h1 e1=>?_
 have o1:Only non T h T h1:=Only.of_ext w e1
 have x1:=x.kp o1.k (Off.non _) (not_non _)
 unfold qoaZ
 simp -implicitDefEqProofs[ldw _ x1.hp,b_shl hn,b_or hn]
 refine mwith_ok f.ws fg.so u hu _ o1.wf ⟨x1.x1,x1.x2,x1.s1,x1.s2⟩ (by omega) fun h2 k v e2 y2=>?_
 have o2:Only non T h1 T h2:=Only.of_ext o1.wf e2
 have x2:=x1.kp o2.k (Off.non _) (not_non _)
 have cp2:=x2.hp
 have p1:=y2.1.one
 have p2:=y2.2.1.one
 obtain⟨o3,x3⟩:=x2.stw o2.wf gg y2 (c:=(feedC k v fun j=>ptr (q j)).toArray) rfl
 simp -implicitDefEqProofs only[feedC,feedG,List.range_succ] at cp2 o3 x3
 simp at cp2 o3 x3
 simp -implicitDefEqProofs[ld_at cp2,cel_of cp2,stm_at cp2,stm_upd,ld_same,cel_same,over,p1.1,p1.2,p2.1,p2.2]
 exact hk T _ (((o1.trans o2).mono fun _=>non_up _).up o3 fun t=>eq_pre) x3.r
theorem funwatch_ok (who:Int)(u:ByteArray)(hu:u.size≤maxLen){T:Tags}{h:Heap}{g:Tag}{p:Nat}{f:Feed}(w:Wf T h)(gg:Gd g)(x:FeedR T h g p f)(fg:FdG f)(hl:f.ws.length<999999)
  (hk:∀ T' h',Only (pre g) T h T' h'→FeedR T' h' g p (f.unwatch who u)→K (.tuple #[]) h'):callM P qecZ #[ptr p,.int .i64 who,.string u] h K:=by
 apply qsYZ
 unfold qhSZ
 obtain⟨kw,vw,q,x⟩:∃ kw vw q,FeedX T h g p f kw vw q:=by
  obtain⟨kw,vw,q,a1,a2,a3,a4,a5,a6,a7⟩:=x
  exact⟨kw,vw,q,a1,a2,a3,a4,a5,a6,a7⟩
 have cp:=x.hp
 have hws:WsR (fz T h) kw vw f.ws:=⟨x.x1,x.x2,x.s1,x.s2⟩
 have ldw:∀ h',h' p=some (.cells (feedC kw vw fun j=>ptr (q j)).toArray qajZ (0,0))→ldV (some (some 2)) (.pointer (some ⟨p,0,none⟩)) h'=some (.agg #[kw,vw]):=fun h' c=>by simp[ld_at c,feedC,feedG,List.range_succ]
 simp -implicitDefEqProofs[ldw _ cp]
 refine mget_ok f.ws fg.so u (fz_ext T h) hws (by omega) fun h1 e1=>?_
 have o1:Only non T h T h1:=Only.of_ext w e1
 have x1:=x.kp o1.k (Off.non _) (not_non _)
 have p1':Only (pre g) T h T h1:=o1.mono fun _=>non_up _
 unfold qlIZ
 simp -implicitDefEqProofs
 refine client_ok who ?_
 unfold qlHZ
 cases hc:clientB who with
 | false =>
  have e:f.unwatch who u=f:=by simp[Feed.unwatch,hc]
  rw[e] at hk
  simp -implicitDefEqProofs
  exact hk T h1 p1' x1.r
 | true =>
 obtain⟨n,rfl⟩:∃ n:Nat,who=n:=⟨who.toNat,by simp[clientB] at hc; omega⟩
 have hn:n<8:=by simp[clientB] at hc; omega
 by_cases hm:valL 0 f.ws u=0
 ·have e:f.unwatch n u=f:=by simp[Feed.unwatch,hm]
  rw[e] at hk
  simp -implicitDefEqProofs[hm]
  exact hk T h1 p1' x1.r
 simp -implicitDefEqProofs[hm]
 unfold qlGZ
 simp -implicitDefEqProofs[b_shl hn,b_clr hn]
 by_cases hz:mclr (valL 0 f.ws u) n=0
 ·have e:f.unwatch n u={ f with ws:=delB f.ws u }:=by simp[Feed.unwatch,hc,hm,hz]
  rw[e] at hk
  simp -implicitDefEqProofs[hz]
  unfold qlEZ
  simp -implicitDefEqProofs[ldw _ x1.hp]
  refine mwithout_ok f.ws fg.so u o1.wf ⟨x1.x1,x1.x2,x1.s1,x1.s2⟩ (by omega) fun h2 k v e2 y2=>?_
  have o2:Only non T h1 T h2:=Only.of_ext o1.wf e2
  have x2:=x1.kp o2.k (Off.non _) (not_non _)
  have cp2:=x2.hp
  have p1:=y2.1.one
  have p2:=y2.2.1.one
  obtain⟨o3,x3⟩:=x2.stw o2.wf gg y2 (c:=(feedC k v fun j=>ptr (q j)).toArray) rfl
  simp -implicitDefEqProofs only[feedC,feedG,List.range_succ] at cp2 o3 x3
  simp at cp2 o3 x3
  simp -implicitDefEqProofs[ld_at cp2,cel_of cp2,stm_at cp2,stm_upd,ld_same,cel_same,over,p1.1,p1.2,p2.1,p2.2]
  exact hk T _ (((o1.trans o2).mono fun _=>non_up _).up o3 fun t=>eq_pre) x3.r
 ·have e:f.unwatch n u={ f with ws:=putB f.ws u (mclr (valL 0 f.ws u) n) }:=by simp[Feed.unwatch,hc,hm,hz]
  rw[e] at hk
  simp -implicitDefEqProofs[hz]
  unfold qlFZ
  simp -implicitDefEqProofs[ldw _ x1.hp]
  refine mwith_ok f.ws fg.so u hu _ o1.wf ⟨x1.x1,x1.x2,x1.s1,x1.s2⟩ (by omega) fun h2 k v e2 y2=>?_
  have o2:Only non T h1 T h2:=Only.of_ext o1.wf e2
  have x2:=x1.kp o2.k (Off.non _) (not_non _)
  have cp2:=x2.hp
  have p1:=y2.1.one
  have p2:=y2.2.1.one
  obtain⟨o3,x3⟩:=x2.stw o2.wf gg y2 (c:=(feedC k v fun j=>ptr (q j)).toArray) rfl
  simp -implicitDefEqProofs only[feedC,feedG,List.range_succ] at cp2 o3 x3
  simp at cp2 o3 x3
  simp -implicitDefEqProofs[ld_at cp2,cel_of cp2,stm_at cp2,stm_upd,ld_same,cel_same,over,p1.1,p1.2,p2.1,p2.2]
  exact hk T _ (((o1.trans o2).mono fun _=>non_up _).up o3 fun t=>eq_pre) x3.r
theorem hwatch_ok (who:Int){s:Nat}(u:ByteArray)(hu:u.size≤maxLen)(on:Bool){T:Tags}{h:Heap}{g:Tag}{p m:Nat}{H:Hall}(w:Wf T h)(gg:Gd g)(x:HallR T h g p H)(hs:s<H.n)(hh:HS m H)(hm:m<100000)
  (hk:∀ T' h',Only (pre g) T h T' h'→HallR T' h' g p (H.watch who s u on)→K (.tuple #[]) h'):callM P qitZ #[ptr p,.int .i64 who,.int .i64 s,.string u,.bool on] h K:=by
 apply qugZ
 unfold qjqZ
 obtain⟨sv,av,Y,x⟩:=x
 refine hwr_ok who w gg x hs hh.n8.2 (by have:=hh.ac; omega) fun T2 h2 av2 b o2 x2 rb=>?_
 obtain⟨b',ob,rb',hb1,tb,ia,l1,l2,l3,l4,l5,l6⟩:=x2.lds (s:=s) (k:=.i64) hs
 have hbb:b'=b:=by rw[rb] at rb'; cases rb'; rfl
 subst hbb
 have hf:=(x2.sr s hs).2.2
 have fd:=(hh.st s hs).fd
 have fg:=fd.g hm
 have hl:((H.wr who s).ss s).feed.ws.length<999999:=by have:=fd.len; show (H.ss s).feed.ws.length<_; omega
 have oh:Only (pre g) T h T2 h2:=o2.mono fun _=>U02.pre
 unfold qnHZ
 simp -implicitDefEqProofs[l5]
 cases on with
 | true =>
  simp -implicitDefEqProofs
  refine fwatch_ok who u hu o2.wf (gg.app [3,s]) hf fg hl fun T4 h4 o4 r4=>?_
  exact hk T4 h4 (oh.up o4 fun t=>pre_trans) ⟨sv,av2,_,x2.fed hs o4 gg r4⟩
 | false =>
  simp -implicitDefEqProofs
  refine funwatch_ok who u hu o2.wf (gg.app [3,s]) hf fg hl fun T4 h4 o4 r4=>?_
  exact hk T4 h4 (oh.up o4 fun t=>pre_trans) ⟨sv,av2,_,x2.fed hs o4 gg r4⟩
end Go.Proofs.YtcnphhhcknhhaaaGreat
namespace Go.Proofs.YtcnphhhcknhhaaaGreat
open Go Go.Den Go.MapKept
set_option linter.unusedSimpArgs false
set_option linter.unusedVariables false
set_option maxRecDepth 20000
def evX (l:List Evt):List (Array Value):=l.map fun e=>#[.agg (evC e).toArray]
theorem zcEv:zc P qtZ=some #[.string ⟨#[]⟩,.int .i64 0,.int .i64 0,.int .i64 0,.int .i64 0,.int .i64 0,.int .i64 0,.int .u64 0]:=by kernel_rfl
theorem rall_it (r : Ring) {hA : Heap} {b p : Nat} {lv : Value} (cb : hA b = some (.cells #[ptr p] qSZ (0, 0))) (cp : hA p = some (.cells (ringC r lv).toArray qzZ (0, 0))) (x : Sl 8 EvR hA lv r.l) (hl : r.l.length < 1000000) :
    It P qcmZ #[ptr b] (evX r.l) hA := by
  intro yv I S h K hx hs h0 hround hK1 hK2
  apply qoDZ
  unfold qcJZ
  have cb0 := hx _ _ h0 _ _ cb
  have cp0 := hx _ _ h0 _ _ cp
  simp -implicitDefEqProofs only [ringC] at cp0
  have hlen := x.len
  simp -implicitDefEqProofs [ld_at cb0, cel_of cb0, stm_at cb0, ld_at cp0, cel_of cp0, stm_at cp0, stm_upd, ld_same, cel_same, over, hlen]
  refine loop_on [0, 8, 9] (fun s h' => ∃ k : Nat, k ≤ r.l.length ∧ s 10 = .int .i64 k ∧ I k h') (fun s _ => (r.l.length - num (s 10)).toNat) ⟨0, by omega, rfl, h0⟩ ?_
  rintro s h1 hf ⟨k, hk, s10, hI⟩
  have s0 : s 0 = yv := by simpa using hf 0 (by simp)
  have s8 : s 8 = lv := by simpa using hf 8 (by simp)
  have s9 : s 9 = .int .i64 r.l.length := by simpa using hf 9 (by simp)
  unfold qfMZ
  simp -implicitDefEqProofs only [s9, s10, bin_lss, ov_s, cd_b]
  refine ⟨fun hc => ?_, fun hc => ?_⟩
  rotate_left
  · have : k = r.l.length := by have : ¬ ((k : Int) < r.l.length) := by simpa using hc
                                omega
    subst this
    simp -implicitDefEqProofs
    exact hK1 _ _ (by simpa [evX] using hI)
  have hlt : k < r.l.length := by have : ((k : Int) < r.l.length) := by simpa using hc
                                  omega
  have hw : IntKind.i64.wrap ((k : Int) + 1) = k + 1 := wrap64_id (by omega) (by omega)
  have eA := hx _ _ hI
  obtain ⟨eb, eo, i1, i2⟩ := ev_ld x (k := .i64) hlt
  unfold qfLZ
  simp -implicitDefEqProofs only [s8, s10, i1, ov_s, ldV_n (i2 _ eA), zcEv]
  refine nw_st rfl (by simp [evC, presC]) (by simp [evC, presC]) fun vb h3 n3 e3 c3 => ?_
  have c3 : h3 vb = some (.cells (evC r.l[k]).toArray qtZ (0, 0)) := by simpa using c3
  have hld : ldV (some (some 8)) (ptr vb) h3 = some (.agg (evC r.l[k]).toArray) := by simp [ld_at c3, evC, presC]
  simp -implicitDefEqProofs only [hld, ov_s, s0]
  have hj : k < (evX r.l).length := by simpa [evX] using hlt
  have hr := hround k hj h3
  have hx' : (evX r.l)[k] = #[.agg (evC r.l[k]).toArray] := by simp [evX]
  rw [hx'] at hr
  refine hr _ (hs _ _ _ hI e3) (fun h4 hI4 => ?_) (fun h4 hS => ?_)
  · unfold qbVZ qfKZ
    simp -implicitDefEqProofs [s10, hw, s0, s8, s9]
    exact ⟨⟨k + 1, by omega, by simp, hI4⟩, by omega⟩
  · unfold qbVZ
    simp -implicitDefEqProofs
    exact hK2 _ _ hS
def DrJ (hB:Heap)(v1:Nat)(l:List Evt)(q b' i:Nat)(h':Heap):Prop :=
 ∃ ov,h' v1=some (.cells #[ov] qlZ (0,0))∧Row 8 qtZ h' ov i ((l.take i).flatMap evC)∧Ext (wo hB [v1]) h'∧∀ r,rowOf ov=some r→r≠v1∧r≠q∧r≠b'∧hB r=none
def DrC (hB:Heap)(v1:Nat)(l:List Evt)(q b' i:Nat)(s2:Env)(h':Heap):Prop:=DrJ hB v1 l q b' i h'∧s2 4=ptr v1∧∃ (hi:i<l.length) (xb:Nat),s2 5=ptr xb∧xb≠q∧xb≠v1∧h' xb=some (.cells (evC l[i]).toArray qtZ (0,0))
theorem DrJ.keep {hB:Heap}{v1:Nat}{l:List Evt}{q b' i:Nat}{h' h'':Heap}(J:DrJ hB v1 l q b' i h')(hl':hB q=none)(h3:hB v1≠none)(k:Keep (some q) h' h''):DrJ hB v1 l q b' i h'':=by
 obtain⟨ov,c,r,e,n⟩:=J
 refine⟨ov,k _ _ c (fun hh=>by cases hh; exact h3 hl'),r.of_at fun g hg=>?_,wo_keep e hl' k,n⟩
 obtain⟨o,ho⟩:=r.lt g hg
 rw[ho]; exact k _ _ ho (fun hh=>(n g hg).2.1 (by cases hh; rfl))
theorem zcSlEv:zc P qlZ=some #[.slice none 0 0]:=by kernel_rfl
variable {K:KTy}
set_option maxHeartbeats 2000000 in
theorem rdrain_ok {T:Tags}{h:Heap}{g:Tag}{p:Nat}{r:Ring}(w:Wf T h)(gg:Gd g)(x:RingR T h g p r)(hl:r.l.length<1000000)
  (hk:∀ T' h' v,Only (pre g) T h T' h'→RingR T' h' g p ⟨r.room,[],false⟩→Sl 8 EvR (fz T' h') v r.l→K (.tuple #[v,.bool r.lost]) h'):callM P qAZ #[ptr p] h K:=by
 apply qpyZ
 unfold qcZZ
 rw[zcSlEv]
 refine nw_intro fun v1 h1 n1 e1 c1=>?_
 obtain⟨lv,cp,tp,rl⟩:=x
 have cp1:=e1 _ _ cp
 have xs:Sl 8 EvR h lv r.l:=Row.slE (enc:=evC) (R:=EvR) (fun e=>by simp[evC,presC]) (fun _=>rfl) rl.1
 have n1p:p≠v1:=fun hh=>by subst hh; rw[cp] at n1; cases n1
 rw[seqM_eq]
 unfold qfWZ
 apply qpWZ
 unfold qehZ
 simp -implicitDefEqProofs only[nwM_s,Value.cells]
 intro bA nA
 have eA:Ext h1 (upd h1 bA _):=Ext.upd nA (.cells #[ptr p] qSZ (0,0))
 have cA:=upd_same' h1 bA (.cells #[ptr p] qSZ (0,0))
 generalize upd h1 bA _=hB at *
 have nA1:v1≠bA:=ne_fresh c1 nA
 have c1:=eA _ _ c1
 have cp2:=eA _ _ cp1
 have e0B:=e1.trans eA
 have h1B:hB v1≠none:=by rw[c1]; simp
 have F1:Ext h (wo hB [v1]):=wo_ext e0B (by simpa using n1)
 have hlx:(evX r.l).length=r.l.length:=by simp[evX]
 simp -implicitDefEqProofs only[ov_s]
 unfold qfVZ
 refine rf_go good mixed rfl (by kernel_rfl) (rall_it r (hA:=wo hB [v1]) (b:=bA) (p:=p) (lv:=lv) (by rw[wo_out (by simpa using Ne.symm nA1)]; exact cA) (by rw[wo_out (by simpa using n1p)]; exact cp2) (xs.ext (@EvR.ext) F1) hl)
  (fun q b' i h'=>DrJ hB v1 r.l q b' i h') (fun _ _ _ _=>False) (fun q b' i s2 h'=>DrC hB v1 r.l q b' i s2 h') ?_ ?_ ?_ (fun _ _ _ _ _ _ _ h _=>h) ?_ ?_ ?_ ?_ ?_ (fun _ _ _ _ _ _ _ h=>h.elim) (fun _ _ _ _ _ _ _ _ h=>h.elim)
 ·intro q b' hq hb'
  exact⟨_,c1,by simpa using (Rf.nil (sz:=8) (e:=qtZ) (Ext.refl hB)).row,fun k o hk=>(wo_get hk).2,fun k hk=>by simp[rowOf] at hk⟩
 ·intro q b' i h' J; obtain⟨ov,_,_,e,_⟩:=J; exact e
 ·intro q b' hq hb' i h' h'' J k
  exact J.keep hq h1B k
 ·rintro q b' i s2 ha hb hq hb' ⟨J,s4,hi,xb,s5,nx,nx1,cx⟩ k
  exact⟨J.keep hq h1B k,s4,hi,xb,s5,nx,nx1,k _ _ cx (fun hh=>nx (by cases hh; rfl))⟩
 ·intro i hi; simp[evX]
 ·rintro i hi q b' h2 hq hb' ⟨ol,hol⟩ ⟨ob,hob⟩ J
  rw[qmCZ]
  unfold qfIZ
  rw[zcEv]
  have hib:i<r.l.length:=by omega
  have hxi:(evX r.l)[i]=#[.agg (evC r.l[i]).toArray]:=by simp[evX]
  rw[hxi]
  simp -implicitDefEqProofs
  refine nw_st rfl (by simp[evC,presC]) (by simp[evC,presC]) fun xb h4 n4 e4 c4=>?_
  have nx:xb≠q:=fun hh=>by subst hh; rw[hol] at n4; cases n4
  obtain⟨ov,cv,rr,e,nr⟩:=J
  refine⟨⟨⟨ov,e4 _ _ cv,rr.ext e4,e.trans e4,nr⟩,by simp,hib,xb,by simp,nx,fun hh=>(by subst hh; rw[cv] at n4; cases n4),by simpa using c4⟩,by rw[hol,e4 _ _ hol],by rw[hob,e4 _ _ hob]⟩
 ·rintro i hi q b' s2 h3 hq hb' ⟨ol,hol⟩ ⟨ob,hob⟩ ⟨⟨ov,cv,rr,e,nr⟩,s4,hib,xb,s5,nx,nx1,cx⟩
  rw[qmDZ]
  unfold qfJZ
  have hld:ldV (some (some 8)) (ptr xb) h3=some (.agg (evC r.l[i]).toArray):=by simp[ld_at cx,evC,presC]
  simp -implicitDefEqProofs[s4,s5,ld_at cv,cel_of cv,stm_at cv,stm_upd,ld_same,cel_same,over,hld]
  refine app_one (x:=.agg (evC r.l[i]).toArray) bsEv unSlEv apEv (by omega) (by simp[evC,presC]) (by simp[evC,presC]) rr (by unfold maxLen; omega) (by omega) (by omega) fun a ov' h4 r4 k4 ha=>?_
  have hl3:q≠v1:=fun hh=>by subst hh; rw[hq] at c1; cases c1
  have hb3:b'≠v1:=fun hh=>by subst hh; rw[hb'] at c1; cases c1
  have cv4:h4 v1=some (.cells #[ov] qlZ (0,0)):=k4 _ _ cv (fun hh=>(nr v1 hh.symm).1 rfl)
  have hol4:h4 q=some ol:=k4 _ _ hol (fun hh=>(nr q hh.symm).2.1 rfl)
  have hob4:h4 b'=some ob:=k4 _ _ hob (fun hh=>(nr b' hh.symm).2.2.1 rfl)
  have nr':∀ k,rowOf ov'=some k→k≠v1∧k≠q∧k≠b'∧hB k=none:=fun k hk=>by
   rcases ha with ha | ⟨j,ha,hj⟩
   ·exact nr k (by rw[← ha]; exact hk)
   ·rw[ha] at hk; cases hk
    refine⟨fun hh=>?_,fun hh=>?_,fun hh=>?_,?_⟩
    ·subst hh; rw[cv] at hj; cases hj
    ·subst hh; rw[hol] at hj; cases hj
    ·subst hh; rw[hob] at hj; cases hj
    ·by_cases hg3:k=v1
     ·subst hg3; rw[cv] at hj; cases hj
     ·cases hh:hB k with
      | none=>rfl
      | some o =>
       have:=e k o (by rw[wo_out (by simpa using hg3)]; exact hh)
       rw[this] at hj; cases hj
  have okv:ov'.cells=#[ov']:=r4.one.2
  simp -implicitDefEqProofs[ld_at cv4,cel_of cv4,stm_at cv4,stm_upd,ld_same,cel_same,over,okv,r4.one.1]
  refine⟨by rw[upd_ne hl3,hol4,hol],by rw[upd_ne hb3,hob4,hob],ov',upd_same' _ _ _,?_,wo_upd ?_ (by simp),nr'⟩
  ·have:r.l.take (i+1)=r.l.take i++[r.l[i]]:=by rw[List.take_succ_eq_append_getElem hib]
   rw[this,List.flatMap_append]
   exact (by simpa using r4:Row 8 qtZ h4 ov' (i+1) _).of_at fun k hk=>upd_ne (nr' k hk).1
  ·intro k o hk
   have hkB:=wo_get hk
   have:=e k o hk
   exact k4 k o this fun hh=>by rw[(nr k hh.symm).2.2.2] at hkB; cases hkB.2
 ·intro q b' h' hq hne hb' hd J
  rw[hlx] at J
  obtain⟨ov,cv,rr,e,nr⟩:=J
  rw[List.take_of_length_le (Nat.le_refl _)] at rr
  have cp3:=e _ _ (show wo hB [v1] p=_ by rw[wo_out (by simpa using n1p)]; exact cp2)
  have nb1:v1≠b':=fun hh=>by subst hh; rw[hb'] at c1; cases c1
  have nbp:p≠b':=fun hh=>by subst hh; rw[hb'] at cp2; cases cp2
  simp -implicitDefEqProofs only[ringC] at cp3
  simp -implicitDefEqProofs only[blkM_n,thenM_n]
  unfold qfXZ
  simp -implicitDefEqProofs[ld_at cp3,cel_of cp3,stm_at cp3,ld_at cv,cel_of cv,stm_at cv,stm_skip n1p,stm_skip (Ne.symm n1p),ld_skip n1p,ld_skip (Ne.symm n1p),cel_skip n1p,cel_skip (Ne.symm n1p),stm_upd,ld_same,cel_same,over,hd,ld_skip nb1,cel_skip nb1,upd_ne (Ne.symm nbp)]
  obtain⟨X,hX⟩:∃ X,X=Obj.cells #[Value.int .i64 r.room,.slice none 0 0,.bool false] qzZ (0,0):=⟨_,rfl⟩
  rw[← hX]
  have ec:upd (upd h' p X) b' (.deferred none)=upd (upd h' b' (.deferred none)) p X:=by
   funext k
   by_cases h1:k=b'
   ·subst h1; rw[upd_same',upd_ne (Ne.symm nbp),upd_same']
   ·rw[upd_ne h1]
    by_cases h2:k=p
    ·subst h2; rw[upd_same',upd_same']
    ·rw[upd_ne h2,upd_ne h2,upd_ne h1]
  rw[ec]
  have E1:Ext h (upd h' b' (.deferred none)):=ext_upd (fresh_of e0B hb') (ext_wo e0B (by simpa using n1) e)
  have o1:Only non T h T (upd h' b' (.deferred none)):=Only.of_ext w E1
  have o2:Only (fun t=>t=g++[0]) T (upd h' b' (.deferred none)) T (upd (upd h' b' (.deferred none)) p X):=Only.upd o1.wf (E1 _ _ cp) tp
  have nrh:∀ k,rowOf ov=some k→h k=none:=fun k hk=>fresh_of e0B (nr k hk).2.2.2
  refine hk T _ ov ((o1.mono fun _=>non_up _).up o2 fun t=>eq_pre) ⟨.slice none 0 0,by rw[upd_same',hX]; rfl,tp,Rw.nil _ _ _ _ _⟩ ?_
  have r2:Row 8 qtZ (upd (upd h' b' (.deferred none)) p X) ov r.l.length (r.l.flatMap evC):=rr.of_at fun j hj=>by
   have hjp:j≠p:=fun hh=>by have:=nrh j hj; rw[hh,cp] at this; cases this
   rw[upd_ne hjp,upd_ne (nr j hj).2.2.1]
  exact Row.slE (enc:=evC) (R:=EvR) (fun e=>by simp[evC,presC]) (fun _=>rfl) (r2.fz w nrh)
end Go.Proofs.YtcnphhhcknhhaaaGreat
namespace Go.Proofs.YtcnphhhcknhhaaaGreat
open Go Go.Den Go.MapKept
set_option linter.unusedSimpArgs false
set_option linter.unusedVariables false
set_option maxRecDepth 20000
variable {K:KTy}
theorem fdrain_ok (who:Int){T:Tags}{h:Heap}{g:Tag}{p:Nat}{f:Feed}(w:Wf T h)(gg:Gd g)(x:FeedR T h g p f)(hl:∀ j,j<8→(f.qs j).l.length<1000000)
  (hk:∀ T' h' v,Only (pre g) T h T' h'→FeedR T' h' g p (f.drain who)→Sl 8 EvR (fz T' h') v (f.told who)→K (.tuple #[v,.bool (f.lost who)]) h'):callM P qfDZ #[ptr p,.int .i64 who] h K:=by
 apply qunZ
 unfold qjxZ
 refine client_ok who ?_
 unfold qoeZ
 cases hc:clientB who with
 | false =>
  simp -implicitDefEqProofs
  have e1:f.drain who=f:=by simp[Feed.drain,hc]
  have e2:f.told who=[]:=by simp[Feed.told,hc]
  have e3:f.lost who=false:=by simp[Feed.lost,hc]
  rw[e1,e2,e3] at hk
  exact hk T h _ (Only.refl w) x (.inl ⟨rfl,_,_,rfl⟩)
 | true =>
 obtain⟨n,rfl⟩:∃ n:Nat,who=n:=⟨who.toNat,by simp[clientB] at hc; omega⟩
 have hn:n<8:=by simp[clientB] at hc; omega
 have e1:f.drain n={ f with qs:=qset f.qs n ⟨(f.qs n).room,[],false⟩ }:=by simp[Feed.drain,hc]
 have e2:f.told n=(f.qs n).l:=by simp[Feed.told,hc]
 have e3:f.lost n=(f.qs n).lost:=by simp[Feed.lost,hc]
 rw[e1,e2,e3] at hk
 obtain⟨kw,vw,q,cp,tp,a3,a4,a5,a6,a7⟩:=x
 simp -implicitDefEqProofs
 unfold qodZ
 have hcel:cel h p (2+n)=some (ptr (q n)):=by
  rw[cel_of cp]
  have:n=0∨n=1∨n=2∨n=3∨n=4∨n=5∨n=6∨n=7:=by omega
  rcases this with rfl | rfl | rfl | rfl | rfl | rfl | rfl | rfl<;>simp[feedC,feedG,List.range_succ]
 simp -implicitDefEqProofs[ia_arr hn,hcel]
 refine rdrain_ok w (gg.app [1,n]) (a5 n hn) (hl n hn) fun T2 h2 v o2 r2 s2=>?_
 simp -implicitDefEqProofs
 have b:=o2.k.at cp tp (not_pre (by simp))
 have nn:¬ pre (g++[1,n]) []:=(gg.app _).nil
 refine hk T2 h2 v (o2.mono fun t=>pre_trans) ⟨kw,vw,q,b.1,b.2,a3.ext (@StrR.ext) (o2.ext nn),a4.ext (@MaskR.ext) (o2.ext nn),fun j hj=>?_,a6,a7⟩ s2
 show RingR T2 h2 _ _ (qset f.qs n _ j)
 by_cases hjn:j=n
 ·subst hjn; simp[qset]; exact r2
 ·simp -implicitDefEqProofs[qset,hjn]; exact (a5 j hj).kp o2.k (off_pre (by simp; omega) (by simp; omega))
theorem hdrain_ok (who:Int){s:Nat}{T:Tags}{h:Heap}{g:Tag}{p m:Nat}{H:Hall}(w:Wf T h)(gg:Gd g)(x:HallR T h g p H)(hs:s<H.n)(hh:HS m H)(hm:m<100000)(hl:∀ j,j<8→((H.ss s).feed.qs j).l.length<1000000)
  (hk:∀ T' h' v,Only (pre g) T h T' h'→HallR T' h' g p (H.drain who s)→Sl 8 EvR (fz T' h') v ((H.ss s).feed.told who)→K (.tuple #[v,.bool ((H.ss s).feed.lost who)]) h'):callM P qiuZ #[ptr p,.int .i64 who,.int .i64 s] h K:=by
 apply quhZ
 unfold qjrZ
 obtain⟨sv,av,Y,x⟩:=x
 refine hwr_ok who w gg x hs hh.n8.2 (by have:=hh.ac; omega) fun T2 h2 av2 b o2 x2 rb=>?_
 obtain⟨b',ob,rb',hb1,tb,ia,l1,l2,l3,l4,l5,l6⟩:=x2.lds (s:=s) (k:=.i64) hs
 have hbb:b'=b:=by rw[rb] at rb'; cases rb'; rfl
 subst hbb
 have hf:=(x2.sr s hs).2.2
 have oh:Only (pre g) T h T2 h2:=o2.mono fun _=>U02.pre
 unfold qnIZ
 simp -implicitDefEqProofs[l5]
 refine fdrain_ok who o2.wf (gg.app [3,s]) hf hl fun T4 h4 v o4 r4 s4=>?_
 simp -implicitDefEqProofs
 exact hk T4 h4 v (oh.up o4 fun t=>pre_trans) ⟨sv,av2,_,x2.fed hs o4 gg r4⟩ s4
end Go.Proofs.YtcnphhhcknhhaaaGreat
namespace Go.Den
open Go Go.MapKept
set_option linter.unusedVariables false
set_option linter.unusedSimpArgs false
structure MiR (h:Heap)(r:Nat)(m:Mine):Prop where
 e:∃ es ck,h r=some (.map es ck)∧Stamped es ck∧(∀ x∈es.toList,IsKey .string x.key∧x.val = .bool true)∧(es.toList.map (·.key)).Perm (m.map Value.string)
def miF (m:Mine):Value→Option Value:=fun k=>match k with
 | .string u=>if mhas m u=true then some (.bool true) else none
 | _=>none
theorem MiR.map {h:Heap}{r:Nat}{m:Mine}(x:MiR h r m):MapR .string h r (miF m):=by
 obtain⟨es,ck,h1,h2,h3,h4⟩:=x.e
 refine⟨es,ck,h1,h2,fun y hy=>(h3 y hy).1,fun k v hk=>?_⟩
 cases k with
 | string u =>
  have hm:(u∈m)↔∃ e∈es.toList,e.key = .string u:=by
   have:(Value.string u∈es.toList.map (·.key))↔(Value.string u∈m.map Value.string):=h4.mem_iff
   simp only[List.mem_map] at this
   constructor
   ·intro hu; exact this.2 ⟨u,hu,rfl⟩
   ·intro hu; obtain⟨a,ha,hb⟩:=this.1 hu; cases hb; exact ha
  simp only[miF]
  by_cases hu:mhas m u=true
  ·rw[if_pos hu]
   constructor
   ·intro he; cases he
    obtain⟨e,he1,he2⟩:=hm.1 (mhas_iff.1 hu)
    exact⟨e,he1,he2,(h3 e he1).2⟩
   ·rintro⟨e,he1,he2,he3⟩
    rw[(h3 e he1).2] at he3; rw[he3]
  ·rw[if_neg hu]
   constructor
   ·intro he; cases he
   ·rintro⟨e,he1,he2,he3⟩; exact absurd (mhas_iff.2 (hm.2 ⟨e,he1,he2⟩)) hu
 | _=>simp[IsKey] at hk
theorem MiR.nodup {h:Heap}{r:Nat}{m:Mine}(x:MiR h r m):m.Nodup:=by
 obtain⟨es,ck,h1,h2,h3,h4⟩:=x.e
 have:=h4.nodup_iff.1 h2.2.2
 exact List.Pairwise.of_map (S:=fun a b=>a≠b) Value.string (fun a b hab he=>hab (by rw[he])) this
theorem filter_ne_perm {m:Mine}{u:ByteArray}(nd:m.Nodup)(h:u∈m):(u::m.filter fun k=>!decide (k=u)).Perm m:=by
 induction m with
 | nil=>simp at h
 | cons a m ih =>
  obtain⟨n1,n2⟩:=List.nodup_cons.1 nd
  by_cases ha:a=u
  ·subst ha
   have:(m.filter fun k=>!decide (k=a))=m:=List.filter_eq_self.2 fun k hk=>by
    have:k≠a:=fun e=>n1 (e▸hk)
    simp[this]
   simp[List.filter_cons,this]
  ·have hm:u∈m:=by simpa [Ne.symm ha] using h
   have e:(List.filter (fun k=>!decide (k=u)) (a::m))=a::m.filter fun k=>!decide (k=u):=by simp[List.filter_cons,ha]
   rw[e]
   exact (List.Perm.swap a u _).trans ((ih n2 hm).cons a)
theorem miset_on {m:Mine}{u:ByteArray}(nd:m.Nodup)(h:u∈m):(miset m u true).Perm m:=by
 unfold miset
 simp only[if_true]
 exact List.perm_append_singleton u _ |>.trans (filter_ne_perm nd h)
theorem filter_ne_self {m:Mine}{u:ByteArray}(h:u ∉ m):(m.filter fun k=>!decide (k=u))=m:=List.filter_eq_self.2 fun k hk=>by
 have:k≠u:=fun e=>h (e▸hk)
 simp[this]
theorem MiR.mem {es:Array MapEntry}{m:Mine}(h4:(es.toList.map (·.key)).Perm (m.map Value.string))(u:ByteArray):u∈m↔∃ e∈es.toList,e.key = .string u:=by
 have:(Value.string u∈es.toList.map (·.key))↔(Value.string u∈m.map Value.string):=h4.mem_iff
 simp only[List.mem_map] at this
 constructor
 ·intro hu; exact this.2 ⟨u,hu,rfl⟩
 ·intro hu; obtain⟨a,ha,hb⟩:=this.1 hu; cases hb; exact ha
variable {K:KTy}
theorem mi_len {P:Program}{t ty kt et:TypeId}{r:Nat}{m:Mine}{h:Heap}(ht:P.underlying t=some (.map kt et))(x:MiR h r m)(hK:K (.int .i64 m.length) h) :
  vvM P (Builtin.len_ #[t] ty #[.map (some r)]) h K:=by
 intro w hw
 obtain⟨es,ck,hb,h2,h3,h4⟩:=x.e
 rw[← hw] at hb
 have hb':w.heap[r]?=some (.map es ck):=hb
 have hl:es.size=m.length:=by have:=h4.length_eq; simpa using this
 refine⟨.int .i64 m.length,w,?_,Okw.refl w,by rw[hw]; exact hK⟩
 simp[Builtin.len_,run_underlying ht,Go.MapKept.run_getObj_map hb',Result.andThen,goInt,hl]
theorem mi_set {P:Program}{t:TypeId}{kt:TypeId}{z:Value}{r:Nat}{m:Mine}{u:ByteArray}{h:Heap}{K:Heap→Prop}
  (hc:mpC P t=some (kt,.string,z)) (x:MiR h r m) (hK:∀ h',(∀ b,b≠r→h' b=h b)→MiR h' r (miset m u true)→K h'):uM P (Instr.mapUpdate t (.map (some r)) (.string u) (.bool true)) h K:=by
 intro w hw
 have nd:=x.nodup
 obtain⟨et,i,hu,hd,hi,hz⟩:=mpC_spec hc
 obtain⟨es,ck,hb,hs,hks,hp⟩:=x.e
 rw[← hw] at hb
 have hb':w.heap[r]?=some (.map es ck):=hb
 have hk:IsKey .string (.string u):=trivial
 have hks':∀ x∈es.toList,IsKey .string x.key:=fun x hx=>(hks x hx).1
 rcases findNow_spec hk es.toList 0 hks' with ⟨h1,h2⟩ | ⟨j,e,h1,h2,h3⟩
 ·have hn:u ∉ m:=fun hu=>by obtain⟨e,he1,he2⟩:=(MiR.mem hp u).1 hu; exact h2 e he1 he2
  refine⟨{ w with heap:=w.heap.setIfInBounds r (.map (es.push { key:=.string u,val:=.bool true,born:=ck }) (ck+1)) },?_,⟨rfl,rfl,rfl,by simp⟩,hK _ (fun b hne=>?_) ⟨_,_,(heap_set hb').1,stamped_push hs h2,?_,?_⟩⟩
  ·simp[Instr.mapUpdate,run_underlying hu,Go.MapKept.run_getObj_map hb',run_checkKey hd hk,run_findKey hd h1,Go.MapKept.run_setObj_map _ hb',Result.andThen]
  ·rw[← hw]; exact (heap_set hb').2 b hne
  ·intro x hx
   simp only[Array.toList_push,List.mem_append,List.mem_singleton] at hx
   rcases hx with hx | rfl
   ·exact hks x hx
   ·exact⟨hk,rfl⟩
  ·unfold miset
   rw[filter_ne_self hn]
   simp only[Array.toList_push,List.map_append,List.map_cons,List.map_nil,if_true]
   exact hp.append_right _
 ·have hj:es[j]?=some e:=by simpa using h2
  have hum:u∈m:=(MiR.mem hp u).2 ⟨e,List.mem_of_getElem? h2,h3⟩
  have hkey:∀ e',es[j]?=some e'→({ e' with key:=.string u,val:=.bool true }:MapEntry).key=e'.key:=fun e' he'=>by rw[hj] at he'; cases he'; exact h3.symm
  refine⟨{ w with heap:=w.heap.setIfInBounds r (.map (es.modify j fun e=>{ e with key:=.string u,val:=.bool true }) ck) },?_,⟨rfl,rfl,rfl,by simp⟩,hK _ (fun b hne=>?_)
   ⟨_,_,(heap_set hb').1,stamped_modify hs _ _ (fun _ _=>rfl) (fun e' _ he'=>hkey e' he'),fun y hy=>⟨isKey_modify hks' _ _ hkey y hy,?_⟩,?_⟩⟩
  ·simp[Instr.mapUpdate,run_underlying hu,Go.MapKept.run_getObj_map hb',run_checkKey hd hk,run_findKey hd h1,hj,h3,run_keyThatStays hk,Go.MapKept.run_setObj_map _ hb',Result.andThen]
  ·rw[← hw]; exact (heap_set hb').2 b hne
  ·obtain⟨i',hi'⟩:=List.mem_iff_getElem?.1 hy
   rw[Array.getElem?_toList,Array.getElem?_modify] at hi'
   split at hi'
   ·cases hx:es[i']? with
    | none=>rw[hx] at hi'; cases hi'
    | some a=>rw[hx] at hi'; simp at hi'; rw[← hi']
   ·exact (hks y (List.mem_of_getElem? (by simpa using hi'))).2
  ·rw[modify_keys _ _ hkey]
   exact hp.trans ((miset_on nd hum).symm.map _)
theorem mi_del {P:Program}{t:TypeId}{kt ty:TypeId}{z:Value}{r:Nat}{m:Mine}{u:ByteArray}{h:Heap}
  (hc:mpC P t=some (kt,.string,z)) (x:MiR h r m) (hK:∀ h',(∀ b,b≠r→h' b=h b)→MiR h' r (miset m u false)→K (.tuple #[]) h'):vvM P (Builtin.delete_ #[t,kt] ty #[.map (some r),.string u]) h K:=by
 intro w hw
 have nd:=x.nodup
 obtain⟨et,i,hu,hd,hi,hz⟩:=mpC_spec hc
 obtain⟨es,ck,hb,hs,hks,hp⟩:=x.e
 rw[← hw] at hb
 have hb':w.heap[r]?=some (.map es ck):=hb
 have hk:IsKey .string (.string u):=trivial
 have hks':∀ x∈es.toList,IsKey .string x.key:=fun x hx=>(hks x hx).1
 rcases findNow_spec hk es.toList 0 hks' with ⟨h1,h2⟩ | ⟨j,e,h1,h2,h3⟩
 ·have hn:u ∉ m:=fun hu=>by obtain⟨e,he1,he2⟩:=(MiR.mem hp u).1 hu; exact h2 e he1 he2
  refine⟨_,{ w with heap:=w.heap.setIfInBounds r (.map es ck) },?_,⟨rfl,rfl,rfl,by simp⟩,hK _ (fun b hne=>?_) ⟨_,_,(heap_set hb').1,hs,hks,?_⟩⟩
  ·simp[Builtin.delete_,run_underlying hu,Go.MapKept.run_getObj_map hb',run_checkKey hd hk,run_findKey hd h1,Go.MapKept.run_setObj_map _ hb',Result.andThen]
  ·rw[← hw]; exact (heap_set hb').2 b hne
  ·unfold miset
   rw[filter_ne_self hn]
   simpa using hp
 ·have hj:es[j]?=some e:=by simpa using h2
  have hum:u∈m:=(MiR.mem hp u).2 ⟨e,List.mem_of_getElem? h2,h3⟩
  have hjl:j<es.size:=by
   rcases Nat.lt_or_ge j es.size with h | h
   ·exact h
   ·rw[Array.getElem?_eq_none h] at hj; cases hj
  have hE:es.eraseIdxIfInBounds j=es.eraseIdx j hjl:=by simp[Array.eraseIdxIfInBounds,hjl]
  have hL:(es.eraseIdxIfInBounds j).toList=es.toList.eraseIdx j:=by rw[hE]; simp
  refine⟨_,{ w with heap:=w.heap.setIfInBounds r (.map (es.eraseIdxIfInBounds j) ck) },?_,⟨rfl,rfl,rfl,by simp⟩,hK _ (fun b hne=>?_) ⟨_,_,(heap_set hb').1,stamped_erase hs _,fun y hy=>hks y ?_,?_⟩⟩
  ·simp[Builtin.delete_,run_underlying hu,Go.MapKept.run_getObj_map hb',run_checkKey hd hk,run_findKey hd h1,Go.MapKept.run_setObj_map _ hb',Result.andThen]
  ·rw[← hw]; exact (heap_set hb').2 b hne
  ·rw[hL] at hy; exact (List.eraseIdx_sublist _ _).subset hy
  ·rw[hL]
   have hjl':j<es.toList.length:=by simpa using hjl
   have e1:es.toList[j]=e:=by have:=List.getElem?_eq_getElem hjl'; rw[h2] at this; cases this; rfl
   have p1:(es.toList).Perm (e::es.toList.eraseIdx j):=by
    have h5:es.toList=es.toList.take j++e::es.toList.drop (j+1):=by
     rw[← e1,← List.drop_eq_getElem_cons hjl',List.take_append_drop]
    rw[List.eraseIdx_eq_take_drop_succ]
    exact (List.Perm.of_eq h5).trans List.perm_middle
   have p2:(es.toList.map (·.key)).Perm (Value.string u::(es.toList.eraseIdx j).map (·.key)):=by
    have:=p1.map (·.key)
    simpa [h3] using this
   have p3:(m.map Value.string).Perm (Value.string u::(m.filter fun k=>!decide (k=u)).map Value.string):=by
    have:=(filter_ne_perm nd hum).symm.map Value.string
    simpa using this
   have p4:=(p2.symm.trans hp).trans p3
   have p5:=(List.perm_cons _).1 p4
   unfold miset
   simpa using p5
theorem mi_new {P:Program}{t kt:TypeId}{d:TypeDesc}{z:Value}{h:Heap}(hc:mpC P t=some (kt,d,z))
  (hK:∀ r h',h r=none→Ext h h'→MiR h' r []→K (.map (some r)) h'):vvM P (Instr.makeMap t none) h K:=by
 intro w hw
 refine⟨.map (some w.heap.size),w.alloc (.map #[] 0),rfl,⟨rfl,rfl,rfl,by simp⟩,?_⟩
 have ha:abs (w.alloc (.map #[] 0))=upd (abs w) w.heap.size (.map #[] 0):=abs_alloc w _
 rw[ha,hw]
 have hn:h w.heap.size=none:=by rw[← hw]; exact abs_fresh w
 exact hK _ _ hn (Ext.upd hn _) ⟨#[],0,upd_same _ _ _,stamped_empty 0,by simp,by simp⟩
theorem mi_has {P:Program}{t kt:TypeId}{r:Nat}{m:Mine}{u:ByteArray}{h:Heap}(hc:mpC P t=some (kt,.string,.bool false))(x:MiR h r m)(hK:K (.bool (mhas m u)) h) :
  vvM P (Instr.lookup t (.map (some r)) (.string u) false) h K:=by
 refine lookup_vv hc (k:=.string u) trivial x.map ?_
 have:lkA (.bool false) false (miF m (.string u)) = .bool (mhas m u):=by
  simp only[miF]
  cases hu:mhas m u
  ·simp; rfl
  ·simp; rfl
 rw[this]; exact hK
end Go.Den
namespace Go.Den
open Go
set_option linter.unusedVariables false
set_option linter.unusedSimpArgs false
inductive HK where
 | lock (s:Nat)
 | look
 | wat
 | unl (s:Nat)
 | drn (s:Nat)
 | pun (s:Nat)
 | bad
 | shut
def HP.kd (p:HP)(j:Nat):HK :=
 if badB p.x then .bad else if p.x.kind=9 then .shut
 else if p.x.kind=8 then (if j<p.k then .lock j else if j=p.k then .look else if j≤2*p.k then .drn (j-p.k-1) else .pun (j-2*p.k-1))
 else if j=0 then .lock p.s else if j=1 then .look else if j=2 then .wat else .unl p.s
def HK.need:HK→Int
 | .lock s=>s
 | _=>-1
theorem HP.kd_congr {p p':HP}(h2:p'.x=p.x)(h3:p'.k=p.k)(h4:p'.s=p.s)(j:Nat):p'.kd j=p.kd j:=by simp only[HP.kd,h2,h3,h4]
theorem HP.kd_need (p:HP)(j:Nat)(hj:j<p.steps)(hat:p.at_=j):(p.kd j).need=p.needs:=by
 unfold HP.kd HP.needs
 cases hb:badB p.x
 ·by_cases h9:p.x.kind=9
  ·have h1:p.one=true:=by simp[HP.one,h9]
   simp[h9,h1,HK.need]
  ·have h1:p.one=false:=by simp[HP.one,hb,h9]
   by_cases h8:p.x.kind=8
   ·simp only[h8,h1,hat]
    by_cases hk:j<p.k
    ·simp[hk,HK.need]
    ·simp[hk]
     split
     ·rfl
     ·split<;>rfl
   ·simp only[h8,h9,h1,hat]
    by_cases h0:j=0
    ·simp[h0,HK.need]
    ·simp[h0]
     split
     ·rfl
     ·split<;>rfl
 ·have h1:p.one=true:=by simp[HP.one,hb]
  simp[h1,HK.need]
structure HPI (p:HP):Prop where
 vs:p.rep.vals=[]
 ne:p.poll=false→p.rep.evs=[]
 la:p.poll=true→p.all.length=min (p.at_-(p.k+1)) p.k
theorem HPI.hp0 (H:Hall)(who:Int)(x:OpD):HPI (hp0 H who x):=⟨rfl,fun _=>rfl,fun _=>by simp[Den.hp0]⟩
theorem HPI.step {p:HP}(i:HPI p)(m:Mine)(H:Hall)(n:Int):HPI (p.step m H n).1:=by
 have hk:=hstep_k p m H n
 have hpo:(p.step m H n).1.poll=p.poll:=by simp only[HP.poll,HP.one,hk.2.1]
 unfold HP.step at *
 split at hpo
 rotate_left
 ·rename_i he; rw[if_neg he]; exact i
 rename_i he
 rw[if_pos he] at hk ⊢
 have hlt:=HP.lt_of_en he
 unfold HP.stp at *
 split
 ·rename_i hb
  exact⟨i.vs,i.ne,fun h=>by
   have:p.one=true:=by simp[HP.one,hb]
   simp[HP.poll,HP.one,hb] at h⟩
 rename_i hb
 split
 ·rename_i h9
  refine⟨?_,fun _=>?_,fun h=>?_⟩
  ·dsimp only; split<;>exact i.vs
  ·have:=i.ne (by simp[HP.poll,HP.one,h9])
   dsimp only; split<;>exact this
  ·simp[HP.poll,HP.one,h9] at h
 rename_i h9
 split
 ·rename_i h8
  have hb':badB p.x=false:=by simpa using hb
  have ho:p.one=false:=by simp[HP.one,hb',h9]
  have hp:p.poll=true:=by simp[HP.poll,ho,h8]
  have hst:p.steps=3*p.k+1:=by simp[HP.steps,ho,h8]
  have la:=i.la hp
  have hnp:∀ q:HP,q.x=p.x→¬ q.poll=false:=fun q hq h=>by
   have:q.poll=p.poll:=by simp only[HP.poll,HP.one,hq]
   rw[this,hp] at h; cases h
  unfold HP.stpP
  split
  ·exact⟨i.vs,fun h=>absurd h (hnp _ rfl),fun _=>by show p.all.length=min (p.at_+1-(p.k+1)) p.k; omega⟩
  split
  ·exact⟨i.vs,fun h=>absurd h (hnp _ rfl),fun _=>by show p.all.length=min (p.at_+1-(p.k+1)) p.k; omega⟩
  split
  ·exact⟨i.vs,fun h=>absurd h (hnp _ rfl),fun _=>by show (p.all++[_]).length=min (p.at_+1-(p.k+1)) p.k; simp; omega⟩
  ·exact⟨i.vs,fun h=>absurd h (hnp _ rfl),fun _=>by show p.all.length=min (p.at_+1-(p.k+1)) p.k; omega⟩
 rename_i h8
 have hnp:∀ q:HP,q.x=p.x→¬ q.poll=true:=fun q hq h=>by simp[HP.poll,hq,h8] at h
 have ne:=i.ne (by simpa using hnp p rfl)
 unfold HP.stpW
 split
 ·exact⟨i.vs,fun _=>ne,fun h=>absurd h (hnp _ rfl)⟩
 split
 ·exact⟨i.vs,fun _=>ne,fun h=>absurd h (hnp _ rfl)⟩
 split
 ·split
  ·exact⟨i.vs,fun _=>ne,fun h=>absurd h (hnp _ rfl)⟩
  split
  ·exact⟨i.vs,fun _=>ne,fun h=>absurd h (hnp _ rfl)⟩
  ·exact⟨i.vs,fun _=>ne,fun h=>absurd h (hnp _ rfl)⟩
 ·exact⟨i.vs,fun _=>ne,fun h=>absurd h (hnp _ rfl)⟩
end Go.Den
namespace Go.Proofs.YtcnphhhcknhhaaaGreat
open Go Go.Den Go.MapKept
set_option linter.unusedSimpArgs false
set_option linter.unusedVariables false
set_option maxRecDepth 20000
def MineR (T:Tags)(h:Heap)(g:Tag)(q:Nat)(m:Mine):Prop:=∃ r,h q=some (.cells #[.map (some r)] qlUZ (0,0))∧T q=g++[0]∧MiR h r m∧T r=g++[1]
theorem MineR.kp {U:Tag→Prop}{T T':Tags}{h h':Heap}{g:Tag}{q:Nat}{m:Mine}(x:MineR T h g q m)(k:Kp U T h T' h')(o:Off U g):MineR T' h' g q m:=by
 obtain⟨r,h1,h2,h3,h4⟩:=x
 obtain⟨es,ck,e1,e2⟩:=h3.e
 have a:=k.at h1 h2 (o.at _)
 have b:=k.at e1 h4 (o.at _)
 exact⟨r,a.1,a.2,⟨es,ck,b.1,e2⟩,b.2⟩
def IntB (F:Heap)(b:Nat)(n:Int):Prop:=F b=some (.cells #[.int .i64 n] qjZ (0,0))
def PtB (F:Heap)(b q:Nat):Prop:=F b=some (.cells #[ptr q] qwZ (0,0))
def AlB (F:Heap)(b al k:Nat):Prop:=F b=some (.cells #[.slice (some ⟨al,0,none⟩) k k] qyZ (0,0))
def PlB (F:Heap)(fv:Value)(f:FuncId)(cap:Array Value):Prop:=∃ b,fv = .func (.func qdAZ) #[] #[ptr b]∧F b=some (.cells #[.func (.func f) #[] cap] qgjZ (0,0))
def ActF (F:Heap)(q mq al:Nat)(p:HP)(fv:Value):HK→Prop
 | .lock s=>∃ b1 b2,fv = .func (.func qcVZ) #[] #[ptr b1,ptr b2]∧IntB F b1 p.who∧IntB F b2 s
 | .look=>∃ b1 b2,fv = .func (.func qefZ) #[] #[ptr b1,ptr b2]∧IntB F b1 p.who∧PtB F b2 q
 | .wat=>∃ b1 b2 b3 b4 b5 b6 uv,PlB F fv qdyZ #[ptr b1,ptr b2,ptr b3,ptr b4,ptr b5,ptr b6]∧PtB F b1 q∧F b2=some (.cells #[.bool (decide (p.x.kind=6))] qgiZ (0,0)) ∧
  F b3=some (.cells #[ptr mq] qaiZ (0,0))∧F b4=some (.cells (opC p.x uv).toArray qxZ (0,0))∧IntB F b5 p.who∧IntB F b6 p.s
 | .unl s=>∃ b1 b2,PlB F fv qdzZ #[ptr b1,ptr b2]∧IntB F b1 p.who∧IntB F b2 s
 | .drn s=>∃ b1 b2 b3 b4,PlB F fv qedZ #[ptr b1,ptr b2,ptr b3,ptr b4]∧IntB F b1 p.who∧IntB F b2 s∧AlB F b3 al p.k∧PtB F b4 q
 | .pun s=>∃ b1 b2 b3 b4 b5,PlB F fv qeeZ #[ptr b1,ptr b2,ptr b3,ptr b4,ptr b5]∧IntB F b1 p.who∧IntB F b2 s∧IntB F b3 p.k∧AlB F b4 al p.k∧PtB F b5 q
 | .bad=>∃ b,fv = .func (.func qiXZ) #[] #[ptr b]∧PtB F b q
 | .shut=>∃ b1 b2,fv = .func (.func qiYZ) #[] #[ptr b1,ptr b2]∧IntB F b1 p.who∧PtB F b2 q
theorem PlB.ext {F F':Heap}{fv:Value}{f:FuncId}{cap:Array Value}(e:Ext F F')(x:PlB F fv f cap):PlB F' fv f cap:=by
 obtain⟨b,h1,h2⟩:=x
 exact⟨b,h1,e _ _ h2⟩
theorem ActF.ext {F F':Heap}{q mq al:Nat}{p:HP}{fv:Value}{k:HK}(e:Ext F F')(x:ActF F q mq al p fv k):ActF F' q mq al p fv k:=by
 cases k with
 | lock s=>obtain⟨b1,b2,h1,h2,h3⟩:=x; exact⟨b1,b2,h1,e _ _ h2,e _ _ h3⟩
 | look=>obtain⟨b1,b2,h1,h2,h3⟩:=x; exact⟨b1,b2,h1,e _ _ h2,e _ _ h3⟩
 | wat=>obtain⟨b1,b2,b3,b4,b5,b6,uv,h0,h1,h2,h3,h4,h5,h6⟩:=x; exact⟨b1,b2,b3,b4,b5,b6,uv,h0.ext e,e _ _ h1,e _ _ h2,e _ _ h3,e _ _ h4,e _ _ h5,e _ _ h6⟩
 | unl s=>obtain⟨b1,b2,h1,h2,h3⟩:=x; exact⟨b1,b2,h1.ext e,e _ _ h2,e _ _ h3⟩
 | drn s=>obtain⟨b1,b2,b3,b4,h0,h1,h2,h3,h4⟩:=x; exact⟨b1,b2,b3,b4,h0.ext e,e _ _ h1,e _ _ h2,e _ _ h3,e _ _ h4⟩
 | pun s=>obtain⟨b1,b2,b3,b4,b5,h0,h1,h2,h3,h4,h5⟩:=x; exact⟨b1,b2,b3,b4,b5,h0.ext e,e _ _ h1,e _ _ h2,e _ _ h3,e _ _ h4,e _ _ h5⟩
 | bad=>obtain⟨b,h1,h2⟩:=x; exact⟨b,h1,e _ _ h2⟩
 | shut=>obtain⟨b1,b2,h1,h2,h3⟩:=x; exact⟨b1,b2,h1,e _ _ h2,e _ _ h3⟩
theorem ActF.congr {F:Heap}{q mq al:Nat}{p p':HP}{fv:Value}{k:HK}(h1:p'.who=p.who)(h2:p'.x=p.x)(h3:p'.k=p.k)(h4:p'.s=p.s)(x:ActF F q mq al p fv k):ActF F q mq al p' fv k:=by
 cases k<;>simpa only[ActF,h1,h2,h3,h4] using x
def hpC (p:HP)(av ev:Value):List Value:=[.int .i64 p.placed,av,.int .i64 p.at_,.int .u64 p.t.now,.int .u64 p.t.seq,.bool p.t.closed,.int .i64 p.rep.err,.slice none 0 0,ev,.bool p.rep.lost]
structure HPX (T:Tags)(h:Heap)(g:Tag)(q mq al n:Nat)(p:HP)(av ev:Value)(fv cv:Nat→Value)(evl:List Evt):Prop where
 hp:h q=some (.cells (hpC p av ev).toArray qaGZ (0,0))
 tp:T q=g++[0]
 ac:Rw T h (g++[1]) 2 qhzZ av n (seqF n fun j=>[.int .i64 (p.kd j).need,fv j])
 fn:∀ j,j<n→ActF (fz T h) q mq al p (fv j) (p.kd j)
 al:p.poll=true→h al=some (.cells ((List.range p.k).map cv).toArray qlZ (0,0))∧T al=g++[2]
 av:p.poll=true→∀ i,i<p.k→Sl 8 EvR (fz T h) (cv i) (p.all.getD i [])
 ev:Sl 8 EvR (fz T h) ev evl
def HPB (T:Tags)(h:Heap)(g:Tag)(q mq al n:Nat)(p:HP):Prop:=∃ av ev fv cv,HPX T h g q mq al n p av ev fv cv []
def HPR (T:Tags)(h:Heap)(g:Tag)(q mq:Nat)(p:HP):Prop:=HPI p∧(∀ l∈p.all,l.length≤16)∧∃ al av ev fv cv,HPX T h g q mq al p.steps p av ev fv cv (if p.done then p.rep.evs else [])
theorem HPX.kp {U:Tag→Prop}{T T':Tags}{h h':Heap}{g:Tag}{q mq al n:Nat}{p:HP}{av ev:Value}{fv cv:Nat→Value}{evl:List Evt}(x:HPX T h g q mq al n p av ev fv cv evl)(k:Kp U T h T' h')(o:Off U g)(u:¬ U []):HPX T' h' g q mq al n p av ev fv cv evl :=
 ⟨(k.at x.hp x.tp (o.at _)).1,(k.at x.hp x.tp (o.at _)).2,x.ac.kp k (o.at _),fun j hj=>(x.fn j hj).ext (k.ext u),fun hp=>k.at (x.al hp).1 (x.al hp).2 (o.at _),fun hp i hi=>(x.av hp i hi).ext (@EvR.ext) (k.ext u),x.ev.ext (@EvR.ext) (k.ext u)⟩
theorem HPB.kp {U:Tag→Prop}{T T':Tags}{h h':Heap}{g:Tag}{q mq al n:Nat}{p:HP}(x:HPB T h g q mq al n p)(k:Kp U T h T' h')(o:Off U g)(u:¬ U []):HPB T' h' g q mq al n p:=by
 obtain⟨av,ev,fv,cv,x⟩:=x
 exact⟨av,ev,fv,cv,x.kp k o u⟩
theorem HPR.kp {U:Tag→Prop}{T T':Tags}{h h':Heap}{g:Tag}{q mq:Nat}{p:HP}(x:HPR T h g q mq p)(k:Kp U T h T' h')(o:Off U g)(u:¬ U []):HPR T' h' g q mq p:=by
 obtain⟨i,l,al,av,ev,fv,cv,x⟩:=x
 exact⟨i,l,al,av,ev,fv,cv,x.kp k o u⟩
theorem HPB.hpr {T:Tags}{h:Heap}{g:Tag}{q mq al:Nat}{p:HP}(x:HPB T h g q mq al p.steps p)(i:HPI p)(h0:p.all=[])(hd:p.done=false):HPR T h g q mq p:=by
 obtain⟨av,ev,fv,cv,x⟩:=x
 exact⟨i,by rw[h0]; simp,al,av,ev,fv,cv,by rw[hd]; exact x⟩
theorem HPX.st {T:Tags}{h:Heap}{g:Tag}{q mq al n:Nat}{p p':HP}{av ev ev':Value}{fv cv:Nat→Value}{evl:List Evt}(x:HPX T h g q mq al n p av ev fv cv evl)(w:Wf T h){c:Array Value}(hc:c=(hpC p' av ev').toArray)(h1:p'.who=p.who)(h2:p'.x=p.x)(h3:p'.k=p.k)(h4:p'.s=p.s){evl':List Evt}(h5:p'.all=p.all)
  (h6:Sl 8 EvR (fz T h) ev' evl') :
  Only (fun t=>t=g++[0]) T h T (upd h q (.cells c qaGZ (0,0)))∧HPX T (upd h q (.cells c qaGZ (0,0))) g q mq al n p' av ev' fv cv evl':=by
 have o:Only (fun t=>t=g++[0]) T h T (upd h q (.cells c qaGZ (0,0))):=Only.upd w x.hp x.tp
 have u:¬ (fun t=>t=g++[0]) ([]:Tag):=by simp
 have hpo:p'.poll=p.poll:=by simp only[HP.poll,HP.one,h2]
 refine⟨o,by rw[upd_same',hc],x.tp,?_,fun j hj=>?_,fun hp=>?_,fun hp i hi=>?_,h6.ext (@EvR.ext) (o.ext u)⟩
 ·have:(seqF n fun j=>[.int .i64 (p'.kd j).need,fv j])=seqF n fun j=>[.int .i64 (p.kd j).need,fv j]:=seqF_congr fun j _=>by rw[HP.kd_congr h2 h3 h4]
  rw[this]
  exact x.ac.kp o.k (by simp)
 ·rw[HP.kd_congr h2 h3 h4]
  exact ((x.fn j hj).ext (o.ext u)).congr h1 h2 h3 h4
 ·rw[hpo] at hp
  rw[h3]
  exact o.k.at (x.al hp).1 (x.al hp).2 (by simp)
 ·rw[hpo] at hp
  rw[h5]
  exact (x.av hp i (by omega)).ext (@EvR.ext) (o.ext u)
theorem bdHAct (n:Int)(f:FuncId)(a b:Array Value):bdV (binf P qhzZ) [(0,.int .i64 n),(1,.func (.func f) a b)]=some (.agg #[.int .i64 n,.func (.func f) a b]):=by kernel_rfl
theorem bsHAct:bsI P qemZ=some (qhzZ,2,#[.int .i64 0,.nilFunc]):=by kernel_rfl
theorem unHAct:P.underlying qemZ=some (.slice qhzZ):=by kernel_rfl
theorem apHAct:apC P qhzZ=some (2,16,2):=by kernel_rfl
variable {K:KTy}
@[simp] theorem one_fnv (f:Fn)(a b:Array Value):(Value.func f a b).oneCell'=true:=rfl
theorem hadd_ok {T:Tags}{h:Heap}{g:Tag}{q mq al n:Nat}{p:HP}(w:Wf T h)(gg:Gd g)(x:HPB T h g q mq al n p)(hn:n<1000)(f:FuncId)(cap:Array Value)(hf:ActF (fz T h) q mq al p (.func (.func f) #[] cap) (p.kd n))
  (hk:∀ T' h',Only (pre g) T h T' h'→HPB T' h' g q mq al (n+1) p→K (.tuple #[]) h'):callM P qbuZ #[ptr q,.int .i64 (p.kd n).need,.func (.func f) #[] cap] h K:=by
 apply quOZ
 unfold qmaZ
 obtain⟨av,ev,fv,cv,x⟩:=x
 have cp:=x.hp
 simp -implicitDefEqProofs only[hpC] at cp
 simp -implicitDefEqProofs[ld_at cp,cel_of cp,stm_at cp,stm_upd,ld_same,cel_same,over,bdHAct]
 refine Rw.app bsHAct unHAct apHAct (by omega) (by simp) (by simp) w x.ac (by simp[maxLen]; omega) (by omega) (by omega) (by simp) fun a v' T1 h1 o1 r1=>?_
 have u1:¬ (fun t=>t=g++[1]) ([]:Tag):=by simp
 have b:=o1.k.at x.hp x.tp (by simp)
 have cp:=b.1
 simp -implicitDefEqProofs only[hpC] at cp
 have o2:Only (fun t=>t=g++[0]) T1 h1 T1 (upd h1 q (.cells (hpC p v' ev).toArray qaGZ (0,0))):=Only.upd o1.wf b.1 b.2
 have u2:¬ (fun t=>t=g++[0]) ([]:Tag):=by simp
 have ho:=r1.one
 rw[stm_at (n:=1) (v:=v') cp (by simp[ho.2]) (by simp) (by simp[ho.1,ho.2])]
 have hov:over #[.int .i64 p.placed,av,.int .i64 p.at_,.int .u64 p.t.now,.int .u64 p.t.seq,.bool p.t.closed,.int .i64 p.rep.err,.slice none 0 0,ev,.bool p.rep.lost] 1 v'.cells.toList=(hpC p v' ev).toArray:=by
  rw[r1.one.2]; simp[over,hpC]
 rw[hov]
 have uu:¬ pre g ([]:Tag):=gg.nil
 have oo:Only (pre g) T h T1 (upd h1 q (.cells (hpC p v' ev).toArray qaGZ (0,0))):=(o1.mono fun _ hh=>eq_pre hh).trans (o2.mono fun _ hh=>eq_pre hh)
 refine hk T1 _ oo ⟨v',ev,fun j=>if j=n then .func (.func f) #[] cap else fv j,cv,by rw[upd_same'],b.2,?_,fun j hj=>?_,fun hp=>?_,fun hp i hi=>(x.av hp i hi).ext (@EvR.ext) (oo.ext uu),x.ev.ext (@EvR.ext) (oo.ext uu)⟩
 ·have e1:(seqF (n+1) fun j=>[.int .i64 (p.kd j).need,if j=n then .func (.func f) #[] cap else fv j])=(seqF n fun j=>[.int .i64 (p.kd j).need,fv j])++[.int .i64 (p.kd n).need,.func (.func f) #[] cap]:=by
   rw[seqF_succ]
   congr 1
   ·exact seqF_congr fun j hj=>by rw[if_neg (by omega)]
   ·simp -implicitDefEqProofs
  rw[e1]
  exact r1.kp o2.k (by simp)
 ·by_cases hjn:j=n
  ·subst hjn
   simp -implicitDefEqProofs only[if_true]
   exact hf.ext (oo.ext uu)
  ·simp -implicitDefEqProofs only[if_neg hjn]
   exact (x.fn j (by omega)).ext (oo.ext uu)
 ·have a1:=o1.k.at (x.al hp).1 (x.al hp).2 (by simp)
  exact o2.k.at a1.1 a1.2 (by simp)
theorem hplain_ok {T:Tags}{h:Heap}{g:Tag}{q mq al n:Nat}{p:HP}(w:Wf T h)(gg:Gd g)(x:HPB T h g q mq al n p)(hn:n<1000)(f:FuncId)(cap:Array Value)(hne:(p.kd n).need = -1)
  (hf:∀ F fv,Ext (fz T h) F→PlB F fv f cap→ActF F q mq al p fv (p.kd n)) {K:KTy}
  (hk:∀ T' h',Only (pre g) T h T' h'→HPB T' h' g q mq al (n+1) p→K (.tuple #[]) h'):callM P qbAZ #[ptr q,.func (.func f) #[] cap] h K:=by
 apply quoZ
 unfold qjyZ
 refine nw_intro fun v1 h1 n1 e1 c1=>?_
 have o1:Only non T h T h1:=Only.of_ext w e1
 have c1':fz T h1 v1=some (.cells #[.func (.func f) #[] cap] qgjZ (0,0)):=fz_at c1 (w v1 n1)
 simp -implicitDefEqProofs only[ov_s]
 rw[← hne]
 exact hadd_ok o1.wf gg (x.kp o1.k (Off.non _) (not_non _)) hn _ _ (hf _ _ (fz_of_ext e1) ⟨v1,rfl,c1'⟩) fun T' h' o' x'=>hk T' h' ((o1.mono non_up).trans o') x'
theorem hlocked_ok {T:Tags}{h:Heap}{g:Tag}{q mq al n s:Nat}{p:HP}(w:Wf T h)(gg:Gd g)(x:HPB T h g q mq al n p)(hn:n<1000)(hkd:p.kd n = .lock s)
  (hk:∀ T' h',Only (pre g) T h T' h'→HPB T' h' g q mq al (n+1) p→K (.tuple #[]) h'):callM P qeNZ #[ptr q,.int .i64 p.who,.int .i64 s] h K:=by
 apply qtKZ
 unfold qiOZ
 refine nw_intro fun v1 h1 n1 e1 c1=>?_
 refine nw_intro fun v3 h3 n3 e3 c3=>?_
 have o1:Only non T h T h3:=Only.of_ext w (e1.trans e3)
 have c1:=e3 _ _ c1
 simp -implicitDefEqProofs[ld_at c3,cel_of c3,stm_at c3,stm_upd,ld_same,cel_same,over]
 have n3':h v3=none:=fresh_of e1 n3
 have hne:(p.kd n).need=s:=by rw[hkd]; rfl
 rw[← hne]
 refine hadd_ok o1.wf gg (x.kp o1.k (Off.non _) (not_non _)) hn _ _ ?_ fun T' h' o' x'=>hk T' h' ((o1.mono non_up).trans o') x'
 rw[hkd]
 exact⟨v1,v3,rfl,fz_at c1 (w v1 n1),fz_at c3 (w v3 n3')⟩
theorem hlook_ok {T:Tags}{h:Heap}{g:Tag}{q mq al n:Nat}{p:HP}(w:Wf T h)(gg:Gd g)(x:HPB T h g q mq al n p)(hn:n<1000)(hkd:p.kd n = .look)
  (hk:∀ T' h',Only (pre g) T h T' h'→HPB T' h' g q mq al (n+1) p→K (.tuple #[]) h'):callM P qgbZ #[ptr q,.int .i64 p.who] h K:=by
 apply quKZ
 unfold qkKZ
 refine nw_intro fun v1 h1 n1 e1 c1=>?_
 refine nw_intro fun v3 h3 n3 e3 c3=>?_
 have o1:Only non T h T h3:=Only.of_ext w (e1.trans e3)
 have c1:=e3 _ _ c1
 simp -implicitDefEqProofs[ld_at c1,cel_of c1,stm_at c1,stm_upd,ld_same,cel_same,over]
 have n3':h v3=none:=fresh_of e1 n3
 have hne:(p.kd n).need = -1:=by rw[hkd]; rfl
 rw[← hne]
 refine hadd_ok o1.wf gg (x.kp o1.k (Off.non _) (not_non _)) hn _ _ ?_ fun T' h' o' x'=>hk T' h' ((o1.mono non_up).trans o') x'
 rw[hkd]
 exact⟨v3,v1,rfl,fz_at c3 (w v3 n3'),fz_at c1 (w v1 n1)⟩
theorem hedone_ok {T:Tags}{h:Heap}{g:Tag}{q mq:Nat}{p:HP}(x:HPR T h g q mq p)(hk:K (.bool p.done) h):callM P qanZ #[ptr q] h K:=by
 apply quAZ
 unfold qkyZ
 obtain⟨hi,hl,al,av,ev,fv,cv,x⟩:=x
 have cp:=x.hp
 simp -implicitDefEqProofs only[hpC] at cp
 simp -implicitDefEqProofs[ld_at cp,cel_of cp,stm_at cp,stm_upd,ld_same,cel_same,over,x.ac.len]
 refine kb (a:=p.done) hk ?_
 simp -implicitDefEqProofs[HP.done]
theorem heplaced_ok {T:Tags}{h:Heap}{g:Tag}{q mq:Nat}{p:HP}(x:HPR T h g q mq p)(hk:K (.int .i64 p.placed) h):callM P qcvZ #[ptr q] h K:=by
 apply qtxZ
 unfold qiHZ
 obtain⟨hi,hl,al,av,ev,fv,cv,x⟩:=x
 have cp:=x.hp
 simp -implicitDefEqProofs only[hpC] at cp
 simp -implicitDefEqProofs[ld_at cp,cel_of cp,stm_at cp,stm_upd,ld_same,cel_same,over]
 exact hk
theorem hewaits_ok {T:Tags}{h:Heap}{g:Tag}{q mq:Nat}{p:HP}(x:HPR T h g q mq p)(hk:K (.int .i64 p.waits) h):callM P qfzZ #[ptr q] h K:=by
 apply qufZ
 unfold qjpZ
 refine hedone_ok x ?_
 unfold qnGZ
 cases hd:p.done with
 | true=>simp; exact kv hk (by simp[HP.waits,hd])
 | false =>
  simp -implicitDefEqProofs
  unfold qnFZ
  obtain⟨hi,hl,al,av,ev,fv,cv,x⟩:=x
  have cp:=x.hp
  simp -implicitDefEqProofs only[hpC] at cp
  have hlt:p.at_<p.steps:=by simpa [HP.done] using hd
  obtain⟨b,rb,ia⟩:=x.ac.1.ia (k:=.i64) hlt
  have hcl:cel h b (p.at_*2)=some (.int .i64 (p.kd p.at_).need):=by
   have h1:=x.ac.1.cels rb (o:=p.at_*2) (m:=2) (by omega)
   rw[seqF_at (sz:=2) (fun i _=>rfl) hlt] at h1
   exact (cels_get h1).2 0 (by simp)
  simp -implicitDefEqProofs[ld_at cp,cel_of cp,stm_at cp,stm_upd,ld_same,cel_same,over,ia,hcl]
  exact kv hk (by simp[HP.waits,hd,HP.kd_need p p.at_ hlt rfl])
theorem heenabled_ok {T:Tags}{h:Heap}{g gh:Tag}{q mq hp:Nat}{p:HP}{H:Hall}(x:HPR T h g q mq p)(y:HallR T h gh hp H)(hg:HPG H.n p)(hk:∀ h',Ext h h'→K (.bool (p.enabled H)) h'):callM P qgvZ #[ptr q,ptr hp] h K:=by
 apply qsTZ
 unfold qhNZ
 refine hedone_ok x ?_
 unfold qlhZ
 cases hd:p.done with
 | true =>
  simp -implicitDefEqProofs
  exact kb (hk h (Ext.refl h)) (by simp[HP.enabled,hd])
 | false =>
  simp -implicitDefEqProofs
  refine hewaits_ok x ?_
  have hwt:p.waits=p.needs:=by simp[HP.waits,hd]
  rw[hwt]
  by_cases hneg:p.needs<0
  ·simp -implicitDefEqProofs[hneg]
   exact kb (hk h (Ext.refl h)) (by simp[HP.enabled,hd,hneg])
  ·simp -implicitDefEqProofs[hneg]
   refine hewaits_ok x ?_
   rw[hwt]
   obtain⟨s,hs,hsn⟩:∃ s:Nat,p.needs=s∧s<H.n:=by
    unfold HP.needs at hneg ⊢
    have hk':=hg.k
    have hs':=hg.s
    split at hneg
    ·omega
    ·rename_i h1
     rw[if_neg h1]
     split at hneg
     ·rename_i h8
      rw[if_pos h8]
      split at hneg
      ·rename_i hlt; rw[if_pos hlt]; exact⟨_,rfl,by omega⟩
      ·omega
     ·rename_i h8
      rw[if_neg h8]
      split at hneg
      ·rename_i h0; rw[if_pos h0]; exact⟨_,rfl,by omega⟩
      ·omega
   rw[hs]
   refine free_ok y hsn fun h' e'=>?_
   exact kb (hk h' e') (by rw[hs] at hneg; simp[HP.enabled,hd,hs,hneg])
end Go.Proofs.YtcnphhhcknhhaaaGreat
namespace Go.Proofs.YtcnphhhcknhhaaaGreat
open Go Go.Den Go.MapKept
set_option linter.unusedSimpArgs false
set_option linter.unusedVariables false
set_option maxRecDepth 20000
theorem mpMine:mpC P qaFZ=some (qRZ,.string,.bool false):=by kernel_rfl
theorem unMine:P.underlying qaFZ=some (.map qRZ qgiZ):=by kernel_rfl
theorem bdMine (r:Option Nat):bdV (binf P qlUZ) [(0,.map r)]=some (.agg #[.map r]):=by kernel_rfl
variable {K:KTy}
theorem newMine_ok {T:Tags}{h:Heap}{g:Tag}(w:Wf T h)(gg:Gd g)(hk:∀ T' h' q,Only non T h T' h'→h q=none→MineR T' h' g q []→K (ptr q) h'):callM P qhZZ #[] h K:=by
 apply quYZ
 unfold qorZ
 refine mi_new mpMine fun r h1 n1 e1 m1=>?_
 obtain⟨es,ck,cr,mr⟩:=m1.e
 have o1:Only non T h (tset T r (g++[1])) h1:=Only.enew _ w e1 n1 cr
 simp -implicitDefEqProofs[bdMine]
 refine nw_tag o1.wf (g++[0]) fun q T2 h2 n2 o2 t2 c2=>?_
 have b:=o2.k.at cr (tset_same T r (g++[1])) (not_non _)
 have nq:h q=none:=fresh_of e1 n2
 exact hk T2 h2 q (o1.trans o2) nq ⟨r,c2,t2,⟨es,ck,b.1,mr⟩,b.2⟩
theorem mcount_ok {T:Tags}{h:Heap}{g:Tag}{q:Nat}{m:Mine}(x:MineR T h g q m)(hk:K (.int .i64 m.length) h):callM P qinZ #[ptr q] h K:=by
 apply qtZZ
 unfold qjjZ
 obtain⟨r,c1,t1,m1,t2⟩:=x
 simp -implicitDefEqProofs[ld_at c1,cel_of c1,stm_at c1,stm_upd,ld_same,cel_same,over]
 exact mi_len unMine m1 hk
theorem mhas_ok {T:Tags}{h:Heap}{g:Tag}{q:Nat}{m:Mine}(x:MineR T h g q m)(u:ByteArray)(hk:K (.bool (mhas m u)) h):callM P qkrZ #[ptr q,.string u] h K:=by
 apply quMZ
 unfold qlVZ
 obtain⟨r,c1,t1,m1,t2⟩:=x
 simp -implicitDefEqProofs[ld_at c1,cel_of c1,stm_at c1,stm_upd,ld_same,cel_same,over]
 exact mi_has mpMine m1 hk
theorem mset_ok {T:Tags}{h:Heap}{g:Tag}{q:Nat}{m:Mine}(w:Wf T h)(gg:Gd g)(x:MineR T h g q m)(u:ByteArray)(on:Bool)(hk:∀ h',Only (pre g) T h T h'→MineR T h' g q (miset m u on)→K (.tuple #[]) h'):callM P qkuZ #[ptr q,.string u,.bool on] h K:=by
 apply quTZ
 unfold qmtZ
 obtain⟨r,c1,t1,m1,t2⟩:=x
 obtain⟨es,ck,cr,mr⟩:=m1.e
 have ne:q≠r:=fun e=>by subst e; rw[c1] at cr; cases cr
 have fin:∀ h',(∀ b,b≠r→h' b=h b)→MiR h' r (miset m u on)→K (.tuple #[]) h':=fun h' k m'=>by
  obtain⟨es',ck',cr',mr'⟩:=m'.e
  have e:h'=upd h r (.map es' ck'):=upd_of k cr'
  refine hk h' ?_ ⟨r,by rw[k q ne]; exact c1,t1,m',t2⟩
  rw[e]
  exact Only.upd w cr (by rw[t2]; exact pre_app _ _)
 cases on with
 | true =>
  simp -implicitDefEqProofs
  unfold qpPZ
  simp -implicitDefEqProofs[ld_at c1,cel_of c1,stm_at c1,stm_upd,ld_same,cel_same,over]
  exact mi_set mpMine m1 fin
 | false =>
  simp -implicitDefEqProofs
  unfold qpQZ
  simp -implicitDefEqProofs[ld_at c1,cel_of c1,stm_at c1,stm_upd,ld_same,cel_same,over]
  exact mi_del mpMine m1 fin
def HPR0 (T:Tags)(h:Heap)(g:Tag)(q:Nat)(p:HP):Prop:=h q=some (.cells (hpC p (.slice none 0 0) (.slice none 0 0)).toArray qaGZ (0,0))∧T q=g++[0]∧p.all=[]∧p.rep.evs=[]
theorem HPR0.hpb {T:Tags}{h:Heap}{g:Tag}{q:Nat}{p:HP}(x:HPR0 T h g q p)(hp:p.poll=false)(mq:Nat):HPB T h g q mq 0 0 p:=by
 refine⟨.slice none 0 0,.slice none 0 0,fun _=>.nilFunc,fun _=>.nilFunc,x.1,x.2.1,?_,fun j hj=>by omega,fun h=>(by rw[hp] at h; cases h),fun h=>(by rw[hp] at h; cases h),?_⟩
 ·exact Rw.nil _ _ _ _ _
 ·exact .inl ⟨rfl,_,_,rfl⟩
theorem hwat_ok {T:Tags}{h:Heap}{g gh:Tag}{q mq hp:Nat}{p:HP}{H:Hall}(w:Wf T h)(gg:Gd g)(d2:Off (pre g) gh)(x:HPB T h g q mq 0 0 p)(y:HallR T h gh hp H)(hc:1≤H.c.stripes∧H.c.stripes≤8)(hb:badB p.x=false)(h9:p.x.kind≠9)(h8:p.x.kind≠8)
  (hs:p.s=(stripeOf p.x.user H.c.stripes).toNat) (hu:p.x.user.size≤maxLen) {uv:Value} (ou:One uv) {K:KTy}
  (hk:∀ T' h',Only (pre g) T h T' h'→HPB T' h' g q mq 0 4 p→K (.tuple #[]) h'):callM P qivZ #[ptr q,ptr hp,ptr mq,.int .i64 p.who,.agg (opC p.x uv).toArray] h K:=by
 have k0:p.kd 0 = .lock p.s:=by simp[HP.kd,hb,h9,h8]
 have k1:p.kd 1 = .look:=by simp[HP.kd,hb,h9,h8]
 have k2:p.kd 2 = .wat:=by simp[HP.kd,hb,h9,h8]
 have k3:p.kd 3 = .unl p.s:=by simp[HP.kd,hb,h9,h8]
 apply quiZ
 unfold qjsZ
 refine nw_intro fun v1 h1 n1 e1 c1=>?_
 refine nw_intro fun v3 h3 n3 e3 c3=>?_
 refine nw_intro fun v5 h5 n5 e5 c5=>?_
 refine nw_agg fun v7 h7 n7 e7 c7=>?_
 have e07:=((e1.trans e3).trans e5).trans e7
 have o7:Only non T h T h7:=Only.of_ext w e07
 have b7:cel h7 v7 1=some (.string p.x.user):=by simp[cel_of c7,opC]
 simp -implicitDefEqProofs[b7]
 refine hstripe_ok p.x.user hu (y.up o7 (Off.non _) (not_non _)) hc.2 ?_
 unfold qnTZ
 have hsi:stripeOf p.x.user H.c.stripes=(p.s:Int):=by have:=stripeOf_lt (u:=p.x.user) (n:=H.c.stripes) hc.1; omega
 rw[hsi,zcInt]
 refine nw_st rfl rfl (by simp) fun v13 h13 n13 e13 c13=>?_
 have b13:cel h13 v7 0=some (.int .i64 p.x.kind):=by simp[cel_of (e13 _ _ c7),opC]
 simp -implicitDefEqProofs[b13]
 have zcBool:zc P qgiZ=some #[.bool false]:=by kernel_rfl
 rw[zcBool]
 refine nw_st rfl rfl (by simp) fun v19 h19 n19 e19 c19=>?_
 have e09:=(e07.trans e13).trans e19
 have o9:Only non T h T h19:=Only.of_ext w e09
 have T1:h19 v1=some (.cells #[ptr q] qwZ (0,0))∧T v1=[]:=⟨e19 _ _ (e13 _ _ (e7 _ _ (e5 _ _ (e3 _ _ c1)))),w v1 n1⟩
 have T3:h19 v3=some (.cells #[ptr mq] qaiZ (0,0))∧T v3=[]:=⟨e19 _ _ (e13 _ _ (e7 _ _ (e5 _ _ c3))),w v3 (fresh_of e1 n3)⟩
 have T5:h19 v5=some (.cells #[.int .i64 p.who] qjZ (0,0))∧T v5=[]:=⟨e19 _ _ (e13 _ _ (e7 _ _ c5)),w v5 (fresh_of (e1.trans e3) n5)⟩
 have T7:h19 v7=some (.cells (opC p.x uv).toArray qxZ (0,0))∧T v7=[]:=⟨e19 _ _ (e13 _ _ c7),w v7 (fresh_of ((e1.trans e3).trans e5) n7)⟩
 have T13:h19 v13=some (.cells #[.int .i64 p.s] qjZ (0,0))∧T v13=[]:=⟨e19 _ _ c13,w v13 (fresh_of e07 n13)⟩
 have T19:h19 v19=some (.cells #[.bool (decide (p.x.kind=6))] qgiZ (0,0))∧T v19=[]:=⟨by simpa using c19,w v19 (fresh_of (e07.trans e13) n19)⟩
 have c1:=T1.1
 have c5:=T5.1
 have c13:=T13.1
 simp -implicitDefEqProofs[ld_at c1,cel_of c1,stm_at c1,ld_at c5,cel_of c5,stm_at c5,ld_at c13,cel_of c13,stm_at c13,stm_upd,ld_same,cel_same,over]
 refine hlocked_ok o9.wf gg (x.kp o9.k (Off.non _) (not_non _)) (by omega) k0 fun Ta ha oa xa=>?_
 unfold qnSZ
 have c1:=(oa.see T1 gg.nil).1
 have c5:=(oa.see T5 gg.nil).1
 simp -implicitDefEqProofs[ld_at c1,cel_of c1,stm_at c1,ld_at c5,cel_of c5,stm_at c5,stm_upd,ld_same,cel_same,over]
 refine hlook_ok oa.wf gg xa (by omega) k1 fun Tb hb' ob xb=>?_
 have oab:=oa.trans ob
 unfold qnRZ
 have c1:=(oab.see T1 gg.nil).1
 simp -implicitDefEqProofs[ld_at c1,cel_of c1,stm_at c1,stm_upd,ld_same,cel_same,over]
 refine hplain_ok ob.wf gg xb (by omega) _ _ (by rw[k2]; rfl) (fun F fv e pl=>?_) fun Tc hc' oc xc=>?_
 ·rw[k2]
  have ff:∀ {b o},h19 b=some o∧T b=[]→F b=some o:=fun {b o} hh=>e _ _ (fz_at (oab.see hh gg.nil).1 (oab.see hh gg.nil).2)
  exact⟨v1,v19,v3,v7,v5,v13,uv,pl,ff T1,ff T19,ff T3,ff T7,ff T5,ff T13⟩
 have oabc:=oab.trans oc
 unfold qnQZ
 have c1:=(oabc.see T1 gg.nil).1
 simp -implicitDefEqProofs[ld_at c1,cel_of c1,stm_at c1,stm_upd,ld_same,cel_same,over]
 refine hplain_ok oc.wf gg xc (by omega) _ _ (by rw[k3]; rfl) (fun F fv e pl=>?_) fun Td hd' od xd=>?_
 ·rw[k3]
  have ff:∀ {b o},h19 b=some o∧T b=[]→F b=some o:=fun {b o} hh=>e _ _ (fz_at (oabc.see hh gg.nil).1 (oabc.see hh gg.nil).2)
  exact⟨v5,v13,pl,ff T5,ff T13⟩
 exact hk _ _ ((o9.mono non_up).trans (oabc.trans od)) xd
theorem unSlSlEv:P.underlying qyZ=some (.slice qlZ):=by kernel_rfl
theorem apSlEv:apC P qlZ=some (1,24,1):=by kernel_rfl
theorem zcSlSlEv:zc P qyZ=some #[.slice none 0 0]:=by kernel_rfl
theorem made_one (v:Value)(n:Nat):madeCells #[v] (n*1)=((List.range n).map fun _=>v).toArray:=by
 apply Array.ext
 ·simp -implicitDefEqProofs[madeCells]
 ·intro i h1 h2
  simp -implicitDefEqProofs[madeCells,Nat.mod_one]
def PoI (T0:Tags)(h0:Heap)(g:Tag)(q mq al:Nat)(p:HP)(v1 v3 v8 v14:Nat)(n:Nat)(h':Heap):Prop :=
 ∃ T',Only (pre g) T0 h0 T' h'∧HPB T' h' g q mq al n p∧(h' v1=some (.cells #[ptr q] qwZ (0,0))∧T' v1=[])∧(h' v3=some (.cells #[.int .i64 p.who] qjZ (0,0))∧T' v3=[]) ∧
  (h' v8=some (.cells #[.int .i64 p.k] qjZ (0,0))∧T' v8=[])∧(h' v14=some (.cells #[.slice (some ⟨al,0,none⟩) p.k p.k] qyZ (0,0))∧T' v14=[])
theorem PoI.go {T0:Tags}{h0:Heap}{g:Tag}{q mq al:Nat}{p:HP}{v1 v3 v8 v14:Nat}{T' T'':Tags}{h' h'':Heap}{m:Nat}(gg:Gd g)(o0:Only (pre g) T0 h0 T' h')(a1:h' v1=some (.cells #[ptr q] qwZ (0,0))∧T' v1=[])(a3:h' v3=some (.cells #[.int .i64 p.who] qjZ (0,0))∧T' v3=[])
  (a8:h' v8=some (.cells #[.int .i64 p.k] qjZ (0,0))∧T' v8=[]) (a14:h' v14=some (.cells #[.slice (some ⟨al,0,none⟩) p.k p.k] qyZ (0,0))∧T' v14=[]) (o:Only (pre g) T' h' T'' h'') (x:HPB T'' h'' g q mq al m p):PoI T0 h0 g q mq al p v1 v3 v8 v14 m h'' :=
 ⟨T'',o0.trans o,x,o.see a1 gg.nil,o.see a3 gg.nil,o.see a8 gg.nil,o.see a14 gg.nil⟩
theorem hpoll_ok {T : Tags} {h : Heap} {g gh : Tag} {q mq hp : Nat} {p : HP} {H : Hall} (w : Wf T h) (gg : Gd g) (d2 : Off (pre g) gh) (x : HPR0 T h g q p) (y : HallR T h gh hp H) (hc : H.c.stripes = p.k) (hk8 : p.k ≤ 8) (hb : badB p.x = false) (h8 : p.x.kind = 8)
    (hk : ∀ T' h' al, Only (pre g) T h T' h' → HPB T' h' g q mq al p.steps p → K (.tuple #[]) h') : callM P qjiZ #[ptr q, ptr hp, .int .i64 p.who] h K := by
  have h9 : p.x.kind ≠ 9 := by omega
  have hone : p.one = false := by simp [HP.one, hb, h9]
  have hst : p.steps = 3 * p.k + 1 := by simp [HP.steps, hone, h8]
  have k0 : ∀ j, j < p.k → p.kd j = .lock j := fun j hj => by simp [HP.kd, hb, h8, hj]
  have k1 : p.kd p.k = .look := by simp [HP.kd, hb, h8]
  have k2 : ∀ j, j < p.k → p.kd (p.k + 1 + j) = .drn j := fun j hj => by
    have e1 : ¬ p.k + 1 + j < p.k := by omega
    have e2 : ¬ p.k + 1 + j = p.k := by omega
    have e3 : p.k + 1 + j ≤ 2 * p.k := by omega
    have e4 : p.k + 1 + j - p.k - 1 = j := by omega
    simp -implicitDefEqProofs only [HP.kd, hb, h8, e1, e2, e3, e4, if_true, if_false, Bool.false_eq_true]
    simp -implicitDefEqProofs
  have k3 : ∀ j, j < p.k → p.kd (2 * p.k + 1 + j) = .pun j := fun j hj => by
    have e1 : ¬ 2 * p.k + 1 + j < p.k := by omega
    have e2 : ¬ 2 * p.k + 1 + j = p.k := by omega
    have e3 : ¬ 2 * p.k + 1 + j ≤ 2 * p.k := by omega
    have e4 : 2 * p.k + 1 + j - 2 * p.k - 1 = j := by omega
    simp -implicitDefEqProofs only [HP.kd, hb, h8, e1, e2, e3, e4, if_true, if_false, Bool.false_eq_true]
    simp -implicitDefEqProofs
  have hpo : p.poll = true := by simp [HP.poll, hone, h8]
  apply quHZ
  unfold qkGZ
  refine nw_intro fun v1 h1 n1 e1 c1 => ?_
  refine nw_intro fun v3 h3 n3 e3 c3 => ?_
  have o3 : Only non T h T h3 := Only.of_ext w (e1.trans e3)
  refine config_ok (y.up o3 (Off.non _) (not_non _)) fun h5 e5 => ?_
  unfold qpiZ
  rw [zcInt]
  simp -implicitDefEqProofs [fdV, cfgC, hc]
  refine nw_st (v := .int .i64 p.k) rfl rfl (by simp) fun v8 h6 n6 e6 c6 => ?_
  simp -implicitDefEqProofs [ld_at c6, cel_of c6, stm_at c6, stm_upd, ld_same, cel_same, over]
  refine makeSlice_vv unSlSlEv apSlEv zcSlEv (n := p.k) (by omega) (by omega) (by unfold maxLen; omega) fun al h7 n7 e7 c7 => ?_
  unfold qphZ
  rw [zcSlSlEv]
  refine nw_st (v := .slice (some ⟨al, 0, none⟩) p.k p.k) rfl rfl (by simp) fun v14 h9 n9 e9 c9 => ?_
  have e06 := ((e1.trans e3).trans e5).trans e6
  have e08 := (e06.trans e7).trans e9
  have n7' : h al = none := fresh_of e06 n7
  have c7 := e9 _ _ c7
  have oT : Only non T h (tset T al (g ++ [2])) h9 := Only.enew _ w e08 n7' c7
  have ne : ∀ b, b ≠ al → h b = none → (tset T al (g ++ [2])) b = [] := fun b hb hn => by rw [tset_ne hb]; exact w b hn
  have c8 := e9 _ _ (e7 _ _ c6)
  have m1 : v1 ≠ al := ne_fresh (e6 _ _ (e5 _ _ (e3 _ _ c1))) n7
  have m3 : v3 ≠ al := ne_fresh (e6 _ _ (e5 _ _ c3)) n7
  have m8 : v8 ≠ al := ne_fresh c6 n7
  have m14 : v14 ≠ al := Ne.symm (ne_fresh ‹h7 al = _› n9)
  have I0 : PoI T h g q mq al p v1 v3 v8 v14 0 h9 := by
    refine ⟨tset T al (g ++ [2]), oT.mono non_up, ?_, ⟨e9 _ _ (e7 _ _ (e6 _ _ (e5 _ _ (e3 _ _ c1)))), ne _ m1 n1⟩, ⟨e9 _ _ (e7 _ _ (e6 _ _ (e5 _ _ c3))), ne _ m3 (fresh_of e1 n3)⟩, ⟨c8, ne _ m8 (fresh_of ((e1.trans e3).trans e5) n6)⟩, ⟨c9, ne _ m14 (fresh_of (e06.trans e7) n9)⟩⟩
    have b := oT.k.at x.1 x.2.1 (not_non _)
    refine ⟨.slice none 0 0, .slice none 0 0, fun _ => .nilFunc, fun _ => .slice none 0 0, b.1, b.2, Rw.nil _ _ _ _ _, fun j hj => by omega, fun _ => ⟨?_, tset_same _ _ _⟩, fun _ i hi => ?_, ?_⟩
    · rw [c7, made_one]
    · rw [x.2.2.1]; exact .inl ⟨rfl, _, _, rfl⟩
    · exact .inl ⟨rfl, _, _, rfl⟩
  clear e1 e3 e5 e6 e7 e9 c1 c3 c6 c7 c8 c9 n1 n3 n6 n7 n9 e06 e08 oT
  rw [seqM_eq]
  unfold qpdZ
  have c8 := I0.choose_spec.2.2.2.2.1.1
  simp -implicitDefEqProofs [ld_at c8, cel_of c8, stm_at c8, stm_upd, ld_same, cel_same, over]
  clear c8
  refine loop_on [3, 5, 6, 7, 16] (fun s h' => ∃ i : Nat, PoI T h g q mq al p v1 v3 v8 v14 i h' ∧ s 17 = .int .i64 i ∧ i ≤ p.k) (fun s _ => (p.k - num (s 17)).toNat) ⟨0, I0, rfl, by omega⟩ ?_
  rintro s h' hf ⟨i, ⟨T', oI, xI, a1, a3, a8, a14⟩, s17, hi⟩
  have s3 : s 3 = ptr v1 := by simpa using hf 3 (by simp)
  have s5 : s 5 = ptr v3 := by simpa using hf 5 (by simp)
  have s6 : s 6 = ptr v8 := by simpa using hf 6 (by simp)
  have s7 : s 7 = ptr v14 := by simpa using hf 7 (by simp)
  have s16 : s 16 = .int .i64 p.k := by simpa using hf 16 (by simp)
  unfold qpcZ
  simp -implicitDefEqProofs only [s16, s17, bin_lss, ov_s, cd_b]
  refine ⟨fun hc => ?_, fun hc => ?_⟩
  · have hlt : i < p.k := by have : ((i : Int) < p.k) := by simpa using hc
                             omega
    have hw : IntKind.i64.wrap ((i : Int) + 1) = (i + 1 : Nat) := by rw [wrap64_id (by omega) (by omega)]; omega
    have c1 := a1.1
    have c3 := a3.1
    unfold qpbZ
    simp -implicitDefEqProofs [s3, s5, s17, ld_at c1, cel_of c1, stm_at c1, ld_at c3, cel_of c3, stm_at c3, stm_upd, ld_same, cel_same, over]
    refine hlocked_ok oI.wf gg xI (by omega) (k0 i hlt) fun T2 h2 o2 x2 => ?_
    unfold qpaZ
    simp -implicitDefEqProofs [s3, s5, s6, s7, s16, s17, hw, -Int.natCast_add]
    exact ⟨⟨i + 1, PoI.go gg oI a1 a3 a8 a14 o2 x2, rfl, by omega⟩, by omega⟩
  have hie : i = p.k := by have : ¬ ((i : Int) < p.k) := by simpa using hc
                           omega
  subst hie
  unfold qpgZ
  have c1 := a1.1
  have c3 := a3.1
  simp -implicitDefEqProofs [s3, s5, ld_at c1, cel_of c1, stm_at c1, ld_at c3, cel_of c3, stm_at c3, stm_upd, ld_same, cel_same, over]
  refine hlook_ok oI.wf gg xI (by omega) k1 fun T2 h2 o2 x2 => ?_
  have I2 := PoI.go gg oI a1 a3 a8 a14 o2 x2
  unfold qpfZ
  rw [seqM_eq]
  unfold qpeZ
  have c8 := I2.choose_spec.2.2.2.2.1.1
  simp -implicitDefEqProofs [s6, ld_at c8, cel_of c8, stm_at c8, stm_upd, ld_same, cel_same, over]
  refine loop_on [3, 5, 6, 7, 28] (fun s h' => ∃ i : Nat, PoI T h g q mq al p v1 v3 v8 v14 (p.k + 1 + i) h' ∧ s 29 = .int .i64 i ∧ i ≤ p.k) (fun s _ => (p.k - num (s 29)).toNat) ⟨0, I2, rfl, by omega⟩ ?_
  clear I2 c8 c1 c3 a1 a3 a8 a14 xI oI x2 o2
  rintro r h3 hf3 ⟨i, ⟨T', oI, xI, a1, a3, a8, a14⟩, r29, hi⟩
  have r3 : r 3 = ptr v1 := by simpa [s3] using hf3 3 (by simp)
  have r5 : r 5 = ptr v3 := by simpa [s5] using hf3 5 (by simp)
  have r6 : r 6 = ptr v8 := by simpa [s6] using hf3 6 (by simp)
  have r7 : r 7 = ptr v14 := by simpa [s7] using hf3 7 (by simp)
  have r28 : r 28 = .int .i64 p.k := by simpa using hf3 28 (by simp)
  unfold qnLZ
  simp -implicitDefEqProofs only [r28, r29, bin_lss, ov_s, cd_b]
  refine ⟨fun hc => ?_, fun hc => ?_⟩
  · have hlt : i < p.k := by have : ((i : Int) < p.k) := by simpa using hc
                             omega
    have hw : IntKind.i64.wrap ((i : Int) + 1) = (i + 1 : Nat) := by rw [wrap64_id (by omega) (by omega)]; omega
    unfold qnKZ
    rw [zcInt]
    simp -implicitDefEqProofs only [r29]
    refine nw_st (v := .int .i64 i) rfl rfl (by simp) fun v42 h42 n42 e42 c42 => ?_
    have o42 : Only non T' h3 T' h42 := Only.of_ext oI.wf e42
    have c1 := e42 _ _ a1.1
    simp -implicitDefEqProofs [r3, r5, r7, ld_at c1, cel_of c1, stm_at c1, stm_upd, ld_same, cel_same, over]
    refine hplain_ok o42.wf gg (xI.kp o42.k (Off.non _) (not_non _)) (by omega) _ _ (by rw [k2 i hlt]; rfl) (fun F fv e pl => ?_) fun T2 h2 o2 x2 => ?_
    · rw [k2 i hlt]
      have ff : ∀ {b o}, h3 b = some o ∧ T' b = [] → F b = some o := fun {b o} hh => e _ _ (fz_at (e42 _ _ hh.1) hh.2)
      exact ⟨v3, v42, v14, v1, pl, ff a3, e _ _ (fz_at c42 (oI.wf _ n42)), ff a14, ff a1⟩
    unfold qnJZ
    simp -implicitDefEqProofs [s3, s5, s6, s7, r3, r5, r6, r7, r28, r29, hw, -Int.natCast_add]
    exact ⟨⟨i + 1, PoI.go gg oI a1 a3 a8 a14 ((o42.mono non_up).trans o2) x2, rfl, by omega⟩, by omega⟩
  have hie : i = p.k := by have : ¬ ((i : Int) < p.k) := by simpa using hc
                           omega
  subst hie
  unfold qnPZ
  have c8 := a8.1
  simp -implicitDefEqProofs [r6, ld_at c8, cel_of c8, stm_at c8, stm_upd, ld_same, cel_same, over]
  have I3 : PoI T h g q mq al p v1 v3 v8 v14 (2 * p.k + 1 + 0) h3 := ⟨T', oI, by rw [show 2 * p.k + 1 + 0 = p.k + 1 + p.k by omega]; exact xI, a1, a3, a8, a14⟩
  refine loop_on [3, 5, 6, 7, 36] (fun s h' => ∃ i : Nat, PoI T h g q mq al p v1 v3 v8 v14 (2 * p.k + 1 + i) h' ∧ s 37 = .int .i64 i ∧ i ≤ p.k) (fun s _ => (p.k - num (s 37)).toNat) ⟨0, I3, rfl, by omega⟩ ?_
  clear I3 c8 a1 a3 a8 a14 xI oI
  rintro u h4 hf4 ⟨i, ⟨T', oI, xI, a1, a3, a8, a14⟩, u37, hi⟩
  have u3 : u 3 = ptr v1 := by simpa [r3] using hf4 3 (by simp)
  have u5 : u 5 = ptr v3 := by simpa [r5] using hf4 5 (by simp)
  have u6 : u 6 = ptr v8 := by simpa [r6] using hf4 6 (by simp)
  have u7 : u 7 = ptr v14 := by simpa [r7] using hf4 7 (by simp)
  have u36 : u 36 = .int .i64 p.k := by simpa using hf4 36 (by simp)
  unfold qnOZ
  simp -implicitDefEqProofs only [u36, u37, bin_lss, ov_s, cd_b]
  refine ⟨fun hc => ?_, fun hc => ?_⟩
  · have hlt : i < p.k := by have : ((i : Int) < p.k) := by simpa using hc
                             omega
    have hw : IntKind.i64.wrap ((i : Int) + 1) = (i + 1 : Nat) := by rw [wrap64_id (by omega) (by omega)]; omega
    unfold qnNZ
    rw [zcInt]
    simp -implicitDefEqProofs only [u37]
    refine nw_st (v := .int .i64 i) rfl rfl (by simp) fun v42 h42 n42 e42 c42 => ?_
    have o42 : Only non T' h4 T' h42 := Only.of_ext oI.wf e42
    have c1 := e42 _ _ a1.1
    simp -implicitDefEqProofs [u3, u5, u6, u7, ld_at c1, cel_of c1, stm_at c1, stm_upd, ld_same, cel_same, over]
    refine hplain_ok o42.wf gg (xI.kp o42.k (Off.non _) (not_non _)) (by omega) _ _ (by rw [k3 i hlt]; rfl) (fun F fv e pl => ?_) fun T2 h2 o2 x2 => ?_
    · rw [k3 i hlt]
      have ff : ∀ {b o}, h4 b = some o ∧ T' b = [] → F b = some o := fun {b o} hh => e _ _ (fz_at (e42 _ _ hh.1) hh.2)
      exact ⟨v3, v42, v8, v14, v1, pl, ff a3, e _ _ (fz_at c42 (oI.wf _ n42)), ff a8, ff a14, ff a1⟩
    unfold qnMZ
    simp -implicitDefEqProofs [r3, r5, r6, r7, u3, u5, u6, u7, u36, u37, hw, -Int.natCast_add]
    exact ⟨⟨i + 1, PoI.go gg oI a1 a3 a8 a14 ((o42.mono non_up).trans o2) x2, rfl, by omega⟩, by omega⟩
  have hie : i = p.k := by have : ¬ ((i : Int) < p.k) := by simpa using hc
                           omega
  subst hie
  simp -implicitDefEqProofs
  refine hk T' h4 al oI ?_
  rw [hst, show 3 * p.k + 1 = 2 * p.k + 1 + p.k by omega]
  exact xI
end Go.Proofs.YtcnphhhcknhhaaaGreat
namespace Go.Proofs.YtcnphhhcknhhaaaGreat
open Go Go.Den Go.MapKept
set_option linter.unusedSimpArgs false
set_option linter.unusedVariables false
set_option maxRecDepth 20000
theorem bdMoment:bdV (binf P qraZ) [(0,.int .i64 (-1))]=some (.agg #[.int .i64 (-1)]):=by kernel_rfl
theorem bdHProc:bdV (binf P qaGZ) [(0,.agg #[.int .i64 (-1)])]=some (.agg #[.int .i64 (-1),.slice none 0 0,.int .i64 0,.int .u64 0,.int .u64 0,.bool false,.int .i64 0,.slice none 0 0,.slice none 0 0,.bool false]):=by kernel_rfl
theorem zcPHp:zc P qwZ=some #[.pointer none]:=by kernel_rfl
variable {K:KTy}
theorem henew_ok (who:Int)(x:OpD)(xw:OpW x){T:Tags}{h:Heap}{g gh:Tag}{mq hp:Nat}{H:Hall}(w:Wf T h)(gg:Gd g)(d2:Off (pre g) gh)(y:HallR T h gh hp H){v:Value}(hv:Sl 1 StrR (fz T h) v x.users)(hl:x.users.length<1000000)(c8:1≤H.c.stripes∧H.c.stripes≤8)(hn:(H.n:Int)=H.c.stripes)
  (hk:∀ T' h' q,Only (pre g) T h T' h'→HPR T' h' g q mq (hp0 H who x)→K (ptr q) h'):callM P qfNZ #[ptr hp,ptr mq,.int .i64 who,.agg (opC x v).toArray] h K:=by
 apply qvHZ
 unfold qrVZ
 have hone:=hv.one
 refine nw_intro fun v1 h1 n1 e1 c1=>?_
 refine nw_agg fun v3 h3 n3 e3 c3=>?_
 simp -implicitDefEqProofs[bdMoment,bdHProc]
 have e03:=e1.trans e3
 have o3:Only non T h T h3:=Only.of_ext w e03
 refine nw_tag o3.wf (g++[0]) fun q T4 h4 n4 o4 t4 c4=>?_
 have o34:=o3.trans o4
 have c1:=o34.k
 have A1:h4 v1=some (.cells #[.int .i64 who] qjZ (0,0))∧T4 v1=[]:=o4.k.at (e3 _ _ ‹h1 v1=_›) (w v1 n1) (not_non _)
 have A3:h4 v3=some (.cells (opC x v).toArray qxZ (0,0))∧T4 v3=[]:=o4.k.at c3 (w v3 (fresh_of e1 n3)) (not_non _)
 rw[zcPHp]
 refine nw_st rfl rfl (by simp) fun v9 h9 n9 e9 c9=>?_
 have o9:Only non T4 h4 T4 h9:=Only.of_ext o4.wf e9
 have B1:=o9.see A1 (not_non _)
 have B3:=o9.see A3 (not_non _)
 have B9:h9 v9=some (.cells #[ptr q] qwZ (0,0))∧T4 v9=[]:=⟨c9,o4.wf v9 n9⟩
 have oT:=o34.trans o9
 have b4:=o9.k.at c4 t4 (not_non _)
 have X0:HPR0 T4 h9 g q (hp0 H who x):=⟨b4.1,b4.2,rfl,rfl⟩
 rw[seqM_eq]
 have fin:∀ {T':Tags} {h':Heap} {s:Env},Only (pre g) T4 h9 T' h'→(∃ al,HPB T' h' g q mq al (hp0 H who x).steps (hp0 H who x))→s 9=ptr v9→ov (ldV (some none) (s 9) h') (fun v41=>(retM P [.tmp 8] K) .ret [] (puts s [(40,v41),(8,v41)]) h'):=by
  intro T' h' s o hx hs
  have c9:=(o.see B9 gg.nil).1
  simp -implicitDefEqProofs[hs,ld_at c9,cel_of c9,stm_at c9,stm_upd,ld_same,cel_same,over]
  obtain⟨al,hx⟩:=hx
  refine hk T' h' q ((oT.mono non_up).trans o) (hx.hpr (HPI.hp0 H who x) rfl ?_)
  have:1≤(hp0 H who x).steps:=by unfold HP.steps; split<;>(try split)<;>omega
  have h0:(hp0 H who x).at_=0:=rfl
  simp -implicitDefEqProofs[HP.done,h0]; omega
 unfold qttZ
 have oa:ldV (some (some 7)) (ptr v3) h9=some (.agg (opC x v).toArray):=by simp[ld_at B3.1,opC]
 simp -implicitDefEqProofs only[oa,ov_s]
 have hv9:Sl 1 StrR h9 v x.users:=hv.ext (@StrR.ext) ((oT.ext (not_non _)).trans (fz_ext _ _))
 refine modBad_ok x xw hv9 hl fun h10 e10=>?_
 have o10:Only non T4 h9 T4 h10:=Only.of_ext o9.wf e10
 have C1:=o10.see B1 (not_non _)
 have C3:=o10.see B3 (not_non _)
 have C9:=o10.see B9 (not_non _)
 have b10:=o10.k.at X0.1 X0.2.1 (not_non _)
 have X:HPR0 T4 h10 g q (hp0 H who x):=⟨b10.1,b10.2,rfl,rfl⟩
 have y10:=(((y.up o3 (Off.non _) (not_non _)).up o4 (Off.non _) (not_non _)).up o9 (Off.non _) (not_non _)).up o10 (Off.non _) (not_non _)
 have c1:=C1.1
 have c9:=C9.1
 have x0:cel h10 v3 0=some (.int .i64 x.kind):=by simp[cel_of C3.1,opC]
 unfold qtsZ
 cases hb:badB x with
 | true =>
  simp -implicitDefEqProofs
  unfold qtmZ
  simp -implicitDefEqProofs[ld_at c9,cel_of c9,stm_at c9,stm_upd,ld_same,cel_same,over]
  have hone:(hp0 H who x).one=true:=by simp[HP.one,hp0,hb]
  have hpo:(hp0 H who x).poll=false:=by simp[HP.poll,hone]
  have k0:(hp0 H who x).kd 0 = .bad:=by simp[HP.kd,hp0,hb]
  have hst:(hp0 H who x).steps=1:=by simp[HP.steps,hone]
  have hne:((hp0 H who x).kd 0).need = -1:=by rw[k0]; rfl
  rw[← hne]
  refine hadd_ok (n:=0) o10.wf gg (X.hpb hpo mq) (by omega) _ _ (by rw[k0]; exact⟨v9,rfl,fz_at C9.1 C9.2⟩) fun T5 h5 o5 x5=>?_
  unfold qtlZ
  refine fin ((o10.mono non_up).trans o5) ⟨0,by rw[hst]; exact x5⟩ (by simp)
 | false =>
  simp -implicitDefEqProofs
  unfold qtrZ
  simp -implicitDefEqProofs[x0]
  refine⟨fun h8=>?_,fun h8=>?_⟩
  ·unfold qtoZ
   simp -implicitDefEqProofs[ld_at c1,cel_of c1,stm_at c1,ld_at c9,cel_of c9,stm_at c9,stm_upd,ld_same,cel_same,over]
   refine hpoll_ok (p:=hp0 H who x) (mq:=mq) o10.wf gg d2 X y10 hn.symm (by show H.n≤8; omega) hb h8 fun T5 h5 al o5 x5=>?_
   unfold qtnZ
   exact fin ((o10.mono non_up).trans o5) ⟨al,x5⟩ (by simp)
  ·unfold qtqZ
   simp -implicitDefEqProofs[x0]
   refine⟨fun h9=>?_,fun h9=>?_⟩
   ·unfold qtpZ
    simp -implicitDefEqProofs[ld_at c1,cel_of c1,stm_at c1,ld_at c9,cel_of c9,stm_at c9,stm_upd,ld_same,cel_same,over]
    have hone:(hp0 H who x).one=true:=by simp[HP.one,hp0,h9]
    have hpo:(hp0 H who x).poll=false:=by simp[HP.poll,hone]
    have k0:(hp0 H who x).kd 0 = .shut:=by simp[HP.kd,hp0,hb,h9]
    have hst:(hp0 H who x).steps=1:=by simp[HP.steps,hone]
    have hne:((hp0 H who x).kd 0).need = -1:=by rw[k0]; rfl
    rw[← hne]
    refine hadd_ok (n:=0) o10.wf gg (X.hpb hpo mq) (by omega) _ _ (by rw[k0]; exact⟨v1,v9,rfl,fz_at C1.1 C1.2,fz_at C9.1 C9.2⟩) fun T5 h5 o5 x5=>?_
    unfold qsmZ
    exact fin ((o10.mono non_up).trans o5) ⟨0,by rw[hst]; exact x5⟩ (by simp)
   ·unfold qsoZ
    have oa:ldV (some (some 7)) (ptr v3) h10=some (.agg (opC x v).toArray):=by simp[ld_at C3.1,opC]
    simp -implicitDefEqProofs[ld_at c1,cel_of c1,stm_at c1,ld_at c9,cel_of c9,stm_at c9,stm_upd,ld_same,cel_same,over,oa]
    have hone:(hp0 H who x).one=false:=by simp[HP.one,hp0,hb,h9]
    have hpo:(hp0 H who x).poll=false:=by simp[HP.poll,hone]; exact h8
    have hst:(hp0 H who x).steps=4:=by simp[HP.steps,hone]; exact fun h=>absurd h h8
    refine hwat_ok (p:=hp0 H who x) o10.wf gg d2 (X.hpb hpo mq) y10 c8 hb h9 h8 rfl xw.s1 hv.one fun T5 h5 o5 x5=>?_
    unfold qsnZ
    exact fin ((o10.mono non_up).trans o5) ⟨0,by rw[hst]; exact x5⟩ (by simp)
end Go.Proofs.YtcnphhhcknhhaaaGreat
namespace Go.Proofs.YtcnphhhcknhhaaaGreat
open Go Go.Den Go.MapKept
set_option linter.unusedSimpArgs false
set_option linter.unusedVariables false
set_option maxRecDepth 20000
def EvsR (h:Heap)(c:List Value)(l:List Evt):Prop:=∃ v,c=[v]∧Sl 8 EvR h v l
theorem rng_set (k:Nat)(f:Nat→Value)(b:Nat)(v:Value):(((List.range k).map f).toArray.setIfInBounds b v)=((List.range k).map fun i=>if i=b then v else f i).toArray:=by
 apply Array.ext
 ·simp -implicitDefEqProofs
 ·intro i h1 h2
  rw[Array.getElem_setIfInBounds (by simpa using h2)]
  by_cases h:b=i
  ·subst h; simp
  ·rw[if_neg h]; simp[Ne.symm h]
def rngC (k:Nat)(f:Nat→Nat):Array Value:=((List.range k).map fun i=>Value.int .i64 (f i)).toArray
def restE (ls:List (List Evt))(p:Nat→Nat):List (List Evt):=(List.range ls.length).map fun i=>(nth ls i).drop (p i)
theorem nth_rest {ls:List (List Evt)}{p:Nat→Nat}{i:Nat}(hi:i<ls.length):nth (restE ls p) i=(nth ls i).drop (p i):=by
 unfold restE
 show ((List.range ls.length).map _).getD i []=_
 rw[List.getD_eq_getElem?_getD]
 simp -implicitDefEqProofs[hi]
theorem rest_len (ls:List (List Evt))(p:Nat→Nat):(restE ls p).length=ls.length:=by simp[restE]
theorem rest_zero (ls:List (List Evt)):restE ls (fun _=>0)=ls:=by
 apply List.ext_getElem (by simp[restE])
 intro i h1 h2
 simp -implicitDefEqProofs[restE,nth,h2]
theorem rest_set {ls:List (List Evt)}{p:Nat→Nat}{b:Nat}(hb:b<ls.length):(restE ls p).set b (nth (restE ls p) b).tail=restE ls (fun i=>if i=b then p b+1 else p i):=by
 apply List.ext_getElem (by simp[restE])
 intro i h1 h2
 have hi:i<ls.length:=by simpa [restE] using h2
 rw[List.getElem_set]
 by_cases h:b=i
 ·subst h
  rw[if_pos rfl,nth_rest hb]
  simp -implicitDefEqProofs[restE]
 ·rw[if_neg h]
  simp -implicitDefEqProofs[restE,Ne.symm h]
def bestV (o:Option Nat):Int:=match o with
 | some b=>b
 | none=>-1
def slen:Value→Nat
 | .slice _ n _=>n
 | _=>0
theorem row_slen {sz:Nat}{e:TypeId}{h:Heap}{v:Value}{n:Nat}{xs:List Value}(r:Row sz e h v n xs):slen v=n:=by
 rcases r.2 with ⟨rfl,h2⟩ | ⟨g,cap,cur,rfl,_⟩
 ·simp -implicitDefEqProofs only[slen]; exact h2.symm
 ·rfl
structure MgI (h:Heap)(ls:List (List Evt))(ab:Nat)(p:Nat→Nat)(out:List Evt)(ov:Value)(h':Heap):Prop where
 e:Ext h h'
 ca:h' ab=some (.cells (rngC ls.length p) qjZ (0,0))
 o:Rf 8 qtZ h h' ov out.length (out.flatMap evC)
 na:rowOf ov≠some ab
 m:mergeE ls=out++mergeE (restE ls p)
 t:out.length+totE (restE ls p)=totE ls
 le:∀ i,i<ls.length→p i≤(nth ls i).length
theorem rngC_cel {h:Heap}{ab k:Nat}{p:Nat→Nat}(c:h ab=some (.cells (rngC k p) qjZ (0,0))){i:Nat}(hi:i<k):cel h ab i=some (.int .i64 (p i)):=by
 rw[cel_of c]; simp[rngC,hi]
theorem ia_sl {ab k i:Nat}(hi:i<k):iaV (some (none,1)) (.slice (some ⟨ab,0,none⟩) k k) (.int .i64 i)=some (.pointer (some ⟨ab,i,none⟩)):=by
 have:(0:Int)≤i∧(i:Int)<k:=by omega
 simp -implicitDefEqProofs[iaV,this]
theorem evs_at {F:Heap}{v:Value}{ls:List (List Evt)}(x:Sl 1 EvsR F v ls){i:Nat}(hi:i<ls.length):∃ b q u,iaV (some (none,1)) v (.int .i64 i)=some (.pointer (some ⟨b,q,none⟩))∧(∀ h',Ext F h'→cel h' b q=some u)∧Sl 8 EvR F u (nth ls i):=by
 obtain⟨b,o,c,i1,i2,i3⟩:=x.at (k:=.i64) (i:=i) (by omega) (by omega)
 simp -implicitDefEqProofs only[Int.toNat_natCast] at i3
 obtain⟨u,rfl,hu⟩:=i3
 have e:nth ls i=ls[i]:=by simp[nth,hi]
 refine⟨b,o,u,i1,fun h' e=>?_,by rw[e]; exact hu⟩
 have:=(cels_get (cels_ext e i2)).2 0 (by simp)
 simpa using this
theorem ev_seq {F:Heap}{v:Value}{l:List Evt}(x:Sl 8 EvR F v l){i:Nat}(hi:i<l.length):∃ b q,iaV (some (none,8)) v (.int .i64 i)=some (.pointer (some ⟨b,q,none⟩))∧(∀ h',Ext F h'→cels h' b q 8=some (evC l[i]))∧∀ h',Ext F h'→cel h' b (q+7)=some (.int .u64 (l[i].seq)):=by
 obtain⟨b,q,h1,h2⟩:=ev_ld x hi (k:=.i64)
 refine⟨b,q,h1,h2,fun h' e=>?_⟩
 have:=(cels_get (h2 h' e)).2 7 (by simp[evC,presC])
 simpa [evC,presC] using this
theorem hd_rest {ls:List (List Evt)}{p:Nat→Nat}{i:Nat}(hi:i<ls.length)(h:p i<(nth ls i).length):hdE (nth (restE ls p) i)=(nth ls i)[p i]:=by
 rw[nth_rest hi]
 unfold hdE
 rw[List.drop_eq_getElem_cons h]; rfl
theorem rest_ne {ls:List (List Evt)}{p:Nat→Nat}{i:Nat}(hi:i<ls.length):nth (restE ls p) i≠[]↔p i<(nth ls i).length:=by
 rw[nth_rest hi,ne_eq,List.drop_eq_nil_iff]; omega
theorem best_lt {r:List (List Evt)}{k b:Nat}(h:bestE r k=some b):b<k∧nth r b≠[]:=⟨(best_some h).h,(best_some h).ne⟩
variable {K:KTy}
theorem merge_ok (ls : List (List Evt)) {T : Tags} {h : Heap} (w : Wf T h) {v : Value} (x : Sl 1 EvsR h v ls) (hl : ls.length ≤ 1000) (ht : totE ls < 1000000) (hn : ∀ i, (nth ls i).length < 1000000) (hk : ∀ v' h', Ext h h' → Sl 8 EvR (fz T h') v' (mergeE ls) → K v' h') : callM P qkpZ #[v] h K := by
  apply qvnZ
  unfold qqaZ
  have hlen := x.len
  simp -implicitDefEqProofs only [hlen, ov_s]
  refine makeSlice_vv unSlInt apInt zcInt (n := ls.length) (by omega) (by omega) (by unfold maxLen; omega) fun ab h1 n1 e1 c1 => ?_
  unfold qrxZ
  have I0 : MgI h ls ab (fun _ => 0) [] (.slice none 0 0) h1 := ⟨e1, by rw [c1, made_one]; rfl, by simpa using Rf.nil e1, by simp [rowOf], by simp [rest_zero], by simp [rest_zero], fun i _ => by omega⟩
  refine loop_on [0, 4] (fun s h' => ∃ p out ov, MgI h ls ab p out ov h' ∧ s 3 = ov) (fun s _ => totE ls + 1 - slen (s 3)) ⟨_, _, _, I0, rfl⟩ ?_
  rintro s h2 hf ⟨p, out, ov, I, s3⟩
  have s0 : s 0 = v := by simpa using hf 0 (by simp)
  have s4 : s 4 = .slice (some ⟨ab, 0, none⟩) ls.length ls.length := by simpa using hf 4 (by simp)
  unfold qrwZ
  rw [seqM_eq]
  unfold qruZ
  simp -implicitDefEqProofs only [s0, hlen, ov_s]
  refine loop_on [0, 3, 4, 11] (fun s' h' => ∃ i : Nat, h' = h2 ∧ s' 12 = .int .i64 i ∧ i ≤ ls.length ∧ s' 5 = .int .i64 (bestV (bestE (restE ls p) i))) (fun s' _ => (ls.length - num (s' 12)).toNat) ⟨0, rfl, rfl, by omega, rfl⟩ ?_
  rintro r h3 hf3 ⟨i, rfl, r12, hi, r5⟩
  have r0 : r 0 = v := by simpa [s0] using hf3 0 (by simp)
  have r3 : r 3 = ov := by simpa [s3] using hf3 3 (by simp)
  have r4 : r 4 = .slice (some ⟨ab, 0, none⟩) ls.length ls.length := by simpa [s4] using hf3 4 (by simp)
  have r11 : r 11 = .int .i64 ls.length := by simpa using hf3 11 (by simp)
  unfold qrtZ
  simp -implicitDefEqProofs only [r11, r12, bin_lss, ov_s, cd_b]
  refine ⟨fun hc => ?_, fun hc => ?_⟩
  · have hlt : i < ls.length := by have : ((i : Int) < ls.length) := by simpa using hc
                                   omega
    have hw : IntKind.i64.wrap ((i : Int) + 1) = (i + 1 : Nat) := by rw [wrap64_id (by omega) (by omega)]; omega
    obtain ⟨b1, q1, u1, i1, i2, i3⟩ := evs_at x hlt
    have i2 := i2 _ I.e
    have a1 := rngC_cel I.ca hlt
    have j1 := ia_sl (ab := ab) hlt
    have l1 := i3.len
    unfold qrsZ
    rw [seqM_eq]
    unfold qrrZ
    have hrl : ∀ b, b < ls.length → (nth (restE ls p) b ≠ [] ↔ p b < (nth ls b).length) := fun b hb => rest_ne hb
    have hbs : bestE (restE ls p) (i + 1) = match bestE (restE ls p) i with
      | none => if nth (restE ls p) i = [] then none else some i
      | some b => if nth (restE ls p) i ≠ [] ∧ (hdE (nth (restE ls p) i)).seq < (hdE (nth (restE ls p) b)).seq then some i else some b := rfl
    by_cases hp : p i < (nth ls i).length
    rotate_left
    · have hp' : ¬ ((p i : Int) < (nth ls i).length) := by omega
      have hnil : nth (restE ls p) i = [] := by
        rw [nth_rest hlt, List.drop_eq_nil_iff]; omega
      have hbs' : bestE (restE ls p) (i + 1) = bestE (restE ls p) i := by
        rw [hbs]; cases bestE (restE ls p) i <;> simp [hnil]
      simp -implicitDefEqProofs [r12, r4, r0, r5, j1, a1, i1, i2, l1, hp']
      unfold qouZ
      simp -implicitDefEqProofs [r0, r3, r4, r11, r12, s0, s3, s4, hw, -Int.natCast_add]
      exact ⟨⟨i + 1, rfl, by omega, by rw [hbs']; exact r5⟩, by omega⟩
    have hp' : ((p i : Int) < (nth ls i).length) := by omega
    have hne : nth (restE ls p) i ≠ [] := (hrl i hlt).2 hp
    obtain ⟨f1, g1, t1, _, t2⟩ := ev_seq i3 hp
    have t2 := t2 _ I.e
    cases hb : bestE (restE ls p) i with
    | none =>
      rw [hb] at r5 hbs
      have hbs' : bestE (restE ls p) (i + 1) = some i := by rw [hbs]; simp [hne]
      have r5 : r 5 = .int .i64 (-1) := r5
      simp -implicitDefEqProofs [r12, r4, r0, r5, j1, a1, i1, i2, l1, hp']
      unfold qotZ
      simp -implicitDefEqProofs [r0, r3, r4, r11, r12, s0, s3, s4, hw, -Int.natCast_add]
      exact ⟨⟨i + 1, rfl, by omega, by rw [hbs']; rfl⟩, by omega⟩
    | some b =>
      rw [hb] at r5 hbs
      obtain ⟨hbi, hbn⟩ := best_lt hb
      have hbl : b < ls.length := by omega
      have hpb : p b < (nth ls b).length := (hrl b hbl).1 hbn
      obtain ⟨b2, q2, u2, k1, k2, k3⟩ := evs_at x hbl
      have k2 := k2 _ I.e
      have a2 := rngC_cel I.ca hbl
      have j2 := ia_sl (ab := ab) hbl
      obtain ⟨f2, g2, t3, _, t4⟩ := ev_seq k3 hpb
      have t4 := t4 _ I.e
      have r5 : r 5 = .int .i64 b := r5
      have hb0 : ¬ ((b : Int) < 0) := by omega
      have hseq : ((hdE (nth (restE ls p) i)).seq < (hdE (nth (restE ls p) b)).seq) ↔ (nth ls i)[p i].seq < (nth ls b)[p b].seq := by
        rw [hd_rest hlt hp, hd_rest hbl hpb]
      by_cases hs : (nth ls i)[p i].seq < (nth ls b)[p b].seq
      · have hbs' : bestE (restE ls p) (i + 1) = some i := by rw [hbs]; simp [hne, hseq.2 hs]
        simp -implicitDefEqProofs [r12, r4, r0, r5, j1, a1, i1, i2, l1, hp', hb0, j2, a2, k1, k2, t1, t2, t3, t4, hs]
        unfold qotZ
        simp -implicitDefEqProofs [r0, r3, r4, r11, r12, s0, s3, s4, hw, -Int.natCast_add]
        exact ⟨⟨i + 1, rfl, by omega, by rw [hbs']; rfl⟩, by omega⟩
      · have hbs' : bestE (restE ls p) (i + 1) = some b := by rw [hbs]; simp [hne, hseq, hs]
        simp -implicitDefEqProofs [r12, r4, r0, r5, j1, a1, i1, i2, l1, hp', hb0, j2, a2, k1, k2, t1, t2, t3, t4, hs]
        unfold qouZ
        simp -implicitDefEqProofs [r0, r3, r4, r11, r12, s0, s3, s4, hw, -Int.natCast_add]
        exact ⟨⟨i + 1, rfl, by omega, by rw [hbs']; exact r5⟩, by omega⟩
  · have hie : i = ls.length := by have : ¬ ((i : Int) < ls.length) := by simpa using hc
                                   omega
    subst hie
    have hrr : bestE (restE ls p) ls.length = bestE (restE ls p) (restE ls p).length := by rw [rest_len]
    unfold qrvZ
    cases hb : bestE (restE ls p) ls.length with
    | none =>
      rw [hb] at r5 hrr
      have r5 : r 5 = .int .i64 (-1) := r5
      have hm : mergeE ls = out := by rw [I.m, merge_none hrr.symm, List.append_nil]
      simp -implicitDefEqProofs [r3, r5]
      refine hk _ _ I.e ?_
      rw [hm]
      exact Row.slE (enc := evC) (R := EvR) (fun e => by simp [evC, presC]) (fun _ => rfl) (I.o.row.fz w I.o.new)
    | some b =>
      rw [hb] at r5 hrr
      obtain ⟨hbi, hbn⟩ := best_lt hb
      have hpb : p b < (nth ls b).length := (rest_ne hbi).1 hbn
      obtain ⟨b2, q2, u2, k1, k2, k3⟩ := evs_at x hbi
      have k2 := k2 _ I.e
      have a2 := rngC_cel I.ca hbi
      have j2 := ia_sl (ab := ab) hbi
      obtain ⟨f2, g2, t3, t5, t4⟩ := ev_seq k3 hpb
      have t5 := t5 _ I.e
      have r5 : r 5 = .int .i64 b := r5
      have hb0 : ¬ ((b : Int) < 0) := by omega
      have ld5 : ldV (some (some 8)) (.pointer (some ⟨f2, g2, none⟩)) h3 = some (.agg (evC (nth ls b)[p b]).toArray) := by
        simp -implicitDefEqProofs [ldV, t5]
      simp -implicitDefEqProofs [r3, r5, hb0]
      unfold qqrZ
      simp -implicitDefEqProofs [r0, r5, r4, k1, k2, j2, a2, t3, ld5]
      have htot : totE ls < 1000000 := ht
      have hout : out.length < 1000000 := by have := I.t; omega
      try rw [r3]
      refine app_one (x := .agg (evC (nth ls b)[p b]).toArray) bsEv unSlEv apEv (by omega) (by simp [evC, presC]) (by simp [evC, presC]) I.o.row (by unfold maxLen; omega) (by omega) (by omega) fun a ov' h4 r4' k4 ha => ?_
      have ca4 : h4 ab = some (.cells (rngC ls.length p) qjZ (0, 0)) := k4 _ _ I.ca (Ne.symm I.na)
      have a4 := rngC_cel ca4 hbi
      have hw : IntKind.i64.wrap ((p b : Int) + 1) = (p b + 1 : Nat) := by have := hn b; rw [wrap64_id (by omega) (by omega)]; omega
      have e4 : Ext h h4 := fun k o hk => k4 _ _ (I.e _ _ hk) fun hh => by rw [I.o.new k hh.symm] at hk; cases hk
      have na4 : rowOf ov' ≠ some ab := by
        rcases ha with ha | ⟨j, ha, hj⟩
        · rw [ha]; exact I.na
        · rw [ha]; intro hh; cases hh; rw [I.ca] at hj; cases hj
      have new4 : ∀ g, rowOf ov' = some g → h g = none := fun g hg => by
        rcases ha with ha | ⟨j, ha, hj⟩
        · exact I.o.new g (by rw [← ha]; exact hg)
        · rw [ha] at hg; cases hg; exact fresh_of I.e hj
      unfold qqqZ
      simp -implicitDefEqProofs [r5, r4, j2, a4, hw, -Int.natCast_add]
      rw [stm_at (n := 1) (v := .int .i64 (p b + 1 : Nat)) ca4 rfl (by simp [rngC]; omega) (by simp)]
      have hov : over (rngC ls.length p) b (Value.int .i64 (p b + 1 : Nat)).cells.toList = rngC ls.length (fun i => if i = b then p b + 1 else p i) := by
        simp -implicitDefEqProofs only [cells_i, over]
        unfold rngC
        rw [rng_set]
        congr 2
        funext i
        by_cases hib : i = b
        · simp -implicitDefEqProofs [hib]
        · simp -implicitDefEqProofs [hib]
      rw [hov]
      have hap : h ab = none := fresh_of (Ext.refl h) (by
        cases hh : h ab with
        | none => rfl
        | some o => rw [e1 _ _ hh] at c1; rw [n1] at hh; cases hh)
      simp -implicitDefEqProofs [s0, s4, r0, r4, -Int.natCast_add]
      refine ⟨⟨fun i => if i = b then p b + 1 else p i, out ++ [(nth ls b)[p b]], ⟨ext_upd hap e4, upd_same' _ _ _, ?_, na4, ?_, ?_, fun i hi => ?_⟩⟩, ?_⟩
      · refine ⟨ext_upd hap e4, ?_, new4, ?_⟩
        · have : Row 8 qtZ h4 ov' (out ++ [(nth ls b)[p b]]).length ((out ++ [(nth ls b)[p b]]).flatMap evC) := by simpa using r4'
          exact this.of_at fun g hg => upd_ne fun hh => na4 (by rw [hg, hh])
        · intro u hu
          obtain ⟨e, _, hu⟩ := List.mem_flatMap.1 hu
          simp -implicitDefEqProofs [evC, presC] at hu
          rcases hu with rfl | rfl | rfl | rfl | rfl | rfl | rfl | rfl <;> rfl
      · rw [I.m, merge_some hrr.symm, rest_set hbi, hd_rest hbi hpb, List.append_assoc]; rfl
      · have h1 := I.t
        have h2 := tot_set (r := restE ls p) (b := b) (by rw [rest_len]; exact hbi) hbn
        rw [rest_set hbi] at h2
        simp; omega
      · show (if i = b then p b + 1 else p i) ≤ _
        split
        · rename_i hib; subst hib; omega
        · exact I.le i hi
      · have h1 := row_slen r4'
        have h2 := row_slen I.o.row
        have h3 := I.t
        have h4 : 0 < totE (restE ls p) := by
          rcases Nat.eq_zero_or_pos (totE (restE ls p)) with h | h
          · exact absurd (tot_zero.1 h b) hbn
          · exact h
        rw [s3, h1, h2]; omega
end Go.Proofs.YtcnphhhcknhhaaaGreat
namespace Go.Proofs.YtcnphhhcknhhaaaGreat
open Go Go.Den Go.MapKept
set_option linter.unusedSimpArgs false
set_option linter.unusedVariables false
set_option maxRecDepth 20000
def U3p (g gh gm t:Tag):Prop:=pre g t∨pre gh t∨pre gm t
variable {K:KTy}
theorem hplain_run {T:Tags}{h:Heap}{fv hv:Value}{f:FuncId}{cap:Array Value}(x:PlB (fz T h) fv f cap)(hg:gd f=true)(hd:callM P f (#[hv]++cap) h fun _ h'=>K (.bool false) h') :
  nxM P (do let d ← Deferred.ofValue fv #[hv]; invoke d.target d.args) h K:=by
 obtain⟨b,rfl,hb⟩:=x
 refine nx_fn good (by kernel_rfl) ?_
 show callM P qdAZ #[hv,ptr b] h K
 apply qslZ
 unfold qgMZ
 have cb:=(fz_get hb).1
 simp -implicitDefEqProofs[ld_at cb,cel_of cb,stm_at cb,stm_upd,ld_same,cel_same,over]
 exact nx_fn good hg hd
section
variable {T:Tags}{h:Heap}{g gh gm:Tag}{q mq al hp k:Nat}{p:HP}{m:Mine}{H:Hall}{K:KTy}
theorem evl_nil {n:Int}(hi:HPI p)(he:p.enabled H=true)(h:p.poll=false∨p.at_+1<p.steps):(if (p.stp m H n).1.done then (p.stp m H n).1.rep.evs else [])=[]:=by
 have hst:p.step m H n=p.stp m H n:=by simp[HP.step,he]
 have hI:=hi.step m H n
 have hat:=hstep_at p m H n
 have hk:=hstep_k p m H n
 rw[hst] at hI hat hk
 rw[if_pos he] at hat
 rcases h with h | h
 ·have hpo:(p.stp m H n).1.poll=p.poll:=by simp only[HP.poll,HP.one,hk.2.1]
  rw[hI.ne (by rw[hpo]; exact h)]
  split<;>rfl
 ·have:(p.stp m H n).1.done=false:=by
   have hs:(p.stp m H n).1.steps=p.steps:=by unfold HP.steps HP.one; rw[hk.2.1,hk.2.2.1]
   simp -implicitDefEqProofs[HP.done,hs,hat]; omega
  rw[this]; rfl
def ActK (T:Tags)(h:Heap)(g gh gm:Tag)(q mq al hp:Nat)(p:HP)(m:Mine)(H:Hall)(n:Int)(av:Value)(fv:Nat→Value)(K:KTy):Prop :=
 ∀ T' h' ev' cv',Only (U3p g gh gm) T h T' h'→HPX T' h' g q mq al p.steps { (p.stp m H n).1 with at_:=p.at_,placed:=p.placed } av ev' fv cv' (if (p.stp m H n).1.done then (p.stp m H n).1.rep.evs else []) →
  HallR T' h' gh hp (p.stp m H n).2.2→MineR T' h' gm mq (p.stp m H n).2.1→K (.bool p.places) h'
theorem he_bad {n:Int}(w:Wf T h)(gg:Gd g)(d1:Off (pre g) gh)(d2:Off (pre g) gm){av ev:Value}{fv cv:Nat→Value}(x:HPX T h g q mq al p.steps p av ev fv cv [])(y:HallR T h gh hp H)(z:MineR T h gm mq m)(hi:HPI p)(he:p.enabled H=true)(hb:badB p.x=true)
  (hk:ActK T h g gh gm q mq al hp p m H n av fv K):nxM P (do let d ← Deferred.ofValue (fv p.at_) #[ptr hp]; invoke d.target d.args) h K:=by
 have hlt:=HP.lt_of_en he
 have a:=x.fn _ hlt
 have hone:p.one=true:=by simp[HP.one,hb]
 have hpo:p.poll=false:=by simp[HP.poll,hone]
 have hkd:p.kd p.at_ = .bad:=by simp[HP.kd,hb]
 rw[hkd] at a
 obtain⟨b,hf,hB⟩:=a
 rw[hf]
 refine nx_fn good (by kernel_rfl) ?_
 show callM P qiXZ #[ptr hp,ptr b] h K
 apply qvfZ
 unfold qpEZ
 have cb:=(fz_get hB).1
 have cp:=x.hp
 simp -implicitDefEqProofs only[hpC] at cp
 have hpl:p.places=true:=by simp[HP.places,hone]
 have hs:p.stp m H n=({ p with at_:=1,placed:=n,rep:={ p.rep with err:=1 } },m,H):=by simp[HP.stp,hb]
 obtain⟨o3,x3⟩:=x.st (p':={ p with rep:={ p.rep with err:=1 } }) (ev':=ev) w (c:=_) rfl rfl rfl rfl rfl rfl x.ev
 have hE:=evl_nil (m:=m) (n:=n) hi he (.inl hpo)
 unfold ActK at hk
 rw[hE,hs] at hk
 simp -implicitDefEqProofs only[hpC] at o3 x3
 simp -implicitDefEqProofs[ld_at cb,cel_of cb,stm_at cb,ld_at cp,cel_of cp,stm_at cp,stm_upd,ld_same,cel_same,over]
 rw[hpl] at hk
 refine hk T _ ev cv (o3.mono fun _ hh=>.inl (eq_pre hh)) x3 (y.up o3 (fun t ht hh=>d1 t ht (eq_pre hh)) (by simp)) (z.kp o3.k (fun t ht hh=>d2 t ht (eq_pre hh)))
theorem he_shut {n:Int}(w:Wf T h)(gg:Gd g)(ggh:Gd gh)(d1:Off (pre g) gh)(d2:Off (pre g) gm)(d3:Off (pre gh) g)(d4:Off (pre gh) gm){av ev:Value}{fv cv:Nat→Value}(x:HPX T h g q mq al p.steps p av ev fv cv [])(y:HallR T h gh hp H)(z:MineR T h gm mq m)(hi:HPI p)(he:p.enabled H=true)(hb:badB p.x=false)(h9:p.x.kind=9)
  (hl:H.acts.length<1000000) (hk:ActK T h g gh gm q mq al hp p m H n av fv K):nxM P (do let d ← Deferred.ofValue (fv p.at_) #[ptr hp]; invoke d.target d.args) h K:=by
 have hlt:=HP.lt_of_en he
 have a:=x.fn _ hlt
 have hone:p.one=true:=by simp[HP.one,h9]
 have hpo:p.poll=false:=by simp[HP.poll,hone]
 have hkd:p.kd p.at_ = .shut:=by simp[HP.kd,hb,h9]
 rw[hkd] at a
 obtain⟨b1,b2,hf,hB1,hB2⟩:=a
 rw[hf]
 refine nx_fn good (by kernel_rfl) ?_
 show callM P qiYZ #[ptr hp,ptr b1,ptr b2] h K
 apply qvgZ
 unfold qpFZ
 have cb:=(fz_get hB1).1
 have hpl:p.places=true:=by simp[HP.places,hone]
 have hs:p.stp m H n=({ p with at_:=1,placed:=n,rep:=if H.t.closed then { p.rep with err:=5 } else p.rep },m,H.shut p.who):=by simp[HP.stp,hb,h9]
 have hE:=evl_nil (m:=m) (n:=n) hi he (.inl hpo)
 unfold ActK at hk
 rw[hE,hs,hpl] at hk
 rw[seqM_eq]
 unfold qqvZ
 simp -implicitDefEqProofs[ld_at cb,cel_of cb,stm_at cb,stm_upd,ld_same,cel_same,over]
 refine hshut_ok p.who w ggh y hl fun T2 h2 o2 y2=>?_
 have x2:=x.kp o2.k d3 ggh.nil
 have z2:=z.kp o2.k d4
 have cb2:=(o2.see (fz_get hB2) ggh.nil).1
 have cp:=x2.hp
 simp -implicitDefEqProofs only[hpC] at cp
 unfold qquZ
 cases hcl:H.t.closed with
 | false =>
  rw[hcl] at hk
  simp -implicitDefEqProofs
  exact hk T2 h2 ev cv (o2.mono fun _ hh=>.inr (.inl hh)) x2 y2 z2
 | true =>
  rw[hcl] at hk
  simp -implicitDefEqProofs
  unfold qqtZ
  obtain⟨o3,x3⟩:=x2.st (p':={ p with rep:={ p.rep with err:=5 } }) (ev':=ev) o2.wf (c:=_) rfl rfl rfl rfl rfl rfl x2.ev
  simp -implicitDefEqProofs only[hpC] at o3 x3
  simp -implicitDefEqProofs[ld_at cb2,cel_of cb2,stm_at cb2,ld_at cp,cel_of cp,stm_at cp,stm_upd,ld_same,cel_same,over]
  exact hk T2 _ ev cv ((o2.mono fun _ hh=>.inr (.inl hh)).trans (o3.mono fun _ hh=>.inl (eq_pre hh))) x3 (y2.up o3 (fun t ht hh=>d1 t ht (eq_pre hh)) (by simp)) (z2.kp o3.k (fun t ht hh=>d2 t ht (eq_pre hh)))
theorem he_lock {s:Nat}{n:Int}(w:Wf T h)(ggh:Gd gh)(d3:Off (pre gh) g)(d4:Off (pre gh) gm){av ev:Value}{fv cv:Nat→Value}(x:HPX T h g q mq al p.steps p av ev fv cv [])(y:HallR T h gh hp H)(z:MineR T h gm mq m)(hi:HPI p)(he:p.enabled H=true)(hkd:p.kd p.at_ = .lock s)(hsn:s<H.n)(h8:H.n≤8)(hl:H.acts.length<1000000)(hw:-1≤p.who∧p.who≤900)
  (hs:p.stp m H n=({ p with at_:=p.at_+1 },m,H.lock p.who s)) (hend:p.poll=false∨p.at_+1<p.steps) (hpl:p.places=false)
  (hk:ActK T h g gh gm q mq al hp p m H n av fv K):nxM P (do let d ← Deferred.ofValue (fv p.at_) #[ptr hp]; invoke d.target d.args) h K:=by
 have hlt:=HP.lt_of_en he
 have a:=x.fn _ hlt
 rw[hkd] at a
 obtain⟨b1,b2,hf,hB1,hB2⟩:=a
 rw[hf]
 refine nx_fn good (by kernel_rfl) ?_
 show callM P qcVZ #[ptr hp,ptr b1,ptr b2] h K
 apply qrPZ
 unfold qgnZ
 have c1:=(fz_get hB1).1
 have c2:=(fz_get hB2).1
 have hE:=evl_nil (m:=m) (n:=n) hi he hend
 unfold ActK at hk
 rw[hE,hs,hpl] at hk
 simp -implicitDefEqProofs[ld_at c1,cel_of c1,stm_at c1,ld_at c2,cel_of c2,stm_at c2,stm_upd,ld_same,cel_same,over]
 refine lock_ok p.who w ggh y hsn h8 hl (by omega) fun T2 h2 o2 y2=>?_
 exact hk T2 h2 ev cv (o2.mono fun _ hh=>.inr (.inl hh)) (x.kp o2.k d3 ggh.nil) y2 (z.kp o2.k d4)
theorem he_look {n:Int}(w:Wf T h)(gg:Gd g)(ggh:Gd gh)(d1:Off (pre g) gh)(d2:Off (pre g) gm)(d3:Off (pre gh) g)(d4:Off (pre gh) gm){av ev:Value}{fv cv:Nat→Value}(x:HPX T h g q mq al p.steps p av ev fv cv [])(y:HallR T h gh hp H)(z:MineR T h gm mq m)(hi:HPI p)(he:p.enabled H=true)(hkd:p.kd p.at_ = .look)(hl:H.acts.length<1000000)
  (hs:p.stp m H n=({ p with at_:=p.at_+1,t:=H.t,placed:=n },m,H.look p.who)) (hend:p.poll=false∨p.at_+1<p.steps) (hpl:p.places=true)
  (hk:ActK T h g gh gm q mq al hp p m H n av fv K):nxM P (do let d ← Deferred.ofValue (fv p.at_) #[ptr hp]; invoke d.target d.args) h K:=by
 have hlt:=HP.lt_of_en he
 have a:=x.fn _ hlt
 rw[hkd] at a
 obtain⟨b1,b2,hf,hB1,hB2⟩:=a
 rw[hf]
 refine nx_fn good (by kernel_rfl) ?_
 show callM P qefZ #[ptr hp,ptr b1,ptr b2] h K
 apply qtcZ
 unfold qhWZ
 have c1:=(fz_get hB1).1
 have c2:=(fz_get hB2).1
 have hE:=evl_nil (m:=m) (n:=n) hi he hend
 unfold ActK at hk
 rw[hE,hs,hpl] at hk
 simp -implicitDefEqProofs[ld_at c1,cel_of c1,stm_at c1,ld_at c2,cel_of c2,stm_at c2,stm_upd,ld_same,cel_same,over]
 refine look_ok p.who w ggh y hl fun T2 h2 o2 y2=>?_
 have x2:=x.kp o2.k d3 ggh.nil
 have z2:=z.kp o2.k d4
 have c2:=(o2.see (fz_get hB2) ggh.nil).1
 have cp:=x2.hp
 simp -implicitDefEqProofs only[hpC] at cp
 obtain⟨o3,x3⟩:=x2.st (p':={ p with t:=H.t }) (ev':=ev) o2.wf (c:=_) rfl rfl rfl rfl rfl rfl x2.ev
 simp -implicitDefEqProofs only[hpC] at o3 x3
 simp -implicitDefEqProofs only[tmC]
 simp -implicitDefEqProofs[ld_at c2,cel_of c2,stm_at c2,ld_at cp,cel_of cp,stm_at cp,stm_upd,ld_same,cel_same,over]
 exact hk T2 _ ev cv ((o2.mono fun _ hh=>.inr (.inl hh)).trans (o3.mono fun _ hh=>.inl (eq_pre hh))) x3 (y2.up o3 (fun t ht hh=>d1 t ht (eq_pre hh)) (by simp)) (z2.kp o3.k (fun t ht hh=>d2 t ht (eq_pre hh)))
theorem he_unl {s:Nat}{n:Int}(w:Wf T h)(ggh:Gd gh)(d3:Off (pre gh) g)(d4:Off (pre gh) gm){av ev:Value}{fv cv:Nat→Value}(x:HPX T h g q mq al p.steps p av ev fv cv [])(y:HallR T h gh hp H)(z:MineR T h gm mq m)(hi:HPI p)(he:p.enabled H=true)(hkd:p.kd p.at_ = .unl s)(hsn:s<H.n)(h8:H.n≤8)(hl:H.acts.length<1000000)(hw:0≤(H.ss s).who∧(H.ss s).who≤1000)
  (hs:p.stp m H n=({ p with at_:=p.at_+1 },m,H.unlock p.who s)) (hend:p.poll=false∨p.at_+1<p.steps) (hpl:p.places=false)
  (hk:ActK T h g gh gm q mq al hp p m H n av fv K):nxM P (do let d ← Deferred.ofValue (fv p.at_) #[ptr hp]; invoke d.target d.args) h K:=by
 have hlt:=HP.lt_of_en he
 have a:=x.fn _ hlt
 rw[hkd] at a
 obtain⟨b1,b2,pl,hB1,hB2⟩:=a
 refine hplain_run pl (by kernel_rfl) ?_
 show callM P qdzZ #[ptr hp,ptr b1,ptr b2] h _
 apply qshZ
 unfold qgKZ
 have c1:=(fz_get hB1).1
 have c2:=(fz_get hB2).1
 have hE:=evl_nil (m:=m) (n:=n) hi he hend
 unfold ActK at hk
 rw[hE,hs,hpl] at hk
 simp -implicitDefEqProofs[ld_at c1,cel_of c1,stm_at c1,ld_at c2,cel_of c2,stm_at c2,stm_upd,ld_same,cel_same,over]
 refine unlock_ok p.who w ggh y hsn h8 hl (by omega) fun T2 h2 o2 y2=>?_
 exact hk T2 h2 ev cv (o2.mono fun _ hh=>.inr (.inl hh)) (x.kp o2.k d3 ggh.nil) y2 (z.kp o2.k d4)
end
end Go.Proofs.YtcnphhhcknhhaaaGreat
namespace Go.Proofs.YtcnphhhcknhhaaaGreat
open Go Go.Den Go.MapKept
set_option linter.unusedSimpArgs false
set_option linter.unusedVariables false
set_option maxRecDepth 20000
section
variable {T:Tags}{h:Heap}{g gh gm:Tag}{q mq al hp k:Nat}{p:HP}{m:Mine}{H:Hall}{K:KTy}
theorem he_wat {n:Int}(w:Wf T h)(gg:Gd g)(ggh:Gd gh)(ggm:Gd gm)(d1:Off (pre g) gh)(d2:Off (pre g) gm)(d3:Off (pre gh) g)(d4:Off (pre gh) gm)(d5:Off (pre gm) g)(d6:Off (pre gm) gh){av ev:Value}{fv cv:Nat→Value}(x:HPX T h g q mq al p.steps p av ev fv cv [])(y:HallR T h gh hp H)(z:MineR T h gm mq m)(hi:HPI p)(he:p.enabled H=true)(hkd:p.kd p.at_ = .wat)(hs0:HS k H)(hk0:k<100000)(hsn:p.s<H.n)(hu:p.x.user.size≤maxLen)(hb:badB p.x=false)(h9:p.x.kind≠9)(h8:p.x.kind≠8)(hat:p.at_=2)
  (hk:ActK T h g gh gm q mq al hp p m H n av fv K):nxM P (do let d ← Deferred.ofValue (fv p.at_) #[ptr hp]; invoke d.target d.args) h K:=by
 have hlt:=HP.lt_of_en he
 have a:=x.fn _ hlt
 rw[hkd] at a
 have hone:p.one=false:=by simp[HP.one,hb,h9]
 have hpo:p.poll=false:=by simp[HP.poll,h8]
 have hpl:p.places=false:=by simp[HP.places,hone,h8,hat]
 obtain⟨b1,b2,b3,b4,b5,b6,uv,pl,hB1,hB2,hB3,hB4,hB5,hB6⟩:=a
 refine hplain_run pl (by kernel_rfl) ?_
 show callM P qdyZ #[ptr hp,ptr b1,ptr b2,ptr b3,ptr b4,ptr b5,ptr b6] h _
 apply qsgZ
 unfold qgJZ
 have hE:=evl_nil (m:=m) (n:=n) hi he (.inl hpo)
 unfold ActK at hk
 have hst:p.stp m H n=p.stpW m H n:=by simp[HP.stp,hb,h9,h8]
 rw[hE,hst,hpl] at hk
 have c1:=(fz_get hB1).1
 have c2:=(fz_get hB2).1
 have c3:=(fz_get hB3).1
 have c4:=(fz_get hB4).1
 have c5:=(fz_get hB5).1
 have c6:=(fz_get hB6).1
 have cp:=x.hp
 simp -implicitDefEqProofs only[hpC] at cp
 have u4:cel h b4 1=some (.string p.x.user):=by simp[cel_of c4,opC]
 -- an error is told
 have err:∀ e:Int,p.stpW m H n=({ p with at_:=3,rep:={ p.rep with err:=e } },m,H)→K (.bool false) (upd h q (.cells (hpC { p with rep:={ p.rep with err:=e } } av ev).toArray qaGZ (0,0))):=by
  intro e hs
  rw[hs] at hk
  obtain⟨o3,x3⟩:=x.st (p':={ p with rep:={ p.rep with err:=e } }) (ev':=ev) w (c:=_) rfl rfl rfl rfl rfl rfl x.ev
  exact hk T _ ev cv (o3.mono fun _ hh=>.inl (eq_pre hh)) x3 (y.up o3 (fun t ht hh=>d1 t ht (eq_pre hh)) (by simp)) (z.kp o3.k (fun t ht hh=>d2 t ht (eq_pre hh)))
 simp -implicitDefEqProofs only[hpC] at err
 simp -implicitDefEqProofs[ld_at c1,cel_of c1,stm_at c1,ld_at cp,cel_of cp,stm_at cp,stm_upd,ld_same,cel_same,over]
 cases hcl:p.t.closed with
 | true =>
  have hs:p.stpW m H n=({ p with at_:=3,rep:={ p.rep with err:=5 } },m,H):=by simp[HP.stpW,hat,hcl]
  simp -implicitDefEqProofs
  unfold qkjZ
  simp -implicitDefEqProofs[ld_at c1,cel_of c1,stm_at c1,ld_at cp,cel_of cp,stm_at cp,stm_upd,ld_same,cel_same,over,hcl]
  have:=err 5 hs
  simpa [hcl] using this
 | false =>
  simp -implicitDefEqProofs
  unfold qkmZ
  -- it is let
  have ok:∀ (h2:Heap) (on:Bool),on=decide (p.x.kind=6)→Ext h h2→p.stpW m H n=({ p with at_:=3 },miset m p.x.user (decide (p.x.kind=6)),H.watch p.who p.s p.x.user (decide (p.x.kind=6)))→qfTZ (ptr b5) h2 (ptr b6) (ptr b4) (ptr b2) (ptr hp) (ptr b3) (fun _ h'=>K (.bool false) h'):=by
   intro h2 on hon e2 hs
   rw[hs] at hk
   have o2:Only non T h T h2:=Only.of_ext w e2
   have x2:=x.kp o2.k (Off.non _) (not_non _)
   have y2:=y.up o2 (Off.non _) (not_non _)
   have z2:=z.kp o2.k (Off.non _)
   have c5:=e2 _ _ c5
   have c6:=e2 _ _ c6
   have c2:=e2 _ _ c2
   have u4:cel h2 b4 1=some (.string p.x.user):=by simp[cel_of (e2 _ _ c4),opC]
   unfold qfTZ
   simp -implicitDefEqProofs[ld_at c5,cel_of c5,stm_at c5,ld_at c6,cel_of c6,stm_at c6,ld_at c2,cel_of c2,stm_at c2,stm_upd,ld_same,cel_same,over,u4]
   refine hwatch_ok p.who p.x.user hu _ o2.wf ggh y2 hsn hs0 hk0 fun T3 h3 o3 y3=>?_
   have x3:=x2.kp o3.k d3 ggh.nil
   have z3:=z2.kp o3.k d4
   have F:∀ {b o},fz T h b=some o→h3 b=some o:=fun {b o} hh=>(o3.see (o2.see (fz_get hh) (not_non _)) ggh.nil).1
   have c3:=F hB3
   have c2:=F hB2
   have u4:cel h3 b4 1=some (.string p.x.user):=by simp[cel_of (F hB4),opC]
   unfold qklZ
   simp -implicitDefEqProofs[ld_at c3,cel_of c3,stm_at c3,ld_at c2,cel_of c2,stm_at c2,stm_upd,ld_same,cel_same,over,u4]
   refine mset_ok o3.wf ggm z3 p.x.user _ fun h4 o4 z4=>?_
   exact hk T3 h4 ev cv (((o2.mono non_up).trans (o3.mono fun _ hh=>.inr (.inl hh))).trans (o4.mono fun _ hh=>.inr (.inr hh))) (x3.kp o4.k d5 ggm.nil) (y3.up o4 d6 ggm.nil) z4
  by_cases h6:p.x.kind=6
  rotate_left
  ·have hs:p.stpW m H n=({ p with at_:=3 },miset m p.x.user (decide (p.x.kind=6)),H.watch p.who p.s p.x.user (decide (p.x.kind=6))):=by simp[HP.stpW,hat,hcl,h6]
   simp -implicitDefEqProofs[ld_at c2,cel_of c2,stm_at c2,stm_upd,ld_same,cel_same,over,h6]
   exact ok h _ rfl (Ext.refl h) hs
  simp -implicitDefEqProofs[ld_at c2,cel_of c2,stm_at c2,ld_at c3,cel_of c3,stm_at c3,stm_upd,ld_same,cel_same,over,h6,u4]
  refine mhas_ok z p.x.user ?_
  cases hm:mhas m p.x.user with
  | true =>
   have hs:p.stpW m H n=({ p with at_:=3 },miset m p.x.user (decide (p.x.kind=6)),H.watch p.who p.s p.x.user (decide (p.x.kind=6))):=by simp[HP.stpW,hat,hcl,h6,hm]
   simp -implicitDefEqProofs
   exact ok h _ rfl (Ext.refl h) hs
  | false =>
   simp -implicitDefEqProofs[ld_at c3,cel_of c3,stm_at c3,stm_upd,ld_same,cel_same,over]
   refine mcount_ok z ?_
   try simp
   refine config_ok y fun h2 e2=>?_
   simp -implicitDefEqProofs[fdV,cfgC]
   refine⟨fun hc=>?_,fun hc=>?_⟩
   ·have hs:p.stpW m H n=({ p with at_:=3,rep:={ p.rep with err:=4 } },m,H):=by simp[HP.stpW,hat,hcl,h6,hm,hc]
    rw[hs] at hk
    have o2:Only non T h T h2:=Only.of_ext w e2
    have x2:=x.kp o2.k (Off.non _) (not_non _)
    have y2:=y.up o2 (Off.non _) (not_non _)
    have z2:=z.kp o2.k (Off.non _)
    have c1:=e2 _ _ c1
    have cp:=x2.hp
    simp -implicitDefEqProofs only[hpC] at cp
    unfold qkkZ
    obtain⟨o3,x3⟩:=x2.st (p':={ p with rep:={ p.rep with err:=4 } }) (ev':=ev) o2.wf (c:=_) rfl rfl rfl rfl rfl rfl x2.ev
    simp -implicitDefEqProofs only[hpC] at o3 x3
    simp -implicitDefEqProofs[ld_at c1,cel_of c1,stm_at c1,ld_at cp,cel_of cp,stm_at cp,stm_upd,ld_same,cel_same,over]
    exact hk T _ ev cv ((o2.mono non_up).trans (o3.mono fun _ hh=>.inl (eq_pre hh))) x3 (y2.up o3 (fun t ht hh=>d1 t ht (eq_pre hh)) (by simp)) (z2.kp o3.k (fun t ht hh=>d2 t ht (eq_pre hh)))
   ·have hs:p.stpW m H n=({ p with at_:=3 },miset m p.x.user (decide (p.x.kind=6)),H.watch p.who p.s p.x.user (decide (p.x.kind=6))):=by
     have hc':¬ H.c.watches≤(m.length:Int):=by omega
     simp -implicitDefEqProofs[HP.stpW,hat,hcl,h6,hm,hc']
    exact ok h2 _ rfl e2 hs
end
end Go.Proofs.YtcnphhhcknhhaaaGreat
namespace Go.Proofs.YtcnphhhcknhhaaaGreat
open Go Go.Den Go.MapKept
set_option linter.unusedSimpArgs false
set_option linter.unusedVariables false
set_option maxRecDepth 20000
section
variable {T:Tags}{h:Heap}{g gh gm:Tag}{q mq al hp k:Nat}{p:HP}{m:Mine}{H:Hall}{K:KTy}
theorem HPX.same {n:Nat}{p':HP}{av ev:Value}{fv cv:Nat→Value}{evl:List Evt}(x:HPX T h g q mq al n p av ev fv cv evl)(h0:hpC p' av ev=hpC p av ev)(h1:p'.who=p.who)(h2:p'.x=p.x)(h3:p'.k=p.k)(h4:p'.s=p.s)(h5:p'.all=p.all):HPX T h g q mq al n p' av ev fv cv evl:=by
 have hpo:p'.poll=p.poll:=by simp only[HP.poll,HP.one,h2]
 refine⟨by rw[h0]; exact x.hp,x.tp,?_,fun j hj=>?_,fun hp=>?_,fun hp i hi=>?_,x.ev⟩
 ·have:(seqF n fun j=>[.int .i64 (p'.kd j).need,fv j])=seqF n fun j=>[.int .i64 (p.kd j).need,fv j]:=seqF_congr fun j _=>by rw[HP.kd_congr h2 h3 h4]
  rw[this]; exact x.ac
 ·rw[HP.kd_congr h2 h3 h4]; exact (x.fn j hj).congr h1 h2 h3 h4
 ·rw[hpo] at hp; rw[h3]; exact x.al hp
 ·rw[hpo] at hp; rw[h5]; exact x.av hp i (by omega)
theorem he_drn {n:Int}{s:Nat}(w:Wf T h)(gg:Gd g)(ggh:Gd gh)(d1:Off (pre g) gh)(d2:Off (pre g) gm)(d3:Off (pre gh) g)(d4:Off (pre gh) gm){av ev:Value}{fv cv:Nat→Value}(x:HPX T h g q mq al p.steps p av ev fv cv [])(y:HallR T h gh hp H)(z:MineR T h gm mq m)(hi:HPI p)(he:p.enabled H=true)(hkd:p.kd p.at_ = .drn s)(hs0:HS k H)(hk0:k<100000)(hsn:s<H.n)(hpo:p.poll=true)(hsk:s<p.k)(hse:p.all.length=s)
  (hs:p.stp m H n=({ p with at_:=p.at_+1,all:=p.all++[(H.ss s).feed.told p.who],rep:={ p.rep with lost:=p.rep.lost || (H.ss s).feed.lost p.who } },m,H.drain p.who s)) (hend:p.at_+1<p.steps) (hpl:p.places=false)
  (hk:ActK T h g gh gm q mq al hp p m H n av fv K):nxM P (do let d ← Deferred.ofValue (fv p.at_) #[ptr hp]; invoke d.target d.args) h K:=by
 have hlt:=HP.lt_of_en he
 have a:=x.fn _ hlt
 rw[hkd] at a
 obtain⟨b1,b2,b3,b4,pl,hB1,hB2,hB3,hB4⟩:=a
 refine hplain_run pl (by kernel_rfl) ?_
 show callM P qedZ #[ptr hp,ptr b1,ptr b2,ptr b3,ptr b4] h _
 apply qsZZ
 unfold qhTZ
 have hE:=evl_nil (m:=m) (n:=n) hi he (.inr hend)
 unfold ActK at hk
 rw[hE,hs,hpl] at hk
 have c1:=(fz_get hB1).1
 have c2:=(fz_get hB2).1
 simp -implicitDefEqProofs[ld_at c1,cel_of c1,stm_at c1,ld_at c2,cel_of c2,stm_at c2,stm_upd,ld_same,cel_same,over]
 refine hdrain_ok p.who w ggh y hsn hs0 hk0 (fun j hj=>by have:=((hs0.st s hsn).fd.qs j hj).2.2; omega) fun T2 h2 v o2 y2 s2=>?_
 have x2:=x.kp o2.k d3 ggh.nil
 have z2:=z.kp o2.k d4
 have F:∀ {b o},fz T h b=some o→h2 b=some o∧T2 b=[]:=fun {b o} hh=>o2.see (fz_get hh) ggh.nil
 have c2:=(F hB2).1
 have c3:=(F hB3).1
 have c4:=(F hB4)
 obtain⟨ca,ta⟩:=x2.al hpo
 have nqa:q≠al:=fun e=>by subst e; have:=x2.hp; rw[ca] at this; injection this with h1; injection h1 with h1 h2; exact absurd h2 (by decide)
 unfold qlJZ
 have vo:=s2.one
 have hia:=ia_sl (ab:=al) hsk
 simp -implicitDefEqProofs only[exV_0,exV_1,ov_s]
 simp -implicitDefEqProofs[ld_at c2,cel_of c2,stm_at c2,ld_at c3,cel_of c3,stm_at c3,stm_upd,ld_same,cel_same,over,hia]
 rw[stm_at (n:=1) (v:=v) ca (by simp[vo.2]) (by simp; omega) (by simp[vo.1,vo.2])]
 have hov:over ((List.range p.k).map cv).toArray s v.cells.toList=((List.range p.k).map fun i=>if i=s then v else cv i).toArray:=by
  rw[vo.2]; simp only[over]; exact rng_set _ _ _ _
 rw[hov]
 have o3:Only (fun t=>t=g++[2]) T2 h2 T2 (upd h2 al (.cells ((List.range p.k).map fun i=>if i=s then v else cv i).toArray qlZ (0,0))):=Only.upd o2.wf ca ta
 have c4':=(o3.see c4 (by simp)).1
 have b3:=o3.k.at x2.hp x2.tp (by simp)
 have cp:=b3.1
 simp -implicitDefEqProofs only[hpC] at cp
 have uu:¬ (fun t=>t=g++[2]) ([]:Tag):=by simp
 obtain⟨h3,hh3⟩:∃ h3,h3=upd h2 al (.cells ((List.range p.k).map fun i=>if i=s then v else cv i).toArray qlZ (0,0)):=⟨_,rfl⟩
 have ca3:h3 al=some (.cells ((List.range p.k).map fun i=>if i=s then v else cv i).toArray qlZ (0,0)):=by rw[hh3,upd_same']
 rw[← hh3] at o3 b3 cp c4' ⊢
 clear hh3
 have x3:HPX T2 h3 g q mq al p.steps { p with all:=p.all++[(H.ss s).feed.told p.who] } av ev fv (fun i=>if i=s then v else cv i) []:=by
  refine⟨b3.1,b3.2,x2.ac.kp o3.k (by simp),fun j hj=>(x2.fn j hj).ext (o3.ext uu),fun _=>⟨ca3,ta⟩,fun _ i hik=>?_,x2.ev.ext (@EvR.ext) (o3.ext uu)⟩
  show Sl 8 EvR (fz T2 h3) (if i=s then v else cv i) ((p.all++[(H.ss s).feed.told p.who]).getD i [])
  by_cases his:i=s
  ·subst his
   rw[if_pos rfl]
   have:(p.all++[(H.ss i).feed.told p.who]).getD i []=(H.ss i).feed.told p.who:=by
    rw[List.getD_eq_getElem?_getD,List.getElem?_append_right (by omega)]; simp[hse]
   rw[this]; exact s2.ext (@EvR.ext) (o3.ext uu)
  ·rw[if_neg his]
   have:(p.all++[(H.ss s).feed.told p.who]).getD i []=p.all.getD i []:=by
    rw[List.getD_eq_getElem?_getD,List.getD_eq_getElem?_getD]
    by_cases hlt2:i<p.all.length
    ·rw[List.getElem?_append_left hlt2]
    ·rw[List.getElem?_append_right (by omega)]
     have:¬ i-p.all.length=0:=by omega
     rw[List.getElem?_eq_none (l:=p.all) (by omega)]
     rw[List.getElem?_eq_none (by simp; omega)]
   rw[this]; exact (x2.av hpo i hik).ext (@EvR.ext) (o3.ext uu)
 have oo:Only (U3p g gh gm) T h T2 h3:=(o2.mono fun _ hh=>.inr (.inl hh)).trans (o3.mono fun _ hh=>.inl (eq_pre hh))
 have y3:=y2.up o3 (fun t ht hh=>d1 t ht (eq_pre hh)) (by simp)
 have z3:=z2.kp o3.k (fun t ht hh=>d2 t ht (eq_pre hh))
 obtain⟨o4,x4⟩:=x3.st (p':={ p with all:=p.all++[(H.ss s).feed.told p.who],rep:={ p.rep with lost:=p.rep.lost || (H.ss s).feed.lost p.who } }) (ev':=ev) o3.wf (c:=_) rfl rfl rfl rfl rfl rfl x3.ev
 have K4:=hk T2 _ ev _ (oo.trans (o4.mono fun _ hh=>.inl (eq_pre hh))) x4 (y3.up o4 (fun t ht hh=>d1 t ht (eq_pre hh)) (by simp)) (z3.kp o4.k (fun t ht hh=>d2 t ht (eq_pre hh)))
 simp -implicitDefEqProofs only[hpC] at K4
 cases hlo:p.rep.lost with
 | true =>
  rw[hlo] at cp K4
  simp -implicitDefEqProofs[ld_at c4',cel_of c4',stm_at c4',ld_at cp,cel_of cp,stm_at cp,stm_upd,ld_same,cel_same,over]
  simpa using K4
 | false =>
  rw[hlo] at cp K4
  simp -implicitDefEqProofs[ld_at c4',cel_of c4',stm_at c4',ld_at cp,cel_of cp,stm_at cp,stm_upd,ld_same,cel_same,over]
  simpa using K4
theorem he_pun {n:Int}{s:Nat}(w:Wf T h)(gg:Gd g)(ggh:Gd gh)(d1:Off (pre g) gh)(d2:Off (pre g) gm)(d3:Off (pre gh) g)(d4:Off (pre gh) gm){av ev:Value}{fv cv:Nat→Value}(x:HPX T h g q mq al p.steps p av ev fv cv [])(y:HallR T h gh hp H)(z:MineR T h gm mq m)(hi:HPI p)(he:p.enabled H=true)(hkd:p.kd p.at_ = .pun s)(hsn:s<H.n)(h8:H.n≤8)(hl:H.acts.length<1000000)(hw:0≤(H.ss s).who∧(H.ss s).who≤1000)(hpo:p.poll=true)(hsk:s<p.k)(hkn:p.k=H.n)(hse:p.all.length=p.k)(hl16:∀ l∈p.all,l.length≤16)
  (hs:p.stp m H n=({ p with at_:=p.at_+1,rep:={ p.rep with evs:=mergeE p.all } },m,H.unlock p.who s)) (hst:p.steps=3*p.k+1) (hat:p.at_=2*p.k+1+s) (hpl:p.places=false)
  (hk:ActK T h g gh gm q mq al hp p m H n av fv K):nxM P (do let d ← Deferred.ofValue (fv p.at_) #[ptr hp]; invoke d.target d.args) h K:=by
 have hlt:=HP.lt_of_en he
 have a:=x.fn _ hlt
 rw[hkd] at a
 obtain⟨b1,b2,b3,b4,b5,pl,hB1,hB2,hB3,hB4,hB5⟩:=a
 refine hplain_run pl (by kernel_rfl) ?_
 show callM P qeeZ #[ptr hp,ptr b1,ptr b2,ptr b3,ptr b4,ptr b5] h _
 apply qtaZ
 unfold qhUZ
 unfold ActK at hk
 rw[hs,hpl] at hk
 have c1:=(fz_get hB1).1
 have c2:=(fz_get hB2).1
 simp -implicitDefEqProofs[ld_at c1,cel_of c1,stm_at c1,ld_at c2,cel_of c2,stm_at c2,stm_upd,ld_same,cel_same,over]
 refine unlock_ok p.who w ggh y hsn h8 hl (by omega) fun T2 h2 o2 y2=>?_
 have x2:=x.kp o2.k d3 ggh.nil
 have z2:=z.kp o2.k d4
 have F:∀ {b o},fz T h b=some o→h2 b=some o∧T2 b=[]:=fun {b o} hh=>o2.see (fz_get hh) ggh.nil
 have c2:=(F hB2).1
 have c3:=(F hB3).1
 have c4:=(F hB4).1
 have c5:=(F hB5).1
 have oo:Only (U3p g gh gm) T h T2 h2:=o2.mono fun _ hh=>.inr (.inl hh)
 have hw1:IntKind.i64.wrap ((p.k:Int)-1)=(p.k-1:Int):=wrap64_id (by omega) (by omega)
 have hdone:({ p with at_:=p.at_+1,rep:={ p.rep with evs:=mergeE p.all } }:HP).done=decide (s+1=p.k):=by
  show decide (p.steps≤p.at_+1)=_
  rw[hst,hat]
  exact decide_eq_decide.2 (by omega)
 rw[show (({ p with at_:=p.at_+1,rep:={ p.rep with evs:=mergeE p.all } }:HP),m,H.unlock p.who s).1.done=decide (s+1=p.k) from hdone] at hk
 unfold qlMZ
 simp -implicitDefEqProofs[ld_at c2,cel_of c2,stm_at c2,ld_at c3,cel_of c3,stm_at c3,stm_upd,ld_same,cel_same,over,hw1]
 refine⟨fun hc=>?_,fun hc=>?_⟩
 ·have hlast:s+1=p.k:=by omega
  rw[decide_eq_true hlast] at hk
  simp -implicitDefEqProofs only[if_true] at hk
  unfold qlLZ
  simp -implicitDefEqProofs[ld_at c4,cel_of c4,stm_at c4,ld_at c5,cel_of c5,stm_at c5,stm_upd,ld_same,cel_same,over]
  obtain⟨ca,ta⟩:=x2.al hpo
  have hrow:Row 1 qlZ h2 (.slice (some ⟨al,0,none⟩) p.k p.k) p.all.length (seqF p.all.length fun i=>[cv i]):=by
   refine⟨?_,.inr ⟨al,p.k,((List.range p.k).map cv).toArray,by rw[hse],ca,by omega,by unfold maxLen; omega,by simp,?_⟩⟩
   ·exact seqF_len (sz:=1) fun i _=>rfl
   ·rw[hse]
    have:seqF p.k (fun i=>[cv i])=(List.range p.k).map cv:=by
     unfold seqF
     induction (List.range p.k) with
     | nil=>rfl
     | cons a l ih=>simp only[List.flatMap_cons,List.map_cons,ih]; rfl
    rw[this,Nat.mul_one,List.take_of_length_le (by simp)]
  have hsl:Sl 1 EvsR h2 (.slice (some ⟨al,0,none⟩) p.k p.k) p.all:=by
   refine Row.sl' (fun i _=>rfl) (fun i hi=>⟨cv i,rfl,?_⟩) hrow
   have:=(x2.av hpo i (by omega)).ext (@EvR.ext) (fz_ext T2 h2)
   rw[List.getD_eq_getElem?_getD,List.getElem?_eq_getElem hi] at this
   exact this
  have hn16:∀ i,(nth p.all i).length≤16:=fun i=>by
   unfold nth
   rw[List.getD_eq_getElem?_getD]
   cases hh:p.all[i]? with
   | none=>simp
   | some l=>exact hl16 l (List.mem_of_getElem? hh)
  have htot:∀ l:List (List Evt),(∀ x∈l,x.length≤16)→totE l≤16*l.length:=by
   intro l
   induction l with
   | nil=>intro _; simp[totE]
   | cons a l ih =>
    intro hh
    have h1:=ih fun x hx=>hh x (by simp[hx])
    have h2:=hh a (by simp)
    simp -implicitDefEqProofs[totE] at h1 ⊢; omega
  have ht:=htot _ hl16
  refine merge_ok p.all o2.wf hsl (by omega) (by omega) (fun i=>by have:=hn16 i; omega) fun v' h3 e3 s3=>?_
  have o3:Only non T2 h2 T2 h3:=Only.of_ext o2.wf e3
  have x3:=x2.kp o3.k (Off.non _) (not_non _)
  have y3:=y2.up o3 (Off.non _) (not_non _)
  have z3:=z2.kp o3.k (Off.non _)
  have c5:=e3 _ _ c5
  have cp:=x3.hp
  simp -implicitDefEqProofs only[hpC] at cp
  have vo:=s3.one
  obtain⟨o4,x4⟩:=x3.st (p':={ p with rep:={ p.rep with evs:=mergeE p.all } }) (ev':=v') o3.wf (c:=_) rfl rfl rfl rfl rfl rfl s3
  have K4:=hk T2 _ v' cv ((oo.up o3 non_up).trans (o4.mono fun _ hh=>.inl (eq_pre hh))) x4 (y3.up o4 (fun t ht hh=>d1 t ht (eq_pre hh)) (by simp)) (z3.kp o4.k (fun t ht hh=>d2 t ht (eq_pre hh)))
  simp -implicitDefEqProofs only[hpC] at K4
  unfold qlKZ
  simp -implicitDefEqProofs[ld_at c5,cel_of c5,stm_at c5,stm_upd,ld_same,cel_same,over]
  rw[stm_at (n:=1) (v:=v') cp (by simp[vo.2]) (by simp) (by simp[vo.1,vo.2])]
  simpa [over,vo.2] using K4
 ·have hlast:¬ s+1=p.k:=by omega
  rw[decide_eq_false hlast] at hk
  simp -implicitDefEqProofs only[Bool.false_eq_true,if_false] at hk
  exact hk T2 h2 ev cv oo (x2.same rfl rfl rfl rfl rfl rfl) y2 z2
end
end Go.Proofs.YtcnphhhcknhhaaaGreat
namespace Go.Proofs.YtcnphhhcknhhaaaGreat
open Go Go.Den Go.MapKept
set_option linter.unusedSimpArgs false
set_option linter.unusedVariables false
set_option maxRecDepth 20000
theorem stp_placed {p:HP}{m:Mine}{H:Hall}{n:Int}(he:p.enabled H=true):(p.stp m H n).1.placed=if p.places then n else p.placed:=by
 have hlt:=HP.lt_of_en he
 unfold HP.stp HP.places
 cases hb:badB p.x with
 | true=>simp[HP.one,hb]
 | false =>
  by_cases h9:p.x.kind=9
  ·simp -implicitDefEqProofs[HP.one,h9]
  ·have hone:p.one=false:=by simp[HP.one,hb,h9]
   by_cases h8:p.x.kind=8
   ·simp -implicitDefEqProofs only[hone,h8]
    unfold HP.stpP
    by_cases h1:p.at_<p.k
    ·have:¬ p.at_=p.k:=by omega
     simp -implicitDefEqProofs[h1,this]
    ·by_cases h2:p.at_=p.k
     ·simp -implicitDefEqProofs[h2]
     ·by_cases h3:p.at_≤2*p.k<;>simp[h1,h2,h3]
   ·simp -implicitDefEqProofs only[hone,h8,h9]
    unfold HP.stpW
    by_cases h0:p.at_=0
    ·simp -implicitDefEqProofs[h0]
    ·by_cases h1:p.at_=1
     ·simp -implicitDefEqProofs[h1]
     ·by_cases h2:p.at_=2
      ·simp -implicitDefEqProofs[h2]
       split
       ·rfl
       ·split<;>rfl
      ·simp -implicitDefEqProofs[h0,h1,h2]
theorem stp_all16 {p:HP}{m:Mine}{H:Hall}{n:Int}{k:Nat}(hs:HS k H)(hg:HPG H.n p)(he:p.enabled H=true)(h16:∀ l∈p.all,l.length≤16):∀ l∈(p.stp m H n).1.all,l.length≤16:=by
 have hlt:=HP.lt_of_en he
 unfold HP.stp
 cases hb:badB p.x with
 | true=>simpa [hb] using h16
 | false =>
  simp -implicitDefEqProofs only[Bool.false_eq_true,if_false]
  by_cases h9:p.x.kind=9
  ·simpa [h9] using h16
  ·simp -implicitDefEqProofs only[h9,if_false]
   by_cases h8:p.x.kind=8
   ·simp -implicitDefEqProofs only[h8,if_true]
    unfold HP.stpP
    split
    ·exact h16
    split
    ·exact h16
    split
    ·intro l hl
     have hl:l∈p.all++[(H.ss (p.at_-p.k-1)).feed.told p.who]:=hl
     rcases List.mem_append.1 hl with hl | hl
     ·exact h16 l hl
     ·rw[List.mem_singleton] at hl
      subst hl
      unfold Feed.told
      split
      ·rename_i hcl
       have hn:p.at_-p.k-1<H.n:=by have:=hg.k; omega
       have hj:p.who.toNat<8:=by simp[clientB] at hcl; omega
       exact ((hs.st _ hn).fd.qs _ hj).2.2
      ·simp -implicitDefEqProofs
    ·exact h16
   ·simp -implicitDefEqProofs only[h8,if_false]
    unfold HP.stpW
    split
    ·exact h16
    split
    ·exact h16
    split
    ·split
     ·exact h16
     split<;>exact h16
    ·exact h16
section
variable {T:Tags}{h:Heap}{g gh gm:Tag}{q mq al hp k:Nat}{p:HP}{m:Mine}{H:Hall}{K:KTy}
theorem heact_ok {n:Int}(w:Wf T h)(gg:Gd g)(ggh:Gd gh)(ggm:Gd gm)(d1:Off (pre g) gh)(d2:Off (pre g) gm)(d3:Off (pre gh) g)(d4:Off (pre gh) gm)(d5:Off (pre gm) g)(d6:Off (pre gm) gh){av ev:Value}{fv cv:Nat→Value}(x:HPX T h g q mq al p.steps p av ev fv cv [])(y:HallR T h gh hp H)(z:MineR T h gm mq m)(hi:HPI p)(h16:∀ l∈p.all,l.length≤16)(he:p.enabled H=true)(hs:HS k H)(hk0:k<100000)(hg:HPG H.n p)
  (hk:ActK T h g gh gm q mq al hp p m H n av fv K):nxM P (do let d ← Deferred.ofValue (fv p.at_) #[ptr hp]; invoke d.target d.args) h K:=by
 have hlt:=HP.lt_of_en he
 have n8:=hs.n8.2
 have n1:=hs.n8.1
 have ac:H.acts.length<1000000:=by have:=hs.ac; omega
 cases hb:badB p.x with
 | true=>exact he_bad w gg d1 d2 x y z hi he hb hk
 | false =>
 by_cases h9:p.x.kind=9
 ·exact he_shut w gg ggh d1 d2 d3 d4 x y z hi he hb h9 ac hk
 have hone:p.one=false:=by simp[HP.one,hb,h9]
 by_cases h8:p.x.kind=8
 ·have hst:p.steps=3*p.k+1:=by simp[HP.steps,hone,h8]
  have hpo:p.poll=true:=by simp[HP.poll,hone,h8]
  have hkn:=hg.k
  have hk1:1≤p.k:=by omega
  have hS:p.stp m H n=((p.stpP H n).1,m,(p.stpP H n).2):=by simp[HP.stp,hb,h9,h8]
  by_cases h1:p.at_<p.k
  ·refine he_lock (s:=p.at_) w ggh d3 d4 x y z hi he (by simp[HP.kd,hb,h8,h1]) (by have:=hg.k; omega) n8 ac hg.w ?_ (.inr (by omega)) ?_ hk
   ·rw[hS]; simp[HP.stpP,h1]
   ·have:¬ p.at_=p.k:=by omega
    simp -implicitDefEqProofs[HP.places,hone,h8,this]
  by_cases h2:p.at_=p.k
  ·refine he_look w gg ggh d1 d2 d3 d4 x y z hi he (by simp[HP.kd,hb,h8,h2]) ac ?_ (.inr (by omega)) ?_ hk
   ·rw[hS]; simp[HP.stpP,h2]
   ·simp -implicitDefEqProofs[HP.places,hone,h8,h2]
  have hpl:p.places=false:=by simp[HP.places,hone,h8,h2]
  have la:=hi.la hpo
  by_cases h3:p.at_≤2*p.k
  ·refine he_drn (s:=p.at_-p.k-1) w gg ggh d1 d2 d3 d4 x y z hi he (by simp[HP.kd,hb,h8,h1,h2,h3]) hs hk0 (by omega) hpo (by omega) (by omega) ?_ (by omega) hpl hk
   rw[hS]; simp[HP.stpP,h1,h2,h3]
  ·have hsn:p.at_-2*p.k-1<H.n:=by omega
   refine he_pun (s:=p.at_-2*p.k-1) w gg ggh d1 d2 d3 d4 x y z hi he (by simp[HP.kd,hb,h8,h1,h2,h3]) hsn n8 ac (hs.st _ hsn).wh hpo (by omega) hkn (by omega) h16 ?_ hst (by omega) hpl hk
   rw[hS]; simp[HP.stpP,h1,h2,h3]
 ·have hst:p.steps=4:=by simp[HP.steps,hone,h8]
  have hpo:p.poll=false:=by simp[HP.poll,h8]
  have hS:p.stp m H n=p.stpW m H n:=by simp[HP.stp,hb,h9,h8]
  by_cases h0:p.at_=0
  ·refine he_lock (s:=p.s) w ggh d3 d4 x y z hi he (by simp[HP.kd,hb,h8,h9,h0]) hg.s n8 ac hg.w ?_ (.inl hpo) ?_ hk
   ·rw[hS]; simp[HP.stpW,h0]
   ·simp -implicitDefEqProofs[HP.places,hone,h8,h0]
  by_cases h1:p.at_=1
  ·refine he_look w gg ggh d1 d2 d3 d4 x y z hi he (by simp[HP.kd,hb,h8,h9,h1]) ac ?_ (.inl hpo) ?_ hk
   ·rw[hS]; simp[HP.stpW,h1]
   ·simp -implicitDefEqProofs[HP.places,hone,h8,h1]
  by_cases h2:p.at_=2
  ·exact he_wat w gg ggh ggm d1 d2 d3 d4 d5 d6 x y z hi he (by simp[HP.kd,hb,h8,h9,h2]) hs hk0 hg.s hg.o.s1 hb h9 h8 h2 hk
  ·refine he_unl (s:=p.s) w ggh d3 d4 x y z hi he (by simp[HP.kd,hb,h8,h9,h0,h1,h2]) hg.s n8 ac (hs.st _ hg.s).wh ?_ (.inl hpo) ?_ hk
   ·rw[hS]; simp[HP.stpW,h0,h1,h2]
   ·simp -implicitDefEqProofs[HP.places,hone,h8,h1]
theorem hestep_ok (n:Int)(w:Wf T h)(gg:Gd g)(ggh:Gd gh)(ggm:Gd gm)(d1:Off (pre g) gh)(d2:Off (pre g) gm)(d3:Off (pre gh) g)(d4:Off (pre gh) gm)(d5:Off (pre gm) g)(d6:Off (pre gm) gh)(x:HPR T h g q mq p)(y:HallR T h gh hp H)(z:MineR T h gm mq m)(hs:HS k H)(hk0:k<100000)(hg:HPG H.n p)
  (hk:∀ T' h',Only (U3p g gh gm) T h T' h'→HPR T' h' g q mq (p.step m H n).1→HallR T' h' gh hp (p.step m H n).2.2→MineR T' h' gm mq (p.step m H n).2.1→K (.tuple #[]) h'):callM P qaQZ #[ptr q,ptr hp,.int .i64 n] h K:=by
 apply quBZ
 unfold qkzZ
 refine heenabled_ok x y hg fun h1 e1=>?_
 have o1:Only non T h T h1:=Only.of_ext w e1
 have x1:=x.kp o1.k (Off.non _) (not_non _)
 have y1:=y.up o1 (Off.non _) (not_non _)
 have z1:=z.kp o1.k (Off.non _)
 unfold qoNZ
 cases he:p.enabled H with
 | false =>
  simp -implicitDefEqProofs
  have e:p.step m H n=(p,m,H):=by simp[HP.step,he]
  rw[e] at hk
  exact hk T h1 (o1.mono non_up) x1 y1 z1
 | true =>
  have hst:p.step m H n=p.stp m H n:=by simp[HP.step,he]
  have hI:=x.1.step m H n
  have hat:=hstep_at p m H n
  have hkk:=hstep_k p m H n
  rw[if_pos he] at hat
  rw[hst] at hk hI hat hkk
  have hpl:=stp_placed (m:=m) (n:=n) he
  have h16':=stp_all16 (m:=m) (n:=n) hs hg he x.2.1
  have hlt:=HP.lt_of_en he
  have hnd:p.done=false:=by simp[HP.done]; omega
  obtain⟨hi,h16,al,av,ev,fv,cv,x1⟩:=x1
  rw[hnd] at x1
  simp -implicitDefEqProofs only[Bool.false_eq_true,if_false] at x1
  have cp:=x1.hp
  simp -implicitDefEqProofs only[hpC] at cp
  obtain⟨b,rb,ia⟩:=x1.ac.1.ia (k:=.i64) hlt
  have hcl:cel h1 b (p.at_*2+1)=some (fv p.at_):=by
   have h1:=x1.ac.1.cels rb (o:=p.at_*2) (m:=2) (by omega)
   rw[seqF_at (sz:=2) (fun i _=>rfl) hlt] at h1
   exact (cels_get h1).2 1 (by simp)
  simp -implicitDefEqProofs
  unfold qoMZ
  rw[seqM_eq]
  unfold qoLZ
  simp -implicitDefEqProofs[ld_at cp,cel_of cp,stm_at cp,stm_upd,ld_same,cel_same,over,ia,hcl]
  refine heact_ok (n:=n) o1.wf gg ggh ggm d1 d2 d3 d4 d5 d6 x1 y1 z1 hi h16 he hs hk0 hg ?_
  intro T2 h2 ev2 cv2 o2 x2 y2 z2
  have cp:=x2.hp
  simp -implicitDefEqProofs only[hpC] at cp
  have hw:IntKind.i64.wrap ((p.at_:Int)+1)=(p.at_+1:Nat):=by
   have:p.steps≤3*8+4:=by
    have h1:=hg.k
    have h2:=hs.n8.2
    unfold HP.steps; split
    ·omega
    ·split<;>omega
   rw[wrap64_id (by omega) (by omega)]; omega
  -- the counting
  have fin:∀ (p1:HP) (h3:Heap) (s:Env),Only (fun t=>t=g++[0]) T2 h2 T2 h3→p1={ (p.stp m H n).1 with at_:=p.at_ }→HPX T2 h3 g q mq al p.steps p1 av ev2 fv cv2 (if (p.stp m H n).1.done then (p.stp m H n).1.rep.evs else [])→s 0=ptr q→qiCZ s h3 K []:=by
   intro p1 h3 s o3 hp1 x3 s0
   have y3:=y2.up o3 (fun t ht hh=>d1 t ht (eq_pre hh)) (by simp)
   have z3:=z2.kp o3.k (fun t ht hh=>d2 t ht (eq_pre hh))
   have p1a:p1.at_=p.at_:=by rw[hp1]
   have cp:=x3.hp
   simp -implicitDefEqProofs only[hpC,p1a] at cp
   unfold qiCZ
   obtain⟨o4,x4⟩:=x3.st (p':=(p.stp m H n).1) (ev':=ev2) o3.wf (c:=_) rfl (by rw[hp1]) (by rw[hp1]) (by rw[hp1]) (by rw[hp1]) (by rw[hp1]) x3.ev
   have hst4:(p.stp m H n).1.steps=p.steps:=by unfold HP.steps HP.one; rw[hkk.2.1,hkk.2.2.1]
   have R4:HPR T2 _ g q mq (p.stp m H n).1:=⟨hI,h16',al,av,ev2,fv,cv2,by rw[hst4]; exact x4⟩
   have K4:=hk T2 _ (((o1.mono non_up).trans o2).trans ((o3.trans o4).mono fun _ hh=>.inl (eq_pre hh))) R4 (y3.up o4 (fun t ht hh=>d1 t ht (eq_pre hh)) (by simp)) (z3.kp o4.k (fun t ht hh=>d2 t ht (eq_pre hh)))
   simp -implicitDefEqProofs only[hpC,hat] at K4
   simp -implicitDefEqProofs[s0,ld_at cp,cel_of cp,stm_at cp,stm_upd,ld_same,cel_same,over,hw,-Int.natCast_add]
   rw[hp1]
   exact K4
  unfold qoKZ
  cases hpc:p.places with
  | true =>
   rw[hpc] at hpl
   simp -implicitDefEqProofs only[if_true] at hpl
   simp -implicitDefEqProofs
   unfold qoIZ
   simp -implicitDefEqProofs
   apply qtCZ
   unfold qiIZ
   obtain⟨o3,x3⟩:=x2.st (p':={ (p.stp m H n).1 with at_:=p.at_ }) (ev':=ev2) o2.wf (c:=_) rfl rfl rfl rfl rfl rfl x2.ev
   simp -implicitDefEqProofs only[hpC,hpl] at o3 x3
   simp -implicitDefEqProofs[ld_at cp,cel_of cp,stm_at cp,stm_upd,ld_same,cel_same,over]
   unfold qoHZ
   simp -implicitDefEqProofs
   refine fin { (p.stp m H n).1 with at_:=p.at_,placed:=n } _ _ o3 ?_ x3 (by simp)
   exact congrArg (fun z=>({ (p.stp m H n).1 with at_:=p.at_,placed:=z }:HP)) hpl.symm
  | false =>
   rw[hpc] at hpl
   simp -implicitDefEqProofs only[Bool.false_eq_true,if_false] at hpl
   simp -implicitDefEqProofs
   unfold qoJZ
   simp -implicitDefEqProofs
   refine fin _ h2 _ (Only.refl o2.wf) ?_ x2 (by simp)
   have:(p.stp m H n).1={ (p.stp m H n).1 with placed:=p.placed }:=by rw[← hpl]
   rw[this]
theorem hereply_ok (w:Wf T h)(x:HPR T h g q mq p)(hk:∀ h' vv ev,Ext h h'→RpX (fz T h') (PR.h p).rep vv ev→K (.agg (rplC (PR.h p).rep vv ev).toArray) h'):callM P qisZ #[ptr q] h K:=by
 apply queZ
 unfold qjoZ
 rw[zcRep]
 refine nw_intro fun v1 h1 n1 e1 c1=>?_
 have o1:Only non T h T h1:=Only.of_ext w e1
 obtain⟨hi,h16,al,av,ev,fv,cv,x⟩:=x
 have x1:=x.kp o1.k (Off.non _) (not_non _)
 refine hedone_ok ⟨hi,h16,al,av,ev,fv,cv,x1⟩ ?_
 unfold qnEZ
 cases hd:p.done with
 | false =>
  simp -implicitDefEqProofs[ld_at c1,cel_of c1,stm_at c1,stm_upd,ld_same,cel_same,over,bdRep0]
  have hr:(PR.h p).rep=rep0:=by simp[PR.rep,hd]
  rw[hr] at hk
  refine kv (hk _ (.slice none 0 0) (.slice none 0 0) (ext_upd n1 e1) (RpX.no _ rfl rfl)) ?_
  simp -implicitDefEqProofs[rplC,rep0]
 | true =>
  rw[hd] at x1 x
  simp -implicitDefEqProofs only[if_true] at x1 x
  have hr:(PR.h p).rep=p.rep:=by simp[PR.rep,hd]
  rw[hr] at hk
  have cp:=x1.hp
  simp -implicitDefEqProofs only[hpC] at cp
  simp -implicitDefEqProofs
  unfold qnDZ
  have vo:=x1.ev.one
  simp -implicitDefEqProofs[ld_at c1,cel_of c1,stm_at c1,ld_at cp,cel_of cp,stm_at cp,stm_upd,ld_same,cel_same,over,vo.1]
  have E:=ext_upd (o:=.cells #[.int .i64 p.rep.err,.slice none 0 0,ev,.bool p.rep.lost] qcZ (0,0)) n1 e1
  refine kv (hk _ (.slice none 0 0) ev E ⟨?_,?_⟩) ?_
  ·rw[hi.vs]; exact .inl ⟨rfl,_,_,rfl⟩
  ·exact x.ev.ext (@EvR.ext) (fz_of_ext E)
  ·simp -implicitDefEqProofs[rplC]
end
end Go.Proofs.YtcnphhhcknhhaaaGreat
namespace Go.Proofs.YtcnphhhcknhhaaaGreat
open Go Go.Den Go.MapKept
set_option linter.unusedSimpArgs false
set_option linter.unusedVariables false
set_option maxRecDepth 20000
theorem mallX_at {b:List (ByteArray × Int)}{Lv:List (List Value)}{F:Heap}(l2:El 1 MaskR F Lv (b.map (·.2))){i:Nat}(hi:i<(mallX b Lv).length):∃ (hb:i<b.length),(mallX b Lv)[i]=#[.string b[i].1,.int .u32 b[i].2]:=by
 have hb:i<b.length:=by simpa [mallX] using hi
 have hL:i<Lv.length:=by rw[l2.len]; simpa using hb
 have he:Lv[i]=[.int .u32 b[i].2]:=by have:=l2.el i hL (by simpa using hb); simpa [MaskR] using this
 refine⟨hb,?_⟩
 simp -implicitDefEqProofs only[mallX,List.getElem_map,List.getElem_range]
 have e1:b.getD i (⟨#[]⟩,0)=b[i]:=by rw[List.getD_eq_getElem?_getD,List.getElem?_eq_getElem hb]; rfl
 have e2:Lv.getD i []=Lv[i]:=by rw[List.getD_eq_getElem?_getD,List.getElem?_eq_getElem hL]; rfl
 rw[e1,e2,he]; rfl
def cntTo (ws:List (ByteArray × Int))(who:Int)(i:Nat):Nat:=((ws.take i).filter fun x=>clientB who && mbit x.2 who).length
theorem cntTo_s {ws:List (ByteArray × Int)}{who:Int}{i:Nat}(hi:i<ws.length):cntTo ws who (i+1)=cntTo ws who i+if (clientB who && mbit ws[i].2 who)=true then 1 else 0:=by
 unfold cntTo
 rw[List.take_succ_eq_append_getElem hi,List.filter_append,List.length_append]
 by_cases h:(clientB who && mbit ws[i].2 who)=true<;>simp[List.filter_cons,h]
theorem cntTo_le (ws:List (ByteArray × Int))(who:Int)(i:Nat):cntTo ws who i≤ws.length:=Nat.le_trans (List.length_filter_le _ _) (by simp; omega)
def CnJ (hB:Heap)(v3:Nat)(ws:List (ByteArray × Int))(who:Int)(i:Nat)(h':Heap):Prop:=Ext (wo hB [v3]) h'∧h' v3=some (.cells #[.int .i64 (cntTo ws who i)] qjZ (0,0))
def CnC (hB:Heap)(v1 v3:Nat)(ws:List (ByteArray × Int))(who:Int)(i:Nat)(s2:Env)(h':Heap):Prop:=CnJ hB v3 ws who i h'∧s2 3=ptr v1∧s2 5=ptr v3∧∃ (hi:i<ws.length),s2 7 = .int .u32 ws[i].2
variable {K:KTy}
theorem fcount_ok (who:Int){T:Tags}{h:Heap}{g:Tag}{p:Nat}{f:Feed}(x:FeedR T h g p f)(fg:FdG f)(hk:∀ h',Ext h h'→K (.int .i64 (f.count who)) h'):callM P qaAZ #[ptr p,.int .i64 who] h K:=by
 apply qujZ
 unfold qjtZ
 refine nw_intro fun v1 h1 n1 e1 c1=>?_
 rw[zcInt]
 refine nw_st rfl rfl (by simp) fun v3 h3 n3 e3 c3=>?_
 have c1:=e3 _ _ c1
 have e0:=e1.trans e3
 have n3':h v3=none:=fresh_of e1 n3
 have ne13:v1≠v3:=ne_fresh ‹h1 v1=_› n3
 obtain⟨kw,vw,q,cp,tp,x1,x2,xq,s1,s2⟩:=x
 have cp:=e0 _ _ cp
 have hag:ldV (some (some 2)) (ptr p) h3=some (.agg #[kw,vw]):=by simp[ld_at cp,feedC,feedG,List.range_succ]
 rw[seqM_eq]
 unfold qnVZ
 simp -implicitDefEqProofs[hag]
 have xW:WsR (fz T h) kw vw f.ws:=⟨x1,x2,s1,s2⟩
 have eF:=(fz_ext T h).trans e0
 refine mall_ok f.ws eF xW fun pA hB nA eA cA=>?_
 have nA3:v3≠pA:=ne_fresh c3 nA
 have c3:=eA _ _ c3
 have c1:=eA _ _ c1
 have e0B:=e0.trans eA
 obtain⟨Lv,l1,l2⟩:=x2.els MaskR.one
 simp -implicitDefEqProofs only[List.length_map] at l1
 have hF3:(fz T h) v3=none:=by
  cases hh:(fz T h) v3 with
  | none=>rfl
  | some o=>rw[fz_ext T h _ _ hh] at n3'; cases n3'
 have F1:Ext (fz T h) (wo hB [v3]):=wo_ext ((fz_ext T h).trans e0B) (by simpa using hF3)
 have hlen:=fg.len
 unfold qnUZ
 refine rf_go good mixed rfl (by kernel_rfl) (mall_it f.ws (hA:=wo hB [v3]) (p:=pA) (kw:=kw) (vw:=vw) (Lv:=Lv) (by rw[wo_out (by simpa using Ne.symm nA3)]; exact cA) (xW.ext F1) (l1.ext F1) l2.size (by simpa using l2.len))
  (fun l b' i h'=>CnJ hB v3 f.ws who i h') (fun _ _ _ _=>False) (fun l b' i s2 h'=>CnC hB v1 v3 f.ws who i s2 h') ?_ ?_ ?_ (fun _ _ _ _ _ _ _ h _=>h) ?_ ?_ ?_ ?_ ?_ (fun _ _ _ _ _ _ _ h=>h.elim) (fun _ _ _ _ _ _ _ _ h=>h.elim)
 ·intro l b' hl' hb'
  exact⟨fun q o hq=>(wo_get hq).2,by simpa [cntTo] using c3⟩
 ·intro l b' i h' J; exact J.1
 ·intro l b' hl' hb' i h' h'' J k
  exact⟨wo_keep J.1 hl' k,k _ _ J.2 (fun hh=>by cases hh; rw[hl'] at c3; cases c3)⟩
 ·rintro l b' i s2 ha hb hl' hb' ⟨J,s3,s5,hi,s7⟩ k
  exact⟨⟨wo_keep J.1 hl' k,k _ _ J.2 (fun hh=>by cases hh; rw[hl'] at c3; cases c3)⟩,s3,s5,hi,s7⟩
 ·intro i hi; simp[mallX]
 ·rintro i hi l b' h2 hl' hb' ⟨ol,hol⟩ ⟨ob,hob⟩ J
  rw[qsbZ]
  unfold qmcZ
  obtain⟨hib,hx⟩:=mallX_at l2 hi
  rw[hx]
  simp -implicitDefEqProofs
  exact⟨J,by simp,by simp,hib,by simp⟩
 ·rintro i hi l b' s2 h3 hl' hb' ⟨ol,hol⟩ ⟨ob,hob⟩ ⟨J,s3,s5,hib,s7⟩
  rw[qscZ]
  unfold qmdZ
  have cv:=J.2
  have cw:h3 v1=some (.cells #[.int .i64 who] qjZ (0,0)):=J.1 _ _ (by rw[wo_out (by simpa using ne13)]; exact c1)
  obtain⟨m0,m1⟩:=fg.ms _ (List.getElem_mem hib)
  have hle:=cntTo_le f.ws who i
  have hw:IntKind.i64.wrap ((cntTo f.ws who i:Int)+1)=(cntTo f.ws who i+1:Nat):=by rw[wrap64_id (by omega) (by omega)]; omega
  have hl3:l≠v3:=fun hh=>by subst hh; rw[hl'] at c3; cases c3
  have hb3:b'≠v3:=fun hh=>by subst hh; rw[hb'] at c3; cases c3
  have hs:=cntTo_s (who:=who) hib
  simp -implicitDefEqProofs[s3,ld_at cw,cel_of cw,stm_at cw,stm_upd,ld_same,cel_same,over]
  refine client_ok who ?_
  cases hc:clientB who with
  | false =>
   rw[hc] at hs
   simp -implicitDefEqProofs only[Bool.false_and,Bool.false_eq_true,if_false,Nat.add_zero] at hs
   simp -implicitDefEqProofs
   exact⟨J.1,by rw[hs]; exact cv⟩
  | true =>
   rw[hc] at hs
   have hc':0≤who∧who<8:=by simpa [clientB] using hc
   have m2:0≤f.ws[i].2 / 2 ^ who.toNat:=Int.ediv_nonneg m0 (Int.pow_nonneg (by omega))
   have m3:f.ws[i].2 / 2 ^ who.toNat<4294967296:=Int.lt_of_le_of_lt (Int.ediv_le_self _ m0) m1
   by_cases hm:f.ws[i].2 / 2 ^ who.toNat % 2=1
   ·have hmb:mbit f.ws[i].2 who=true:=by simp[mbit,hm]
    rw[hmb] at hs
    simp -implicitDefEqProofs only[Bool.and_self,if_true] at hs
    simp -implicitDefEqProofs[s3,s5,s7,ld_at cw,cel_of cw,stm_at cw,ld_at cv,cel_of cv,stm_at cv,stm_upd,ld_same,cel_same,over,bin_shr32 _ _ hc'.1 hc'.2 m0,bin_and32 _ _ m2 m3,hm,hw,-Int.natCast_add]
    exact⟨by rw[upd_ne hl3,hol],by rw[upd_ne hb3,hob],wo_upd J.1 (by simp),by rw[upd_same',hs]⟩
   ·have hmb:mbit f.ws[i].2 who=false:=by simp[mbit,hm]
    rw[hmb] at hs
    simp -implicitDefEqProofs only[Bool.and_false,Bool.false_eq_true,if_false,Nat.add_zero] at hs
    simp -implicitDefEqProofs[s3,s5,s7,ld_at cw,cel_of cw,stm_at cw,ld_at cv,cel_of cv,stm_at cv,stm_upd,ld_same,cel_same,over,bin_shr32 _ _ hc'.1 hc'.2 m0,bin_and32 _ _ m2 m3,hm]
    exact⟨J.1,by rw[hs]; exact cv⟩
 ·intro l b' h' hl' hlb hb' hd J
  have hlx:(mallX f.ws Lv).length=f.ws.length:=by simp[mallX]
  rw[hlx] at J
  have cv:=J.2
  have nb3:v3≠b':=fun hh=>by subst hh; rw[hb'] at c3; cases c3
  simp -implicitDefEqProofs only[blkM_n,thenM_n]
  simp -implicitDefEqProofs[ld_at cv,cel_of cv,stm_at cv,stm_upd,ld_same,cel_same,over,hd,ld_skip nb3,cel_skip nb3]
  have hct:cntTo f.ws who f.ws.length=f.count who:=by simp[cntTo,Feed.count]
  rw[hct]
  refine hk _ ?_
  exact ext_upd (o:=.deferred none) (fresh_of e0B hb') (ext_wo e0B (by simpa using n3') J.1)
end Go.Proofs.YtcnphhhcknhhaaaGreat
namespace Go.Den
open Go
set_option linter.unusedVariables false
theorem Rw.appk {P:Program}{t ty e:TypeId}{sz bytes:Nat}{z:Array Value}{g:Tag}{v x:Value}{n:Nat}{xs:List Value}{T:Tags}{h:Heap}{K:Value→Value→Heap→Prop}
  (hb:bsI P t=some (e,sz,z)) (ht:P.underlying t=some (.slice e)) (hi:apC P e=some (sz,bytes,sz)) (hsz:0<sz) (hx:x.cells.size=sz) (h1:∀ u∈x.cells.toList,u.oneCell'=true) (w:Wf T h)
  (hv:Rw T h g sz e v n xs) (h63:n+1≤maxLen) (hby:(n+1)*bytes≤140737488355328) (hs:sz≤16777216) (hg:g≠[])
  (hk:∀ a v' T' h',Only (fun t=>t=g) T h T' h'→Rw T' h' g sz e v' (n+1) (xs++x.cells.toList)→(∀ b o,h b=some o→rowOf v≠some b→h' b=some o)→(rowOf v'=rowOf v∨∃ b,rowOf v'=some b∧h b=none)→K a v' h') :
  bsM (bsI P t) 1 [(0,x)] h fun a h'=>vvM P (Builtin.append_ #[t,t] ty #[v,a]) h' (K a):=by
 refine bs_one hb hx hs fun b h1' hbn he hc=>?_
 have o1:Only (fun t=>t=g) T h T h1':=Only.of_ext w he
 have hv1:Rw T h1' g sz e v n xs:=hv.kp (U:=non) (Only.of_ext w he).k (fun h=>h)
 refine vv_al ?_
 refine app_intro ht hi hsz hv1.1 (cels_one hc hx) h1 h63 hby fun v' h' hr hkp ha hal=>?_
 have hrow:∀ k,rowOf v=some k→T k=g:=hv.2
 have keep:∀ b o,h b=some o→rowOf v≠some b→h' b=some o:=fun k o ek hne=>hkp k o (he _ _ ek) (fun hh=>hne hh.symm)
 rcases ha with ha | ⟨k,ha,hn⟩
 ·have o2:Only (fun t=>t=g) T h1' T h':=by
   refine⟨fun k hk0=>?_,fun _ _ _=>rfl,fun k o e=>hal k o e,fun k o e n=>hkp k o e (fun hh=>n (hrow k hh.symm))⟩
   cases hh:h1' k with
   | none=>exact o1.wf k hh
   | some o=>obtain⟨o',ho'⟩:=hal k o hh; rw[ho'] at hk0; cases hk0
  exact hk _ v' T h' (o1.trans o2) ⟨hr,fun k hk0=>hrow k (by rw[← ha]; exact hk0)⟩ keep (.inl ha)
 ·have hne:∀ j o,h1' j=some o→j≠k:=fun j o e hj=>by subst hj; rw[hn] at e; cases e
  have o2:Only (fun t=>t=g) T h1' (tset T k g) h':=by
   refine⟨fun j hj=>?_,fun j o e=>tset_ne (hne j o e),fun j o e=>hal j o e,fun j o e n=>hkp j o e (fun hh=>n (hrow j hh.symm))⟩
   have hjk:j≠k:=fun e=>by
    subst e
    obtain⟨o,ho⟩:=hr.lt j ha
    rw[ho] at hj; cases hj
   rw[tset_ne hjk]
   cases hh:h1' j with
   | none=>exact o1.wf j hh
   | some o=>obtain⟨o',ho'⟩:=hal j o hh; rw[ho'] at hj; cases hj
  refine hk _ v' (tset T k g) h' (o1.trans o2) ⟨hr,fun j hj=>?_⟩ keep (.inr ⟨k,ha,fresh_of he hn⟩)
  rw[ha] at hj
  simp only[Option.some.injEq] at hj
  subst hj
  simp
theorem Only.keepk {U V:Tag→Prop}{T T1 T2:Tags}{h h1 h2:Heap}{r:Option Nat}(x:Only U T h T1 h1)(y:Only V T1 h1 T2 h2)(k:∀ b o,h1 b=some o→r≠some b→h2 b=some o)(hr:∀ b,r=some b→h b=none):Only U T h T2 h2:=by
 have kk:∀ b o o1,h b=some o→h1 b=some o1→h2 b=some o1:=fun b o o1 e e1=>k b o1 e1 fun hh=>by rw[hr b hh] at e; cases e
 refine⟨y.wf,fun b o e=>?_,fun b o e=>?_,fun b o e u=>?_⟩
 ·obtain⟨o1,e1⟩:=x.al b o e
  rw[y.tg b o1 e1,x.tg b o e]
 ·obtain⟨o1,e1⟩:=x.al b o e
  exact⟨o1,kk b o o1 e e1⟩
 ·exact kk b o o e (x.kp b o e u)
end Go.Den
namespace Go.Proofs.YtcnphhhcknhhaaaGreat
open Go Go.Den Go.MapKept
set_option linter.unusedSimpArgs false
set_option linter.unusedVariables false
set_option maxRecDepth 20000
section
variable {T:Tags}{h:Heap}{g:Tag}{p m:Nat}{M:Tbl}{K:KTy}
theorem ts_n8 (x:TS m M):1≤M.n∧M.n≤8:=by
 have h1:=x.rt
 have h2:=x.nn
 simp -implicitDefEqProofs only[rightB,decide_eq_true_eq] at h1; omega
theorem mpres_ok (u:ByteArray)(hu:u.size≤maxLen)(w:Wf T h)(x:MdR T h g p M)(hs:TS m M)(hm:m<100000)(hk:∀ h',Ext h h'→K (.agg (presC (M.pres u)).toArray) h'):callM P qftZ #[ptr p,.string u] h K:=by
 apply qqVZ
 unfold qfSZ
 rw[zcPres]
 refine nw_intro fun v1 h1 n1 e1 c1=>?_
 have o1:Only non T h T h1:=Only.of_ext w e1
 have x1:=x.kp o1.k (Off.non _) (not_non _)
 have n8:=ts_n8 hs
 have nn:=hs.nn
 obtain⟨bv,fv,Kk,V,F,y⟩:=x1
 have cp:=y.hp
 simp -implicitDefEqProofs only[mdC] at cp
 have hst:=stripeOf_lt (u:=u) (n:=M.c.stripes) (by omega)
 obtain⟨s,hs'⟩:∃ s:Nat,stripeOf u M.c.stripes=s:=⟨(stripeOf u M.c.stripes).toNat,by omega⟩
 have hsn:s<M.n:=by omega
 simp -implicitDefEqProofs[ld_at cp,cel_of cp,stm_at cp,stm_upd,ld_same,cel_same,over]
 refine mstripe_ok u hu ⟨bv,fv,Kk,V,F,y⟩ (by omega) ?_
 rw[hs']
 obtain⟨b,rb,ia,ld⟩:=y.ldb hsn
 have bk:=hs.bk s hsn
 have hpr:M.pres u=presB (M.bk s) u M.t.now:=by unfold Tbl.pres Tbl.stripe; rw[hs']; simp
 unfold qiNZ
 simp -implicitDefEqProofs[ld_at cp,cel_of cp,stm_at cp,stm_upd,ld_same,cel_same,over,ia,ld]
 refine presence_ok (M.bk s) (bk.g hm).so u M.t.now (fz_ext T h1) (y.br s hsn) (bk.g hm).len ((bk.g hm).ss u) fun h2 e2=>?_
 have c1:=e2 _ _ c1
 rw[← hpr]
 simp -implicitDefEqProofs only[presC]
 simp -implicitDefEqProofs[ld_at c1,cel_of c1,stm_at c1,stm_upd,ld_same,cel_same,over]
 exact kv (hk _ (ext_upd n1 (e1.trans e2))) (by simp[presC])
theorem mcnt_s (M:Tbl)(who:Int)(s:Nat):((List.range (s+1)).map fun s=>(M.fd s).count who).sum=((List.range s).map fun s=>(M.fd s).count who).sum+(M.fd s).count who:=by simp[List.range_succ,List.map_append,List.sum_append]
def McI (h0:Heap)(M:Tbl)(who:Int)(i:Nat)(nv:Value)(h':Heap):Prop:=Ext h0 h'∧nv = .int .i64 (((List.range i).map fun s=>(M.fd s).count who).sum:Nat)
theorem mwatch_ok (who:Int)(u:ByteArray)(hu:u.size≤maxLen)(w:Wf T h)(gg:Gd g)(x:MdR T h g p M)(hs:TS m M)(hm:m<100000)(hk:∀ T' h',Only (pre g) T h T' h'→MdR T' h' g p (M.watch who u).1→K (.int .i64 (M.watch who u).2.err) h'):callM P qgyZ #[ptr p,.int .i64 who,.string u] h K:=by
 apply qsXZ
 unfold qhRZ
 have n8:=ts_n8 hs
 have nn:=hs.nn
 obtain⟨bv,fv,Kk,V,F,y⟩:=x
 have cp:=y.hp
 simp -implicitDefEqProofs only[mdC] at cp
 have hst:=stripeOf_lt (u:=u) (n:=M.c.stripes) (by omega)
 obtain⟨s,hs'⟩:∃ s:Nat,stripeOf u M.c.stripes=s:=⟨(stripeOf u M.c.stripes).toNat,by omega⟩
 have hsn:s<M.n:=by omega
 have hms:M.stripe u=s:=by unfold Tbl.stripe; rw[hs']; simp
 simp -implicitDefEqProofs[ld_at cp,cel_of cp,stm_at cp,stm_upd,ld_same,cel_same,over]
 refine mstripe_ok u hu ⟨bv,fv,Kk,V,F,y⟩ (by omega) ?_
 rw[hs']
 obtain⟨b,ia,ld⟩:=y.ldf hsn
 unfold qlDZ
 simp -implicitDefEqProofs[ld_at cp,cel_of cp,stm_at cp,stm_upd,ld_same,cel_same,over,ia,ld]
 rw[seqM_eq]
 unfold qlzZ
 have fl:=y.fd.len
 simp -implicitDefEqProofs[ld_at cp,cel_of cp,stm_at cp,stm_upd,ld_same,cel_same,over,fl]
 refine loop_on [0,1,2,7,23,24] (fun s' h'=>∃ i:Nat,McI h M who i (s' 8) h'∧s' 25 = .int .i64 i∧i≤M.n) (fun s' _=>(M.n-num (s' 25)).toNat) ⟨0,⟨Ext.refl _,by simp⟩,rfl,by omega⟩ ?_
 rintro r h2 hf ⟨i,⟨e2,r8⟩,r25,hi⟩
 have r0:r 0=ptr p:=by simpa using hf 0 (by simp)
 have r1:r 1 = .int .i64 who:=by simpa using hf 1 (by simp)
 have r2:r 2 = .string u:=by simpa using hf 2 (by simp)
 have r7:r 7=ptr (F s):=by simpa using hf 7 (by simp)
 have r23:r 23=fv:=by simpa using hf 23 (by simp)
 have r24:r 24 = .int .i64 M.n:=by simpa using hf 24 (by simp)
 have o2:Only non T h T h2:=Only.of_ext w e2
 have y2:=y.kp o2.k (Off.non _) (not_non _)
 have cle:∀ j,j≤M.n→((List.range j).map fun s=>(M.fd s).count who).sum≤100000*j:=by
  intro j
  induction j with
  | zero=>intro _; simp
  | succ j ih =>
   intro hj
   have h1:=ih (by omega)
   have h2:(M.fd j).count who≤m:=Nat.le_trans (List.length_filter_le _ _) (hs.fd j (by omega)).len
   rw[mcnt_s]; omega
 unfold qlyZ
 simp -implicitDefEqProofs[r24,r25]
 refine⟨fun hc=>?_,fun hc=>?_⟩
 ·have hlt:i<M.n:=by omega
  obtain⟨b',ia',ld'⟩:=y2.ldf hlt
  have hw1:IntKind.i64.wrap ((i:Int)+1)=(i+1:Nat):=by rw[wrap64_id (by omega) (by omega)]; omega
  have c1:=cle (i+1) (by omega)
  rw[mcnt_s] at c1
  have hw2:IntKind.i64.wrap (((((List.range i).map fun s=>(M.fd s).count who).sum:Nat):Int)+((M.fd i).count who:Nat))=(((List.range (i+1)).map fun s=>(M.fd s).count who).sum:Nat):=by
   rw[mcnt_s,wrap64_id (by omega) (by omega)]; omega
  unfold qlxZ
  simp -implicitDefEqProofs[r1,r23,r25,ia',ld']
  refine fcount_ok who (y2.fr i hlt) ((hs.fd i hlt).g hm) fun h3 e3=>?_
  unfold qlwZ
  simp -implicitDefEqProofs[r0,r1,r2,r7,r8,r23,r24,r25,hw1,hw2,-Int.natCast_add]
  exact⟨⟨i+1,⟨e2.trans e3,rfl⟩,rfl,by omega⟩,by omega⟩
 have hie:i=M.n:=by omega
 subst hie
 have fg:=(hs.fd s hsn).g hm
 unfold qlCZ
 simp -implicitDefEqProofs[r1,r2,r7]
 refine watching_ok who u (y2.fr s hsn) fg fun h3 e3=>?_
 have o3:Only non T h2 T h3:=Only.of_ext o2.wf e3
 have y3:=y2.kp o3.k (Off.non _) (not_non _)
 have cp:=y3.hp
 simp -implicitDefEqProofs only[mdC] at cp
 have o23:=o2.trans o3
 have set_:∀ r':Env,r' 7=ptr (F s)→r' 1 = .int .i64 who→r' 2 = .string u→M.watch who u=(M.fed (M.stripe u) ((M.fd (M.stripe u)).watch who u),rep0)→∀ v25 v27 v28 v31 v34 v38 v42 v46 v50 v54,qglZ r' h3 K [] v25 v27 v28 v31 v34 v38 v42 v46 v50 v54:=by
  intro r' r7 r1 r2 hM v25 v27 v28 v31 v34 v38 v42 v46 v50 v54
  unfold qglZ
  simp -implicitDefEqProofs only[r7,r1,r2]
  refine fwatch_ok who u hu o3.wf (gg.app _) (y3.fr s hsn) fg (by have:=(hs.fd s hsn).len; omega) fun T4 h4 o4 x4=>?_
  unfold qkiZ
  simp -implicitDefEqProofs
  rw[hM,hms] at hk
  exact hk T4 h4 ((o23.mono non_up).trans (o4.mono fun t=>pre_trans)) ⟨bv,fv,Kk,V,F,y3.fed o4 gg x4⟩
 unfold qlBZ
 cases hwt:(M.fd s).watching who u with
 | true =>
  simp -implicitDefEqProofs
  exact set_ _ (by simp[r7]) (by simp[r1]) (by simp[r2]) (by unfold Tbl.watch; rw[hms,hwt]; simp) _ _ _ _ _ _ _ _ _ _
 | false =>
  simp -implicitDefEqProofs[r0,r8,ld_at cp,cel_of cp,stm_at cp,stm_upd,ld_same,cel_same,over]
  refine⟨fun hc=>?_,fun hc=>?_⟩
  ·unfold qlAZ
   simp -implicitDefEqProofs
   have hM:M.watch who u=(M,repE 4):=by unfold Tbl.watch; rw[hms,hwt,if_pos ⟨rfl,hc⟩]
   rw[hM] at hk
   exact hk T h3 (o23.mono non_up) ⟨bv,fv,Kk,V,F,y3⟩
  ·have hM:M.watch who u=(M.fed (M.stripe u) ((M.fd (M.stripe u)).watch who u),rep0):=by
    unfold Tbl.watch
    rw[if_neg]
    rintro⟨_,h2⟩
    have:(M.count who:Int)=(((List.range M.n).map fun s=>(M.fd s).count who).sum:Nat):=rfl
    omega
   exact set_ _ (by simp[r7]) (by simp[r1]) (by simp[r2]) hM _ _ _ _ _ _ _ _ _ _
end
end Go.Proofs.YtcnphhhcknhhaaaGreat
namespace Go.Proofs.YtcnphhhcknhhaaaGreat
open Go Go.Den Go.MapKept
set_option linter.unusedSimpArgs false
set_option linter.unusedVariables false
set_option maxRecDepth 20000
theorem bsSlEv:bsI P qyZ=some (qlZ,1,#[.slice none 0 0]):=by kernel_rfl
structure MpI (T0:Tags)(h0:Heap)(g:Tag)(p:Nat)(M:Tbl)(who:Int)(bv fv:Value)(Kk V:Nat→Value)(F:Nat→Nat)(v1 v3:Nat)(i:Nat)(av:Value)(T':Tags)(h':Heap):Prop where
 o:Only (pre g) T0 h0 T' h'
 x:MdX T' h' g p (M.drainTo who i) bv fv Kk V F
 a:∃ cv:Nat→Value,Rw T' h' lc 1 qlZ av i (seqF i fun j=>[cv j])∧∀ j,j<i→Sl 8 EvR (fz T' h') (cv j) ((M.fd j).told who)
 n:∀ b,rowOf av=some b→h0 b=none∧b≠v1∧b≠v3
 b1:h' v1=some (.cells #[.int .i64 0,.slice none 0 0,.slice none 0 0,.bool false] qcZ (0,0))∧T' v1=lc
 b3:h' v3=some (.cells #[.int .i64 0,.slice none 0 0,.slice none 0 0,.bool (M.lostTo who i)] qcZ (0,0))∧T' v3=lc
theorem drainTo_s (M:Tbl)(who:Int)(i:Nat):(M.drainTo who i).fed i ((M.fd i).drain who)=M.drainTo who (i+1):=by
 unfold Tbl.drainTo Tbl.fed bset
 congr 1
 funext k
 by_cases h:k=i
 ·subst h; simp
 ·by_cases h2:k<i
  ·have:k<i+1:=by omega
   simp -implicitDefEqProofs[h,h2,this]
  ·have:¬ k<i+1:=by omega
   simp -implicitDefEqProofs[h,h2,this]
theorem drainTo_fd (M:Tbl)(who:Int)(i:Nat):(M.drainTo who i).fd i=M.fd i:=by simp[Tbl.drainTo]
theorem lostTo_s (M:Tbl)(who:Int)(i:Nat):M.lostTo who (i+1)=(M.lostTo who i || (M.fd i).lost who):=by simp[Tbl.lostTo,List.range_succ,List.any_append]
def MpE (T0:Tags)(h0:Heap)(g:Tag)(p:Nat)(M:Tbl)(who:Int)(bv fv:Value)(Kk V:Nat→Value)(F:Nat→Nat)(v1 v3:Nat)(i:Nat)(av:Value)(h':Heap):Prop:=∃ T',MpI T0 h0 g p M who bv fv Kk V F v1 v3 i av T' h'
variable {K:KTy}
set_option maxHeartbeats 1000000 in
theorem mpoll_ok (who:Int){T:Tags}{h:Heap}{g:Tag}{p m:Nat}{M:Tbl}(w:Wf T h)(gg:Gd g)(x:MdR T h g p M)(hs:TS m M)(hm:m<100000)
  (hk:∀ T' h' vv ev,Only (pre g) T h T' h'→MdR T' h' g p (M.poll who).1→RpX (fz T' h') (M.poll who).2 vv ev→K (.agg (rplC (M.poll who).2 vv ev).toArray) h'):callM P qhCZ #[ptr p,.int .i64 who] h K:=by
 apply qtJZ
 unfold qiMZ
 have n8:=ts_n8 hs
 rw[zcRep]
 refine nw_tag w lc fun v1 T1 h1 n1 o1 t1 c1=>?_
 refine nw_tag o1.wf lc fun v3 T3 h3 n3 o3 t3 c3=>?_
 have o13:=o1.trans o3
 have n3':h v3=none:=by
  cases hh:h v3 with
  | none=>rfl
  | some o=>obtain⟨o',ho'⟩:=o1.al _ _ hh; rw[n3] at ho'; cases ho'
 have ne13:v1≠v3:=ne_fresh c1 n3
 have b1:=o3.see ⟨c1,t1⟩ (not_non _)
 have hlcg:¬ pre g lc:=fun hh=>gg.off lc hh rfl
 obtain⟨bv,fv,Kk,V,F,y⟩:=x.kp o13.k (Off.non _) (not_non _)
 have cp:=y.hp
 simp -implicitDefEqProofs only[mdC] at cp
 rw[seqM_eq]
 unfold qmpZ
 have fl:=y.fd.len
 simp -implicitDefEqProofs[ld_at cp,cel_of cp,stm_at cp,stm_upd,ld_same,cel_same,over,fl]
 have m0:M.drainTo who 0=M:=by simp[Tbl.drainTo]
 have I0:MpI T h g p M who bv fv Kk V F v1 v3 0 (.slice none 0 0) T3 h3:=⟨o13.mono non_up,by rw[m0]; exact y,⟨fun _=>.nilFunc,Rw.nil _ _ _ _ _,fun j hj=>by omega⟩,fun b hb=>by simp[rowOf] at hb,b1,⟨by simpa [Tbl.lostTo] using c3,t3⟩⟩
 refine loop_on [0,1,4,5,14,15] (fun s h'=>∃ i:Nat,MpE T h g p M who bv fv Kk V F v1 v3 i (s 6) h'∧s 16 = .int .i64 i∧i≤M.n) (fun s _=>(M.n-num (s 16)).toNat) ⟨0,⟨T3,I0⟩,rfl,by omega⟩ ?_
 rintro s h4 hf ⟨i,⟨T4,I⟩,s16,hi⟩
 have s0:s 0=ptr p:=by simpa using hf 0 (by simp)
 have s1:s 1 = .int .i64 who:=by simpa using hf 1 (by simp)
 have s4:s 4=ptr v1:=by simpa using hf 4 (by simp)
 have s5:s 5=ptr v3:=by simpa using hf 5 (by simp)
 have s14:s 14=fv:=by simpa using hf 14 (by simp)
 have s15:s 15 = .int .i64 M.n:=by simpa using hf 15 (by simp)
 obtain⟨av,hav⟩:∃ av,s 6=av:=⟨_,rfl⟩
 rw[hav] at I
 unfold qmoZ
 simp -implicitDefEqProofs[s15,s16]
 refine⟨fun hc=>?_,fun hc=>?_⟩
 ·have hlt:i<M.n:=by omega
  have hw1:IntKind.i64.wrap ((i:Int)+1)=(i+1:Nat):=by rw[wrap64_id (by omega) (by omega)]; omega
  obtain⟨fb,ia,ld⟩:=I.x.ldf (s:=i) hlt
  have fr:=I.x.fr i hlt
  rw[drainTo_fd] at fr
  unfold qmnZ
  simp -implicitDefEqProofs[s1,s14,s16,ia,ld]
  refine fdrain_ok who I.o.wf (gg.app _) fr (fun j hj=>by have:=((hs.fd i hlt).qs j hj).2.2; omega) fun T5 h5 v o5 f5 sl5=>?_
  have x5:=I.x.fed o5 gg f5
  rw[drainTo_s] at x5
  have hlc5:¬ pre (g++[3,i]) lc:=fun hh=>hlcg (pre_trans hh)
  have b15:=o5.see I.b1 hlc5
  have b35:=o5.see I.b3 hlc5
  obtain⟨cv,ar,asl⟩:=I.a
  have ar5:=ar.kp o5.k hlc5
  have vo:=sl5.one
  have oT5:Only (pre g) T h T5 h5:=I.o.trans (o5.mono fun t=>pre_trans)
  unfold qmmZ
  simp -implicitDefEqProofs only[exV_0,exV_1,ov_s]
  rw[hav]
  refine Rw.appk bsSlEv unSlSlEv apSlEv (by omega) (by simp[vo.2]) (by simp[vo.1,vo.2]) o5.wf ar5 (by unfold maxLen; omega) (by omega) (by omega) (by simp[lc]) fun a av' T6 h6 o6 r6 k6 ha=>?_
  have hrow:=I.n
  have oT6:Only (pre g) T h T6 h6:=Only.keepk oT5 o6 k6 fun b hb=>(hrow b hb).1
  have b16:h6 v1=_∧T6 v1=lc:=⟨k6 _ _ b15.1 fun hh=>(hrow v1 hh).2.1 rfl,by rw[o6.tg _ _ b15.1]; exact b15.2⟩
  have b36:h6 v3=_∧T6 v3=lc:=⟨k6 _ _ b35.1 fun hh=>(hrow v3 hh).2.2 rfl,by rw[o6.tg _ _ b35.1]; exact b35.2⟩
  have ull:¬ (fun t=>t=lc) ([]:Tag):=by simp[lc]
  have x6:=x5.kp o6.k gg.off ull
  have n6:∀ b,rowOf av'=some b→h b=none∧b≠v1∧b≠v3:=fun b hb=>by
   rcases ha with ha | ⟨j,ha,hj⟩
   ·exact hrow b (by rw[← ha]; exact hb)
   ·rw[ha] at hb; cases hb
    refine⟨?_,fun e=>?_,fun e=>?_⟩
    ·cases hh:h b with
     | none=>rfl
     | some o=>obtain⟨o',ho'⟩:=oT5.al _ _ hh; rw[hj] at ho'; cases ho'
    ·subst e; rw[b15.1] at hj; cases hj
    ·subst e; rw[b35.1] at hj; cases hj
  have a6:∃ cv':Nat→Value,Rw T6 h6 lc 1 qlZ av' (i+1) (seqF (i+1) fun j=>[cv' j])∧∀ j,j<i+1→Sl 8 EvR (fz T6 h6) (cv' j) ((M.fd j).told who):=by
   refine⟨fun j=>if j=i then v else cv j,?_,fun j hj=>?_⟩
   ·have e1:(seqF (i+1) fun j=>[if j=i then v else cv j])=(seqF i fun j=>[cv j])++v.cells.toList:=by
     rw[seqF_succ,vo.2]
     congr 1
     ·exact seqF_congr fun j hj=>by rw[if_neg (by omega)]
     ·simp -implicitDefEqProofs
    rw[e1]; exact r6
   ·by_cases hji:j=i
    ·subst hji; simp only[if_true]; exact sl5.ext (@EvR.ext) (o6.ext ull)
    ·simp -implicitDefEqProofs only[if_neg hji]; exact ((asl j (by omega)).ext (@EvR.ext) (o5.ext (gg.app _).nil)).ext (@EvR.ext) (o6.ext ull)
  unfold qmlZ
  have c3':=b36.1
  have fin:∀ l:Bool,l=M.lostTo who (i+1)→MpI T h g p M who bv fv Kk V F v1 v3 (i+1) av' T6 (upd h6 v3 (.cells #[.int .i64 0,.slice none 0 0,.slice none 0 0,.bool l] qcZ (0,0))):=by
   intro l hl
   have o7:Only (fun t=>t=lc) T6 h6 T6 (upd h6 v3 (.cells #[.int .i64 0,.slice none 0 0,.slice none 0 0,.bool l] qcZ (0,0))):=Only.lst o6.wf b36
   obtain⟨cv',q1,q2⟩:=a6
   refine⟨oT6.own n3' b36.1,x6.kp o7.k gg.off ull,⟨cv',⟨q1.1.of_at fun b hb=>upd_ne (n6 b hb).2.2,q1.2⟩,fun j hj=>(q2 j hj).ext (@EvR.ext) (o7.ext ull)⟩,n6,⟨by rw[upd_ne ne13]; exact b16.1,b16.2⟩,⟨by rw[upd_same',hl],b36.2⟩⟩
  cases hlo:M.lostTo who i with
  | true =>
   rw[hlo] at c3'
   have:=fin true (by rw[lostTo_s,hlo]; rfl)
   simp -implicitDefEqProofs[s0,s1,s4,s5,s14,s15,s16,ld_at c3',cel_of c3',stm_at c3',stm_upd,ld_same,cel_same,over,hw1,-Int.natCast_add]
   exact⟨⟨i+1,⟨T6,this⟩,rfl,by omega⟩,by omega⟩
  | false =>
   rw[hlo] at c3'
   have:=fin ((M.fd i).lost who) (by rw[lostTo_s,hlo]; rfl)
   simp -implicitDefEqProofs[s0,s1,s4,s5,s14,s15,s16,ld_at c3',cel_of c3',stm_at c3',stm_upd,ld_same,cel_same,over,hw1,-Int.natCast_add]
   exact⟨⟨i+1,⟨T6,this⟩,rfl,by omega⟩,by omega⟩
 have hie:i=M.n:=by omega
 subst hie
 obtain⟨cv,ar,asl⟩:=I.a
 have hlen:(M.toldTo who M.n).length=M.n:=by simp[Tbl.toldTo]
 have hget:∀ j (hj:j<(M.toldTo who M.n).length),(M.toldTo who M.n)[j]=(M.fd j).told who:=fun j hj=>by simp[Tbl.toldTo]
 have t16:∀ j,j<M.n→((M.fd j).told who).length≤16:=fun j hj=>by
  unfold Feed.told
  split
  ·rename_i hcl
   have hw:who.toNat<8:=by simp[clientB] at hcl; omega
   exact ((hs.fd j hj).qs _ hw).2.2
  ·simp -implicitDefEqProofs
 have hsl:Sl 1 EvsR h4 av (M.toldTo who M.n):=by
  refine Row.sl' (F:=fun j=>[cv j]) (e:=qlZ) (fun j _=>rfl) (fun j hj=>⟨cv j,rfl,?_⟩) ?_
  ·rw[hget j hj]; exact (asl j (by omega)).ext (@EvR.ext) (fz_ext _ _)
  ·rw[hlen]; exact ar.1
 have hn16:∀ j,(nth (M.toldTo who M.n) j).length≤16:=fun j=>by
  unfold nth
  rw[List.getD_eq_getElem?_getD]
  by_cases hj:j<M.n
  ·rw[List.getElem?_eq_getElem (by omega),hget j (by omega)]; exact t16 j hj
  ·rw[List.getElem?_eq_none (by omega)]; simp
 have htot:∀ l:List (List Evt),(∀ x∈l,x.length≤16)→totE l≤16*l.length:=by
  intro l
  induction l with
  | nil=>intro _; simp[totE]
  | cons a l ih =>
   intro hh
   have h1:=ih fun x hx=>hh x (by simp[hx])
   have h2:=hh a (by simp)
   simp -implicitDefEqProofs[totE] at h1 ⊢; omega
 have ht:=htot (M.toldTo who M.n) fun l hl=>by
  obtain⟨j,hj,rfl⟩:=List.getElem_of_mem hl
  rw[hget j hj]; exact t16 j (by omega)
 unfold qmrZ
 simp -implicitDefEqProofs[hav]
 refine merge_ok _ I.o.wf hsl (by omega) (by omega) (fun j=>by have:=hn16 j; omega) fun ev h5 e5 s5'=>?_
 have o5:Only non T4 h4 T4 h5:=Only.of_ext I.o.wf e5
 have b1:=o5.see I.b1 (not_non _)
 have b3:=o5.see I.b3 (not_non _)
 have x5:=I.x.kp o5.k (Off.non _) (not_non _)
 have eo:=s5'.one
 have c3:=b3.1
 have c1:=b1.1
 have ull:¬ (fun t=>t=lc) ([]:Tag):=by simp[lc]
 obtain⟨h6,hh6⟩:∃ h6,h6=upd h5 v3 (.cells #[.int .i64 0,.slice none 0 0,ev,.bool (M.lostTo who M.n)] qcZ (0,0)):=⟨_,rfl⟩
 have o6:Only (fun t=>t=lc) T4 h5 T4 h6:=by rw[hh6]; exact Only.lst o5.wf b3
 have c36:h6 v3=some (.cells #[.int .i64 0,.slice none 0 0,ev,.bool (M.lostTo who M.n)] qcZ (0,0)):=by rw[hh6,upd_same']
 have b16:h6 v1=some (.cells #[.int .i64 0,.slice none 0 0,.slice none 0 0,.bool false] qcZ (0,0))∧T4 v1=lc:=⟨by rw[hh6,upd_ne ne13]; exact b1.1,b1.2⟩
 have oT6:Only (pre g) T h T4 h6:=by rw[hh6]; exact (I.o.up o5 non_up).own n3' b3.1
 have o7:Only (fun t=>t=lc) T4 h6 T4 (upd h6 v1 (.cells #[.int .i64 0,.slice none 0 0,ev,.bool (M.lostTo who M.n)] qcZ (0,0))):=Only.lst o6.wf b16
 have n1':h v1=none:=n1
 unfold qmqZ
 simp -implicitDefEqProofs[s4,s5]
 rw[stm_at (n:=1) (v:=ev) c3 (by simp[eo.2]) (by simp) (by simp[eo.1,eo.2])]
 have hov:over #[.int .i64 0,.slice none 0 0,.slice none 0 0,.bool (M.lostTo who M.n)] 2 ev.cells.toList=#[.int .i64 0,.slice none 0 0,ev,.bool (M.lostTo who M.n)]:=by rw[eo.2]; simp[over]
 rw[hov,← hh6]
 have hld:ldV (some (some 4)) (ptr v3) h6=some (.agg #[.int .i64 0,.slice none 0 0,ev,.bool (M.lostTo who M.n)]):=by simp[ld_at c36]
 simp -implicitDefEqProofs[hld]
 rw[stm_at (n:=4) b16.1 (by simp) (by simp) (by simp[eo.1])]
 have hov2:over #[.int .i64 0,.slice none 0 0,.slice none 0 0,.bool false] 0 (Value.agg #[.int .i64 0,.slice none 0 0,ev,.bool (M.lostTo who M.n)]).cells.toList=#[.int .i64 0,.slice none 0 0,ev,.bool (M.lostTo who M.n)]:=by simp[over]
 rw[hov2]
 simp -implicitDefEqProofs[s4,tgRep86,ld_same]
 have hP:M.poll who=(M.drainTo who M.n,⟨0,[],mergeE (M.toldTo who M.n),M.lostTo who M.n⟩):=rfl
 rw[hP] at hk
 refine kv (hk T4 _ (.slice none 0 0) ev (oT6.own n1' b16.1) ⟨bv,fv,Kk,V,F,(x5.kp o6.k gg.off ull).kp o7.k gg.off ull⟩ ⟨.inl ⟨rfl,_,_,rfl⟩,(s5'.ext (@EvR.ext) (o6.ext ull)).ext (@EvR.ext) (o7.ext ull)⟩) ?_
 simp -implicitDefEqProofs[rplC]
end Go.Proofs.YtcnphhhcknhhaaaGreat
namespace Go.Proofs.YtcnphhhcknhhaaaGreat
open Go Go.Den Go.MapKept
set_option linter.unusedSimpArgs false
set_option linter.unusedVariables false
set_option maxRecDepth 20000
theorem wo_only {T:Tags}{h h':Heap}{b:Nat}{o:Obj}(w:Wf T h)(e:Ext (wo h [b]) h')(hb:h' b=some o)(ht:T b=lc):Only (fun t=>t=lc) T h T h':=by
 have kk:∀ k z,h k=some z→k≠b→h' k=some z:=fun k z hk hne=>e k z (by rw[wo_out (by simpa using hne)]; exact hk)
 refine⟨fun k hk=>?_,fun _ _ _=>rfl,fun k z hk=>?_,fun k z hk n=>kk k z hk fun hh=>n (by subst hh; exact ht)⟩
 ·cases hh:h k with
  | none=>exact w k hh
  | some z =>
   by_cases hkb:k=b
   ·subst hkb; rw[hb] at hk; cases hk
   ·rw[kk k z hh hkb] at hk; cases hk
 ·by_cases hkb:k=b
  ·subst hkb; exact⟨o,hb⟩
  ·exact⟨z,kk k z hk hkb⟩
def MqJ (h3:Heap)(M:Tbl)(us:List ByteArray)(vb:Nat)(i:Nat)(h':Heap):Prop :=
 ∃ vv,Ext (wo h3 [vb]) h'∧h' vb=some (.cells #[.int .i64 0,vv,.slice none 0 0,.bool false] qcZ (0,0))∧Row 3 qqZ h' vv i (((us.take i).map M.pres).flatMap presC)∧∀ b,rowOf vv=some b→h3 b=none∧b≠vb
variable {K:KTy}
set_option maxHeartbeats 2000000 in
theorem mdo_ok (who:Int)(o:OpD)(ow:OpW o)(hl:o.users.length<1000000){T:Tags}{h:Heap}{uv:Value}(hu:Sl 1 StrR (fz T h) uv o.users){g:Tag}{p m:Nat}{M:Tbl}(w:Wf T h)(gg:Gd g)(x:MdR T h g p M)(hs:TS m M)(hm:m<100000)
  (hk:∀ T' h' vv ev,Only (pre g) T h T' h'→MdR T' h' g p (M.do_ who o).1→RpX (fz T' h') (M.do_ who o).2 vv ev→K (.agg (rplC (M.do_ who o).2 vv ev).toArray) h'):callM P qdSZ #[ptr p,.int .i64 who,.agg (opC o uv).toArray] h K:=by
 apply quEZ
 unfold qkDZ
 have n8:=ts_n8 hs
 have nn:=hs.nn
 refine nw_agg fun v1 h0 n0 e0 c0=>?_
 have w0:=w.ext e0
 rw[zcRep]
 refine nw_tag w0 lc fun v3 T1 h1 n1 o1 t3 c3=>?_
 have o01:Only non T h T1 h1:=(Only.of_ext (U:=non) w e0).trans o1
 have b0:h0 v1=_∧T v1=[]:=⟨c0,w v1 n0⟩
 have b0:=o1.see b0 (not_non _)
 have b3:h1 v3=_∧T1 v3=lc:=⟨c3,t3⟩
 have x1:=x.up o01 (Off.non _) (not_non _)
 have n3:h v3=none:=by
  cases hh:h v3 with
  | none=>rfl
  | some ob=>rw[e0 _ _ hh] at n1; cases n1
 have oa:∀ h',h' v1=some (.cells (opC o uv).toArray qxZ (0,0))→ldV (some (some 7)) (ptr v1) h'=some (.agg (opC o uv).toArray):=fun h' hc=>by simp[ld_at hc,opC]
 have ok:∀ h',h' v1=some (.cells (opC o uv).toArray qxZ (0,0))→cel h' v1 0=some (.int .i64 o.kind):=fun h' hc=>by simp[cel_of hc,opC]
 have okU:∀ h',h' v1=some (.cells (opC o uv).toArray qxZ (0,0))→cel h' v1 1=some (.string o.user):=fun h' hc=>by simp[cel_of hc,opC]
 simp -implicitDefEqProofs only[oa _ b0.1,ov_s]
 refine modBad_ok o ow (hu.ext (@StrR.ext) ((o01.ext (not_non _)).trans (fz_ext _ _))) hl fun h2 e2=>?_
 have o2:Only non T1 h1 T1 h2:=Only.of_ext o1.wf e2
 have o02:Only non T h T1 h2:=o01.trans o2
 have b0:=o2.see b0 (not_non _)
 have b3:=o2.see b3 (not_non _)
 have x2:=x1.up o2 (Off.non _) (not_non _)
 have c3':=b3.1
 have ull:¬ (fun t=>t=lc) ([]:Tag):=by simp[lc]
 have err1:M.do_ who o=(M,repE 1)→K (.agg #[.int .i64 1,.slice none 0 0,.slice none 0 0,.bool false]) (upd h2 v3 (.cells #[.int .i64 1,.slice none 0 0,.slice none 0 0,.bool false] qcZ (0,0))):=fun e=>by
  rw[e] at hk
  exact hk T1 _ (.slice none 0 0) (.slice none 0 0) ((o02.mono non_up).own n3 b3.1) (x2.kp (Only.lst o2.wf b3).k gg.off ull) (RpX.no _ rfl rfl)
 unfold qoXZ
 cases hb:badB o with
 | true =>
  have e:M.do_ who o=(M,repE 1):=by simp[Tbl.do_,hb]
  simp -implicitDefEqProofs
  unfold qiGZ
  rw[bdRepE]
  simp -implicitDefEqProofs[ld_at c3',cel_of c3',stm_at c3',stm_upd,ld_same,cel_same,over]
  exact err1 e
 | false =>
 simp -implicitDefEqProofs
 refine within_ok _ _ _ ?_
 by_cases hw':(0:Int)≤who∧(who:Int)≤7
 rotate_left
 ·have e:M.do_ who o=(M,repE 1):=by
   have:clientB who=false:=by simp[clientB]; omega
   simp -implicitDefEqProofs[Tbl.do_,this]
  simp -implicitDefEqProofs[hw']
  unfold qiGZ
  rw[bdRepE]
  simp -implicitDefEqProofs[ld_at c3',cel_of c3',stm_at c3',stm_upd,ld_same,cel_same,over]
  exact err1 e
 have hcl:clientB who=true:=by simp[clientB]; omega
 simp -implicitDefEqProofs[hw']
 unfold qoWZ
 rw[seqM_eq]
 have fin:∀ (T':Tags) (h':Heap) (vv ev:Value) (s':Env),Only (pre g) T h T' h'→MdR T' h' g p (M.do_ who o).1→RpX (fz T' h') (M.do_ who o).2 vv ev→s' 6=ptr v3→h' v3=some (.cells (rplC (M.do_ who o).2 vv ev).toArray qcZ (0,0))→(retM P [.cell 6 86] K) .ret [] s' h':=by
  intro T' h' vv ev s' o' x' r' s6 c'
  simp -implicitDefEqProofs only[rplC] at c'
  simp -implicitDefEqProofs[s6,ld_at c',cel_of c',stm_at c',stm_upd,ld_same,cel_same,over,tgRep86]
  exact kv (hk T' h' vv ev o' x' r') (by simp[rplC])
 -- a reply is stored,and answered
 have rep:∀ (T':Tags) (h':Heap) (vv ev:Value) (C:Array Value),Only (pre g) T h T' h'→MdR T' h' g p (M.do_ who o).1→RpX (fz T' h') (M.do_ who o).2 vv ev→(∃ c,c.size=4∧h' v3=some (.cells c qcZ (0,0)))→T' v3=lc→C=(rplC (M.do_ who o).2 vv ev).toArray →
   stM (some 4) (ptr v3) (.agg C) h' fun h''=>ov (ldV (tagg P 86) (ptr v3) h'') fun v=>K v h'':=by
  intro T' h' vv ev C o' x' r' ⟨c,hc4,hc⟩ ht hC
  subst hC
  have vo:=r'.v.one
  have eo:=r'.e.one
  rw[stm_at (n:=4) hc (by simp[rplC]) (by omega) (by simp[rplC,vo.1,eo.1])]
  have hov:over c 0 (Value.agg (rplC (M.do_ who o).2 vv ev).toArray).cells.toList=(rplC (M.do_ who o).2 vv ev).toArray:=by
   rcases c with ⟨l⟩
   match l,hc4 with
   | [a1,a2,a3,a4],_=>simp[over,rplC]
  rw[hov]
  have ol:=Only.lst (o':=.cells (rplC (M.do_ who o).2 vv ev).toArray qcZ (0,0)) o'.wf ⟨hc,ht⟩
  have:=fin T' _ vv ev (fun _=>ptr v3) (o'.own n3 hc) (x'.kp ol.k gg.off ull) (r'.ext (ol.ext ull)) rfl (upd_same' _ _ _)
  simpa using this
 have rep0':∀ (T':Tags) (h':Heap),h' v3=some (.cells #[.int .i64 0,.slice none 0 0,.slice none 0 0,.bool false] qcZ (0,0))→∃ c,c.size=4∧h' v3=some (.cells c qcZ (0,0)):=fun _ h' hc=>⟨_,rfl,hc⟩
 have hlcg:¬ pre g lc:=fun hh=>gg.off lc hh rfl
 -- behind the kinds that write,and Poll
 have rest:∀ (s:Env),s 0=ptr p→s 1 = .int .i64 who→s 5=ptr v1→s 6=ptr v3→¬ (o.kind=1∨o.kind=2∨o.kind=3)→o.kind≠8→qePZ s h2 K []:=by
  intro s s0 s1 s5 s6 hnw h8
  obtain⟨bv,fv,Kk,V,F,y⟩:=x2
  have cp:=y.hp
  simp -implicitDefEqProofs only[mdC] at cp
  unfold qePZ
  simp -implicitDefEqProofs[s0,ld_at cp,cel_of cp,stm_at cp,stm_upd,ld_same,cel_same,over]
  cases hclo:M.t.closed with
  | true =>
   have e:M.do_ who o=(M,repE 5):=by simp[Tbl.do_,hb,hcl,hnw,h8,hclo]
   simp -implicitDefEqProofs
   unfold qnfZ
   rw[bdRepE]
   simp -implicitDefEqProofs[s6]
   exact rep T1 h2 (.slice none 0 0) (.slice none 0 0) _ (o02.mono non_up) (by rw[e]; exact⟨bv,fv,Kk,V,F,y⟩) (by rw[e]; exact RpX.no _ rfl rfl) (rep0' T1 _ b3.1) b3.2 (by rw[e]; rfl)
  | false =>
   simp -implicitDefEqProofs
   unfold qnvZ
   rw[zcRep]
   refine nw_tag o02.wf lc fun v50 T3 h3 n50 o3 t50 c50=>?_
   have n50':h v50=none:=by
    cases hh:h v50 with
    | none=>rfl
    | some ob=>obtain⟨o',ho'⟩:=o02.al _ _ hh; rw[n50] at ho'; cases ho'
   have ne50:v3≠v50:=ne_fresh b3.1 n50
   have b0:=o3.see b0 (not_non _)
   have b3:=o3.see b3 (not_non _)
   have b50:h3 v50=_∧T3 v50=lc:=⟨c50,t50⟩
   have y3:=y.kp o3.k (Off.non _) (not_non _)
   have cp:=y3.hp
   simp -implicitDefEqProofs only[mdC] at cp
   have oT3:Only (pre g) T h T3 h3:=(o02.trans o3).mono non_up
   rw[seqM_eq]
   unfold qnuZ
   simp -implicitDefEqProofs[s5,ok _ b0.1]
   refine⟨fun h6=>?_,fun h6=>?_⟩
   ·have e:M.do_ who o=M.watch who o.user:=by simp[Tbl.do_,hb,hcl,hnw,h8,hclo,h6]
    unfold qnhZ
    simp -implicitDefEqProofs[s0,s1,s5,okU _ b0.1]
    refine mwatch_ok who o.user ow.s1 o3.wf gg ⟨bv,fv,Kk,V,F,y3⟩ hs hm fun T4 h4 o4 x4=>?_
    have b34:=o4.see b3 hlcg
    have b54:=o4.see b50 hlcg
    have c54:=b54.1
    unfold qngZ
    simp -implicitDefEqProofs[ld_at c54,cel_of c54,stm_at c54,stm_upd,ld_same,cel_same,over,s6]
    have hr:(M.watch who o.user).2=repE (M.watch who o.user).2.err:=by unfold Tbl.watch; split<;>rfl
    have ol:=Only.lst (o':=.cells #[.int .i64 (M.watch who o.user).2.err,.slice none 0 0,.slice none 0 0,.bool false] qcZ (0,0)) o4.wf b54
    have hc:(rplC (M.do_ who o).2 (.slice none 0 0) (.slice none 0 0)).toArray=#[.int .i64 (M.watch who o.user).2.err,.slice none 0 0,.slice none 0 0,.bool false]:=by rw[e,hr]; rfl
    exact rep T4 _ (.slice none 0 0) (.slice none 0 0) _ ((oT3.trans o4).own n50' b54.1) (by rw[e]; exact x4.kp ol.k gg.off ull) (by rw[e,hr]; exact RpX.no _ rfl rfl) ⟨_,rfl,by rw[upd_ne ne50]; exact b34.1⟩ b34.2 hc.symm
   unfold qntZ
   simp -implicitDefEqProofs
   refine⟨fun h7=>?_,fun h7=>?_⟩
   ·have e:M.do_ who o=(M.fed (M.stripe o.user) ((M.fd (M.stripe o.user)).unwatch who o.user),rep0):=by simp[Tbl.do_,hb,hcl,hnw,h8,hclo,h6,h7]
    have hst:=stripeOf_lt (u:=o.user) (n:=M.c.stripes) (by omega)
    obtain⟨su,hsu⟩:∃ su:Nat,stripeOf o.user M.c.stripes=su:=⟨(stripeOf o.user M.c.stripes).toNat,by omega⟩
    have hsn:su<M.n:=by omega
    have hms:M.stripe o.user=su:=by unfold Tbl.stripe; rw[hsu]; simp
    rw[hms] at e
    obtain⟨fb,ia,ld⟩:=y3.ldf hsn
    unfold qnkZ
    simp -implicitDefEqProofs[s0,s1,s5,okU _ b0.1,ld_at cp,cel_of cp,stm_at cp,stm_upd,ld_same,cel_same,over]
    refine mstripe_ok o.user ow.s1 ⟨bv,fv,Kk,V,F,y3⟩ (by omega) ?_
    rw[hsu]
    unfold qnjZ
    simp -implicitDefEqProofs[s0,s1,s5,okU _ b0.1,ld_at cp,cel_of cp,stm_at cp,stm_upd,ld_same,cel_same,over,ia,ld]
    refine funwatch_ok who o.user ow.s1 o3.wf (gg.app _) (y3.fr su hsn) ((hs.fd su hsn).g hm) (by have:=(hs.fd su hsn).len; omega) fun T4 h4 o4 x4=>?_
    have hlc4:¬ pre (g++[3,su]) lc:=fun hh=>hlcg (pre_trans hh)
    have b34:=o4.see b3 hlc4
    have b54:=o4.see b50 hlc4
    have c54:=b54.1
    unfold qniZ
    simp -implicitDefEqProofs[ld_at c54,cel_of c54,stm_at c54,stm_upd,ld_same,cel_same,over,s6]
    exact rep T4 h4 (.slice none 0 0) (.slice none 0 0) _ (oT3.trans (o4.mono fun t=>pre_trans)) (by rw[e]; exact⟨bv,fv,Kk,V,F,y3.fed o4 gg x4⟩) (by rw[e]; exact RpX.no _ rfl rfl) (rep0' T4 _ b34.1) b34.2 (by rw[e]; rfl)
   unfold qnsZ
   simp -implicitDefEqProofs
   refine⟨fun h9=>?_,fun h9=>?_⟩
   ·have e:M.do_ who o=({ M with t:={ M.t with closed:=true } },rep0):=by simp[Tbl.do_,hb,hcl,hnw,h8,hclo,h6,h7,h9]
    unfold qnmZ
    have htm:ldV (some (some 3)) (.pointer (some ⟨p,7,none⟩)) h3=some (.agg (tmC M.t).toArray):=by simp[ld_at cp,tmC]
    simp -implicitDefEqProofs[s0,htm]
    refine tickShut_ok M.t fun h4 e4=>?_
    have o4:Only non T3 h3 T3 h4:=Only.of_ext o3.wf e4
    have y4:=y3.kp o4.k (Off.non _) (not_non _)
    have b34:=o4.see b3 (not_non _)
    have b54:=o4.see b50 (not_non _)
    have cp:=y4.hp
    obtain⟨o5,y5⟩:=y4.st (M':={ M with t:={ M.t with closed:=true } }) o4.wf gg (c:=_) rfl rfl rfl rfl
    simp -implicitDefEqProofs only[mdC] at cp o5 y5
    have b35:=o5.see b34 (by simp[lc]; obtain⟨k,r,rfl⟩:=gg; simp)
    have b55:=o5.see b54 (by simp[lc]; obtain⟨k,r,rfl⟩:=gg; simp)
    have c55:=b55.1
    unfold qnlZ
    simp -implicitDefEqProofs only[tmC]
    simp -implicitDefEqProofs[s0,ld_at cp,cel_of cp,stm_at cp,ld_at c55,cel_of c55,stm_at c55,stm_upd,ld_same,cel_same,over,s6]
    refine rep T3 _ (.slice none 0 0) (.slice none 0 0) _ ((oT3.up o4 non_up).trans (o5.mono fun _=>eq_pre)) (by rw[e]; exact⟨bv,fv,Kk,V,F,y5⟩) (by rw[e]; exact RpX.no _ rfl rfl) (rep0' T3 _ b35.1) b35.2 (by rw[e]; rfl)
   have e:M.do_ who o=(M,⟨0,(usersOf o).map M.pres,[],false⟩):=by simp[Tbl.do_,hb,hcl,hnw,h8,hclo,h6,h7,h9]
   unfold qnrZ
   simp -implicitDefEqProofs[s5,oa _ b0.1]
   have hu3:Sl 1 StrR (fz T3 h3) uv o.users:=hu.ext (@StrR.ext) (oT3.ext gg.nil)
   refine users_ok o ow o3.wf (hu3.ext (@StrR.ext) (fz_ext _ _)) hl fun us h4 e4 hus=>?_
   have o4:Only non T3 h3 T3 h4:=Only.of_ext o3.wf e4
   have y4:=y3.kp o4.k (Off.non _) (not_non _)
   have b34:=o4.see b3 (not_non _)
   have b54:=o4.see b50 (not_non _)
   have ulen:=hus.len
   have ule:(usersOf o).length<1000000:=by
    unfold usersOf
    split
    ·simp -implicitDefEqProofs
    ·split
     ·exact hl
     ·simp -implicitDefEqProofs
   unfold qnqZ
   simp -implicitDefEqProofs only[ulen,ov_s]
   have J0:MqJ h4 M (usersOf o) v50 0 h4:=⟨.slice none 0 0,fun q z hq=>(wo_get hq).2,b54.1,by simpa using (Rf.nil (sz:=3) (e:=qqZ) (Ext.refl h4)).row,fun b hb=>by simp[rowOf] at hb⟩
   refine loop_on [0,6,7,41,42] (fun s' h'=>∃ i:Nat,MqJ h4 M (usersOf o) v50 i h'∧s' 43 = .int .i64 i∧i≤(usersOf o).length) (fun s' _=>((usersOf o).length-num (s' 43)).toNat) ⟨0,J0,rfl,by omega⟩ ?_
   rintro r h5 hf5 ⟨i,⟨vv,J1,J2,J3,J4⟩,r43,hi⟩
   have r0:r 0=ptr p:=by simpa [s0] using hf5 0 (by simp)
   have r6:r 6=ptr v3:=by simpa [s6] using hf5 6 (by simp)
   have r7:r 7=ptr v50:=by simpa using hf5 7 (by simp)
   have r41:r 41=us:=by simpa using hf5 41 (by simp)
   have r42:r 42 = .int .i64 (usersOf o).length:=by simpa using hf5 42 (by simp)
   have o5:=wo_only o4.wf J1 J2 b54.2
   have y5:=y4.kp o5.k gg.off ull
   unfold qnpZ
   simp -implicitDefEqProofs[r42,r43]
   refine⟨fun hc=>?_,fun hc=>?_⟩
   ·have hlt:i<(usersOf o).length:=by omega
    have hw1:IntKind.i64.wrap ((i:Int)+1)=(i+1:Nat):=by rw[wrap64_id (by omega) (by omega)]; omega
    obtain⟨ub,uo,ui,ul⟩:=str_at hus hlt (k:=.i64)
    have ul5:=ul _ ((o5.ext ull).trans (fz_ext _ _))
    have hsz:=str_sizes hus _ (List.getElem_mem hlt)
    unfold qnoZ
    simp -implicitDefEqProofs[r0,r7,r41,r43,ui,ul5,ld_at J2,cel_of J2,stm_at J2,stm_upd,ld_same,cel_same,over]
    refine mpres_ok _ hsz o5.wf ⟨bv,fv,Kk,V,F,y5⟩ hs hm fun h6 e6=>?_
    have J2:=e6 _ _ J2
    have J3:=J3.ext e6
    unfold qnnZ
    simp -implicitDefEqProofs[ld_at J2,cel_of J2,stm_at J2,stm_upd,ld_same,cel_same,over]
    refine bs_one bsPres (by simp[presC]) (by omega) fun pb h7 n7 e7 c7=>?_
    have J2:=e7 _ _ J2
    have J3:=J3.ext e7
    simp -implicitDefEqProofs[ld_at J2,cel_of J2,stm_at J2,stm_upd,ld_same,cel_same,over]
    refine app_intro unSlPres apPres (by omega) J3 (cels_one c7 (by simp[presC])) (by simp[presC]) (by unfold maxLen; omega) (by omega) fun vv2 h8 r8 k8 ha=>?_
    have J2':h8 v50=_:=k8 _ _ J2 fun hh=>(J4 v50 hh.symm).2 rfl
    have ho:=r8.one
    have n8':∀ b,rowOf vv2=some b→h4 b=none∧b≠v50:=fun b hb=>by
     rcases ha with ha | ⟨j,ha,hj⟩
     ·exact J4 b (by rw[← ha]; exact hb)
     ·rw[ha] at hb; cases hb
      have hne:b≠v50:=fun hh=>by subst hh; rw[J2] at hj; cases hj
      refine⟨?_,hne⟩
      cases hh:h4 b with
      | none=>rfl
      | some z =>
       have:=e7 _ _ (e6 _ _ (J1 b z (by rw[wo_out (by simpa using hne)]; exact hh)))
       rw[this] at hj; cases hj
    simp -implicitDefEqProofs[s0,s6,r0,r6,r7,r41,r42,r43,ld_at J2',cel_of J2',stm_at J2',stm_upd,ld_same,cel_same,over,ho.1,ho.2,hw1,-Int.natCast_add]
    refine⟨⟨i+1,⟨vv2,wo_upd (fun q z hq=>?_) (by simp),upd_same' _ _ _,?_,n8'⟩,rfl,by omega⟩,by omega⟩
    ·have hq4:=wo_get hq
     exact k8 q z (e7 _ _ (e6 _ _ (J1 q z hq))) fun hh=>by rw[(J4 q hh.symm).1] at hq4; cases hq4.2
    ·rw[List.take_succ_eq_append_getElem hlt,List.map_append,List.flatMap_append]
     refine Row.of_at ?_ fun b hb=>upd_ne (n8' b hb).2
     simpa using r8
   have hie:i=(usersOf o).length:=by omega
   subst hie
   rw[List.take_of_length_le (Nat.le_refl _)] at J3
   have b35:h5 v3=_∧T3 v3=lc:=⟨J1 v3 _ (by rw[wo_out (by simpa using ne50)]; exact b34.1),b34.2⟩
   have vo:=J3.one
   simp -implicitDefEqProofs[r6,r7,ld_at J2,cel_of J2,stm_at J2,stm_upd,ld_same,cel_same,over,vo.1]
   refine rep T3 h5 vv (.slice none 0 0) _ ?_ (by rw[e]; exact⟨bv,fv,Kk,V,F,y5⟩) ?_ (rep0' T3 _ b35.1) b35.2 (by rw[e]; rfl)
   ·refine Only.keepk (r:=some v50) (oT3.up o4 non_up) o5 (fun b z hz hne=>J1 b z (by rw[wo_out (by simpa using fun hh=>hne (by rw[hh]))]; exact hz)) fun b hb=>by cases hb; exact n50'
   ·rw[e]
    refine⟨?_,.inl ⟨rfl,_,_,rfl⟩⟩
    have hl2:(usersOf o).length=((usersOf o).map M.pres).length:=by simp
    have J3':Row 3 qqZ (fz T3 h5) vv (usersOf o).length (((usersOf o).map M.pres).flatMap presC):=J3.of_at fun b hb=>by simp[fz,o4.wf b (J4 b hb).1]
    rw[hl2] at J3'
    exact Row.slE (enc:=presC) (R:=PresR) (fun _=>rfl) (fun _=>rfl) J3'
 unfold qoVZ
 simp -implicitDefEqProofs[ok _ b0.1]
 rw[seqM_eq]
 -- behind the kinds
 have ten:∀ (s:Env) (q:Bool),s 0=ptr p→s 1 = .int .i64 who→s 5=ptr v1→s 6=ptr v3→s 19 = .int .i64 o.kind→s 20 = .bool (decide (o.kind=1∨o.kind=2∨o.kind=3)) →
   qhLZ s h2 (thenM (fun m s25 h26=>qePZ s25 h26 K m) (retM P [.cell 6 86] K)) []:=by
  intro s q s0 s1 s5 s6 s19 s20
  unfold qhLZ
  by_cases hnw:o.kind=1∨o.kind=2∨o.kind=3
  ·have e:M.do_ who o=M.write o:=by simp[Tbl.do_,hb,hcl,hnw]
   simp -implicitDefEqProofs[s20,hnw]
   unfold qncZ
   simp -implicitDefEqProofs only[s0,s5,oa _ b0.1,ov_s]
   refine mwrite_ok o ow hu.one o2.wf gg x2 hs hm fun T4 h4 o4 x4=>?_
   have b34:=o4.see b3 hlcg
   have hr:(M.write o).2=repE (M.write o).2.err:=by unfold Tbl.write; split<;>rfl
   simp -implicitDefEqProofs[s6,repC]
   exact rep T4 h4 (.slice none 0 0) (.slice none 0 0) _ ((o02.mono non_up).trans o4) (by rw[e]; exact x4) (by rw[e,hr]; exact RpX.no _ rfl rfl) (rep0' T4 _ b34.1) b34.2 (by rw[e,hr]; rfl)
  ·simp -implicitDefEqProofs[s20,hnw]
   unfold qneZ
   simp -implicitDefEqProofs[s19]
   refine⟨fun h8=>?_,fun h8=>?_⟩
   ·have e:M.do_ who o=M.poll who:=by simp[Tbl.do_,hb,hcl,hnw,h8]
    unfold qndZ
    simp -implicitDefEqProofs only[s0,s1]
    refine mpoll_ok who o2.wf gg x2 hs hm fun T4 h4 vv ev o4 x4 r4=>?_
    have b34:=o4.see b3 hlcg
    simp -implicitDefEqProofs[s6]
    exact rep T4 h4 vv ev _ ((o02.mono non_up).trans o4) (by rw[e]; exact x4) (by rw[e]; exact r4) (rep0' T4 _ b34.1) b34.2 (by rw[e])
   ·exact rest _ (by simp[s0]) (by simp[s1]) (by simp[s5]) (by simp[s6]) hnw h8
 unfold qoUZ
 by_cases hk1:o.kind=1
 ·simp -implicitDefEqProofs[hk1]
  unfold qoQZ
  simp -implicitDefEqProofs
  exact ten _ true (by simp) (by simp) (by simp) (by simp) (by simp[hk1]) (by simp[hk1])
 ·simp -implicitDefEqProofs[hk1]
  unfold qoTZ
  by_cases hk2:o.kind=2
  ·simp -implicitDefEqProofs[hk2]
   unfold qoRZ
   simp -implicitDefEqProofs
   exact ten _ true (by simp) (by simp) (by simp) (by simp) (by simp[hk2]) (by simp[hk2])
  ·simp -implicitDefEqProofs[hk2]
   unfold qoSZ
   simp -implicitDefEqProofs
   exact ten _ true (by simp) (by simp) (by simp) (by simp) (by simp) (by simp[hk1,hk2])
end Go.Proofs.YtcnphhhcknhhaaaGreat
namespace Go.Proofs.YtcnphhhcknhhaaaGreat
open Go Go.Den Go.MapKept
set_option linter.unusedSimpArgs false
set_option linter.unusedVariables false
set_option maxRecDepth 20000
def UH (t:Tag):Prop:=pre [1] t∨pre [2] t∨pre [5] t
theorem UH.nil:¬ UH []:=by rintro (h | h | h)<;>simp[pre] at h
theorem UH.i1 {t:Tag}(h:pre [1] t):UH t:=.inl h
theorem UH.i2 {i:Nat}{t:Tag}(h:pre [2,i] t):UH t:=.inr (.inl (pre_trans (g:=[2]) (s:=[i]) h))
theorem UH.i5 {i:Nat}{t:Tag}(h:pre [5,i] t):UH t:=.inr (.inr (pre_trans (g:=[5]) (s:=[i]) h))
theorem g5i (i:Nat):Gd [5,i]:=⟨4,[i],rfl⟩
theorem d25 (i j:Nat):Off (pre [2,i]) [5,j]:=off_pre (g:=[]) (x:=[2,i]) (y:=[5,j]) (by simp) (by simp)
theorem d52 (i j:Nat):Off (pre [5,i]) [2,j]:=off_pre (g:=[]) (x:=[5,i]) (y:=[2,j]) (by simp) (by simp)
theorem d15 (j:Nat):Off (pre [1]) [5,j]:=off_pre (g:=[]) (x:=[1]) (y:=[5,j]) (by simp) (by simp)
theorem d51 (i:Nat):Off (pre [5,i]) [1]:=off_pre (g:=[]) (x:=[5,i]) (y:=[1]) (by simp) (by simp)
theorem d55 {i j:Nat}(h:i≠j):Off (pre [5,i]) [5,j]:=off_pre (g:=[5]) (x:=[i]) (y:=[j]) (by simpa using h) (by simpa using Ne.symm h)
def PRh (T:Tags)(h:Heap)(g:Tag)(q mq:Nat):PR→Prop
 | .w p=>WPR T h g q p
 | .r p=>RPR T h g q p
 | .h p=>HPR T h g q mq p
theorem PRh.kp {U:Tag→Prop}{T T':Tags}{h h':Heap}{g:Tag}{q mq:Nat}{p:PR}(x:PRh T h g q mq p)(k:Kp U T h T' h')(o:Off U g)(n:¬ U []):PRh T' h' g q mq p:=by
 cases p with
 | w p=>exact WPR.kp x k o n
 | r p=>exact RPR.kp x k o n
 | h p=>exact HPR.kp x k o n
structure HdM (T:Tags)(h:Heap)(hp:Nat)(A B:Nat→Nat)(nm:Nat)(W:Wd):Prop where
 hl:HallR T h [1] hp W.H
 ps:∀ i p,W.ps i=some p→PRh T h [2,i] (A i) (B i) p
 ms:∀ i,i<nm→MineR T h [5,i] (B i) (W.ms i)
theorem HdM.put {U:Tag→Prop}{T T':Tags}{h h':Heap}{hp i nm:Nat}{A B:Nat→Nat}{W:Wd}{p:PR}(x:HdM T h hp A B nm W)(o:Only U T h T' h')(u:∀ j,j≠i→Off U [2,j])(v:∀ j,j≠i→Off U [5,j])(n:¬ U []){k:Int}(hp':W.ps i=some p)
  (y':HallR T' h' [1] hp (p.step (W.ms i) W.H k).2.2) (x':PRh T' h' [2,i] (A i) (B i) (p.step (W.ms i) W.H k).1) (z':i<nm→MineR T' h' [5,i] (B i) (p.step (W.ms i) W.H k).2.1):HdM T' h' hp A B nm (W.step i k):=by
 have e:W.step i k=⟨(p.step (W.ms i) W.H k).2.2,bset W.ps i (some (p.step (W.ms i) W.H k).1),bset W.ms i (p.step (W.ms i) W.H k).2.1⟩:=by simp only[Wd.step,hp']
 rw[e]
 refine⟨y',fun j q hq=>?_,fun j hj=>?_⟩
 ·have hq:bset W.ps i (some (p.step (W.ms i) W.H k).1) j=some q:=hq
  by_cases hji:j=i
  ·subst hji
   rw[bset_same] at hq
   simp -implicitDefEqProofs only[Option.some.injEq] at hq; subst hq
   exact x'
  ·rw[bset_ne hji] at hq
   exact (x.ps j q hq).kp o.k (u j hji) n
 ·show MineR T' h' [5,j] (B j) (bset W.ms i (p.step (W.ms i) W.H k).2.1 j)
  by_cases hji:j=i
  ·subst hji; rw[bset_same]; exact z' hj
  ·rw[bset_ne hji]; exact (x.ms j hj).kp o.k (v j hji)
section
variable {T:Tags}{h:Heap}{hp k i nm:Nat}{A B:Nat→Nat}{W:Wd}{M:Tbl}{K:KTy}
theorem hdstep_h {p:HP}(n:Int)(w:Wf T h)(x:HdM T h hp A B nm W)(y:WdK k W M)(hk:k<100000)(hi:i<nm)(hp':W.ps i=some (.h p))(hK:∀ T' h',Only UH T h T' h'→HdM T' h' hp A B nm (W.step i n)→K (.tuple #[]) h'):callM P qaQZ #[ptr (A i),ptr hp,.int .i64 n] h K:=by
 have hpa:=y.li.pa i _ hp'
 refine hestep_ok n w (g2i i) g1 (g5i i) (d2i1 i) (d25 i i) (d12i i) (d15 i) (d52 i i) (d51 i) (x.ps i _ hp') x.hl (x.ms i hi) y.hs hk hpa.1 fun T' h' o x' y' z'=>?_
 have nn:¬ U3p [2,i] [1] [5,i] []:=by rintro (h | h | h)<;>simp[pre] at h
 refine hK T' h' (o.mono fun t ht=>ht.elim UH.i2 fun ht=>ht.elim UH.i1 UH.i5) (x.put o (fun j hj t ht hh=>hh.elim (d2ij (Ne.symm hj) t ht) fun hh=>hh.elim (d12i j t ht) (d52 i j t ht)) (fun j hj t ht hh=>hh.elim (d25 i j t ht) fun hh=>hh.elim (d15 j t ht) (d55 (Ne.symm hj) t ht)) nn hp' y' x' fun _=>z')
theorem HdM.new {U:Tag→Prop}{T':Tags}{h':Heap}{q:Nat}{p:PR}(x:HdM T h hp A B nm W)(o:Only U T h T' h')(f1:Off U [1])(u:∀ j,j≠i→Off U [2,j])(v:∀ j,Off U [5,j])(n:¬ U [])(x':PRh T' h' [2,i] q (B i) p):HdM T' h' hp (bset A i q) B nm { W with ps:=bset W.ps i (some p) }:=by
 refine⟨x.hl.up o f1 n,fun j r hr=>?_,fun j hj=>(x.ms j hj).kp o.k (v j)⟩
 have hr:bset W.ps i (some p) j=some r:=hr
 by_cases hji:j=i
 ·subst hji
  rw[bset_same] at hr ⊢
  simp -implicitDefEqProofs only[Option.some.injEq] at hr; subst hr
  exact x'
 ·rw[bset_ne hji] at hr ⊢
  exact (x.ps j r hr).kp o.k (u j hji) n
theorem wp0_pa {i:Nat}{H:Hall}{o:OpD}{k:Nat}(hs:HS k H)(hi:i≤900)(ow:OpW o):PA H.n i H.c (.w (wp0 H i o)):=by
 have n8:=hs.n8
 have nn:=hs.nn
 have hst:=stripeOf_lt (u:=o.user) (n:=H.c.stripes) (by omega)
 have hsn:(stripeOf o.user H.c.stripes).toNat<H.n:=by omega
 refine⟨sect_g hsn (by omega) fun z hz=>?_,rfl,by simp[wp0,sect],fun z hz=>?_⟩
 ·split at hz
  ·cases hz
  ·cases hz; exact ow
 ·have hz:(if badB o then WK.bad else .op o) = .op z:=hz
  split at hz
  ·cases hz
  ·cases hz; rfl
theorem hp0_pa {i:Nat}{H:Hall}{o:OpD}{k:Nat}(hs:HS k H)(hi:i<8)(ow:OpW o)(h6:badB o=false→6≤o.kind):PA H.n i H.c (.h (hp0 H i o)):=by
 have n8:=hs.n8
 have nn:=hs.nn
 have hst:=stripeOf_lt (u:=o.user) (n:=H.c.stripes) (by omega)
 refine⟨⟨rfl,by show (stripeOf o.user H.c.stripes).toNat<H.n; omega,by show -1≤(i:Int)∧(i:Int)≤900; omega,ow,Nat.zero_le _⟩,rfl,hi,h6,rfl⟩
theorem hdnew_h (hi:i<8)(o:OpD)(ow:OpW o)(hl:o.users.length<1000000)(h6:badB o=false→6≤o.kind){v:Value}(hv:Sl 1 StrR (fz T h) v o.users)(w:Wf T h)(x:HdM T h hp A B nm W)(y:WdK k W M)(hi':∀ q,W.ps i=some q→Idle q (W.ms i) W.H.c)
  (hK:∀ T' h' q,Only UH T h T' h'→HdM T' h' hp (bset A i q) B nm { W with ps:=bset W.ps i (some (.h (hp0 W.H i o))) }→WdK k { W with ps:=bset W.ps i (some (.h (hp0 W.H i o))) } M→K (ptr q) h'):callM P qfNZ #[ptr hp,ptr (B i),.int .i64 i,.agg (opC o v).toArray] h K:=by
 have n8:=y.hs.n8
 have nn:=y.hs.nn
 refine henew_ok i o ow w (g2i i) (d2i1 i) x.hl hv hl (by omega) nn fun T' h' q o' x'=>?_
 exact hK T' h' q (o'.mono fun _=>UH.i2) (x.new o' (d2i1 i) (fun j hj=>d2ij (Ne.symm hj)) (fun j=>d25 i j) (by simp[pre]) x') ⟨y.li.start (hp0_pa y.hs hi ow h6) (Idle.hh _ _ rfl) hi',y.hs,y.ts⟩
end
end Go.Proofs.YtcnphhhcknhhaaaGreat
namespace Go.Den
open Go
set_option linter.unusedVariables false
set_option linter.unusedSimpArgs false
def HP.pl (p:HP):Nat:=if p.one then 0 else if p.x.kind=8 then p.k else 1
theorem places_pl (p:HP)(hlt:p.at_<p.steps):p.places=decide (p.at_=p.pl):=by
 unfold HP.places HP.pl
 unfold HP.steps at hlt
 cases h:p.one with
 | true=>rw[h] at hlt; simp at hlt; simp[hlt]
 | false =>
  by_cases h8:p.x.kind=8<;>simp[h8]
theorem HO.fin {p:HP}{m:Mine}{H:Hall}{r:Reply}(x:HO p m H r)(h:p.at_=p.steps)(hk1:1≤p.k):p.rep=r:=by
 cases h1:p.one with
 | true =>
  have hs:p.steps=1:=by simp[HP.steps,h1]
  rcases x.o h1 with ⟨h2,_⟩ | ⟨_,h2⟩
  ·omega
  ·exact h2
 | false =>
  by_cases h8:p.x.kind=8
  ·have hs:p.steps=3*p.k+1:=by simp[HP.steps,h1,h8]
   obtain⟨p1,p2,p3,p4,p5⟩:=x.p0 h1 h8
   have hk:¬ p.k=0:=by omega
   have r4:=p4 (by omega)
   have r5:=p5 (by omega)
   obtain⟨q1,q2⟩:=rest_nil p H (j:=p.at_-p.k-1) (by omega)
   rw[r4,q1,q2,List.append_nil,Bool.or_false,← r5]
   cases hr:p.rep
   rw[hr] at p1 p2
   simp at p1 p2
   simp[p1,p2]
  ·have hs:p.steps=4:=by simp[HP.steps,h1,h8]
   exact ((x.w h1 h8).2.2 (by omega)).symm
end Go.Den
namespace Go.Proofs.YtcnphhhcknhhaaaGreat
open Go Go.Den Go.MapKept
set_option linter.unusedSimpArgs false
set_option linter.unusedVariables false
set_option maxRecDepth 20000
structure RH (T0:Tags)(h0:Heap)(hp m N nm:Nat)(c:Cfg)(B:Nat→Nat)(W:Wd)(M:Tbl)(T':Tags)(h':Heap):Prop where
 o:Only UH T0 h0 T' h'
 x:∃ A,HdM T' h' hp A B nm W
 k:WdK m W M
 r:∀ j q,W.ps j=some q→Idle q (W.ms j) W.H.c
 n:W.H.n=N
 ec:W.H.c=c
 lm:∀ j,((W.ms j).length:Int)≤c.watches
 hz:∀ j,nm≤j→W.ms j=[]∧∀ p,W.ps j≠some (.h p)
section
variable {T0 T':Tags}{h0 h':Heap}{hp q i k m N nm:Nat}{c:Cfg}{B:Nat→Nat}{W:Wd}{M M0:Tbl}{x:OpD}{K:KTy}
theorem RH.init {T:Tags}{h:Heap}(cw:CfgW c)(hr:rightB c=true)(w:Wf T h)(y:HallR T h [1] hp (hall0 c c.stripes.toNat))(B:Nat→Nat):RH T h hp 0 c.stripes.toNat 0 c B (wd0 c c.stripes.toNat) (tbl0 c c.stripes.toNat) T h :=
 ⟨Only.refl w,⟨fun _=>0,y,fun i p h=>by simp[wd0] at h,fun i h=>by omega⟩,wd0K cw hr (cfg_nn hr).1,fun j q h=>by simp[wd0] at h,rfl,rfl,fun j=>by
  simp -implicitDefEqProofs only[rightB,decide_eq_true_eq] at hr
  show ((([]:Mine).length:Nat):Int)≤_
  simp; omega,fun j _=>⟨rfl,fun p h=>by simp[wd0] at h⟩⟩
theorem rh_mine {T'':Tags}{h'':Heap}(y:RH T0 h0 hp m N nm c B W M T' h')(o:Only non T' h' T'' h''){q:Nat}(z:MineR T'' h'' [5,nm] q []):RH T0 h0 hp m N (nm+1) c (bset B nm q) W M T'' h'':=by
 obtain⟨A,xm⟩:=y.x
 refine⟨y.o.up o non_up,⟨A,xm.hl.up o (Off.non _) (not_non _),fun j r hr=>?_,fun j hj=>?_⟩,y.k,y.r,y.n,y.ec,y.lm,fun j hj=>y.hz j (by omega)⟩
 ·have:=(xm.ps j r hr).kp o.k (Off.non _) (not_non _)
  by_cases hjn:j=nm
  ·subst hjn
   cases r with
   | w p=>exact this
   | r p=>exact this
   | h p=>exact absurd hr ((y.hz _ (Nat.le_refl _)).2 p)
  ·rw[bset_ne hjn]; exact this
 ·by_cases hjn:j=nm
  ·subst hjn; rw[bset_same,(y.hz _ (Nat.le_refl _)).1]; exact z
  ·rw[bset_ne hjn]; exact (xm.ms j (by omega)).kp o.k (Off.non _)
end
end Go.Proofs.YtcnphhhcknhhaaaGreat
namespace Go.Proofs.YtcnphhhcknhhaaaGreat
open Go Go.Den Go.MapKept
set_option linter.unusedSimpArgs false
set_option linter.unusedVariables false
set_option maxRecDepth 20000
theorem u8At {F:Heap}{v:Value}{bs:List Int}(x:Sl 1 (IntR .u8) F v bs){i:Nat}(hi:i<bs.length):∃ b p,iaV (some (none,1)) v (.int .i64 i)=some (.pointer (some ⟨b,p,none⟩))∧(∀ h',Ext F h'→cel h' b p=some (.int .u8 bs[i]))∧0≤bs[i]∧bs[i]≤255:=by
 obtain⟨b,o,c,i1,i2,i3,i4⟩:=x.at (k:=.i64) (i:=i) (by omega) (by omega)
 simp -implicitDefEqProofs only[Int.toNat_natCast] at i3 i4
 subst i3
 have hw:=wf_u8 i4
 refine⟨b,o,i1,fun h' e=>?_,hw.1,hw.2⟩
 have:=(cels_get (cels_ext e i2)).2 0 (by simp)
 simpa using this
end Go.Proofs.YtcnphhhcknhhaaaGreat
namespace Go.Proofs.YtcnphhhcknhhaaaGreat
open Go Go.Den Go.MapKept
set_option linter.unusedSimpArgs false
set_option linter.unusedVariables false
set_option maxRecDepth 20000
def crC (c:Cfg)(wv hv tv:Value):List Value:=cfgC c++[wv,hv,tv]
def OpsR (h:Heap)(c:List Value)(l:List OpD):Prop:=∃ v,c=[v]∧Sl 7 OpR h v l
theorem OpsR.ext {h h':Heap}{c:List Value}{l:List OpD}(e:Ext h h')(x:OpsR h c l):OpsR h' c l:=by
 obtain⟨v,h1,h2⟩:=x
 exact⟨v,h1,h2.ext (@OpR.ext) e⟩
theorem OpsR.at {F:Heap}{v:Value}{ls:List (List OpD)}(x:Sl 1 OpsR F v ls){i:Nat}(hi:i<ls.length):∃ b q u,iaV (some (none,1)) v (.int .i64 i)=some (.pointer (some ⟨b,q,none⟩))∧(∀ h',Ext F h'→cel h' b q=some u)∧Sl 7 OpR F u ls[i]:=by
 obtain⟨b,o,c,i1,i2,i3⟩:=x.at (k:=.i64) (i:=i) (by omega) (by omega)
 simp -implicitDefEqProofs only[Int.toNat_natCast] at i3
 obtain⟨u,rfl,hu⟩:=i3
 refine⟨b,o,u,i1,fun h' e=>?_,hu⟩
 have:=(cels_get (cels_ext e i2)).2 0 (by simp)
 simpa using this
structure CrX (h:Heap)(c:Cfg)(ws:List OpD)(hs:List (List OpD))(ts:List Int)(wv hv tv:Value):Prop where
 w:Sl 7 OpR h wv ws
 hd:Sl 1 OpsR h hv hs
 t:Sl 1 (IntR .u8) h tv ts
theorem CrX.ext {h h':Heap}{c:Cfg}{ws:List OpD}{hs:List (List OpD)}{ts:List Int}{wv hv tv:Value}(x:CrX h c ws hs ts wv hv tv)(e:Ext h h'):CrX h' c ws hs ts wv hv tv:=⟨x.w.ext (@OpR.ext) e,x.hd.ext (@OpsR.ext) e,x.t.ext (fun _ r=>r) e⟩
structure Fits (c:Cfg)(ws:List OpD)(hs:List (List OpD))(ts:List Int):Prop where
 w:ws.length≤4
 h:hs.length≤4
 n:ws.length+hs.length≠0
 t:ts.length≤300
 r:rightB c=true
 sw:∀ x∈ws,shortB x=true
 lh:∀ l∈hs,l.length≤60
 sh:∀ l∈hs,∀ x∈l,shortB x=true
variable {K:KTy}
set_option maxHeartbeats 1000000 in
theorem fits17_ok (c:Cfg)(ws:List OpD)(hs:List (List OpD))(ts:List Int){h:Heap}{wv hv tv:Value}(x:CrX h c ws hs ts wv hv tv)(hk:∀ h' b,Ext h h'→(b=true→Fits c ws hs ts)→K (.bool b) h'):callM P qgsZ #[.agg (crC c wv hv tv).toArray] h K:=by
 apply qsPZ
 unfold qhFZ
 have wl:=x.w.len
 have hl:=x.hd.len
 have tl:=x.t.len
 refine nw_agg fun v1 h1 n1 e1 c1=>?_
 have c7:cel h1 v1 7=some wv:=by simp[cel_of c1,crC,cfgC]
 have c8:cel h1 v1 8=some hv:=by simp[cel_of c1,crC,cfgC]
 have c9:cel h1 v1 9=some tv:=by simp[cel_of c1,crC,cfgC]
 have og:ldV (some (some 7)) (ptr v1) h1=some (.agg (cfgC c).toArray):=by simp[ld_at c1,crC,cfgC]
 have no:K (.bool false) h1:=hk _ _ e1 (fun h=>by cases h)
 by_cases a1:ws.length≤4
 rotate_left
 ·have a1':(4:Int)<ws.length:=by omega
  simp -implicitDefEqProofs[c7,wl,a1']; exact no
 have a1':¬ (4:Int)<ws.length:=by omega
 by_cases a2:hs.length≤4
 rotate_left
 ·have a2':(4:Int)<hs.length:=by omega
  simp -implicitDefEqProofs[c7,c8,wl,hl,a1',a2']; exact no
 have a2':¬ (4:Int)<hs.length:=by omega
 have hw:IntKind.i64.wrap ((ws.length:Int)+hs.length)=(ws.length+hs.length:Int):=wrap64_id (by omega) (by omega)
 by_cases a3:ws.length+hs.length=0
 ·have a3':(ws.length:Int)+hs.length=0:=by omega
  have hw0:IntKind.i64.wrap 0=0:=wrap64_id (by omega) (by omega)
  simp -implicitDefEqProofs[c7,c8,wl,hl,a1',a2',a3',hw0]; exact no
 have a3':¬ (ws.length:Int)+hs.length=0:=by omega
 by_cases a4:ts.length≤300
 rotate_left
 ·have a4':(300:Int)<ts.length:=by omega
  simp -implicitDefEqProofs[c7,c8,c9,wl,hl,tl,a1',a2',hw,a3',a4']; exact no
 have a4':¬ (300:Int)<ts.length:=by omega
 simp -implicitDefEqProofs[c7,c8,c9,wl,hl,tl,a1',a2',hw,a3',a4',og]
 refine refRight_ok c fun h2 e2=>?_
 have e02:=e1.trans e2
 have c7:∀ h',Ext h2 h'→cel h' v1 7=some wv:=fun h' e=>by simp[cel_of (e _ _ (e2 _ _ c1)),crC,cfgC]
 have c8:∀ h',Ext h2 h'→cel h' v1 8=some hv:=fun h' e=>by simp[cel_of (e _ _ (e2 _ _ c1)),crC,cfgC]
 cases hr:rightB c with
 | false=>simp; exact hk _ _ e02 (fun h=>by cases h)
 | true =>
 simp -implicitDefEqProofs
 unfold qkWZ
 rw[seqM_eq]
 unfold qkTZ
 refine loop_on [1] (fun s h'=>Ext h2 h'∧∃ i:Nat,i≤ws.length∧s 3 = .int .i64 i∧∀ x∈ws.take i,shortB x=true) (fun s _=>(ws.length-num (s 3)).toNat) ⟨Ext.refl _,0,by omega,rfl,by simp⟩ ?_
 rintro s h4 hf ⟨e4,i,hi,s3,hall⟩
 have s1:s 1=ptr v1:=by simpa using hf 1 (by simp)
 unfold qkSZ
 simp -implicitDefEqProofs[s1,c7 _ e4,wl,s3]
 refine⟨fun hc=>?_,fun hc=>?_⟩
 ·have hlt:i<ws.length:=by omega
  have hw1:IntKind.i64.wrap ((i:Int)+1)=(i+1:Nat):=by rw[wrap64_id (by omega) (by omega)]; omega
  obtain⟨b,p,u,i1,i2,i3,i4⟩:=opsAt x.w hlt
  unfold qkRZ
  simp -implicitDefEqProofs[s1,c7 _ e4,s3,i1,i2 _ (e02.trans e4)]
  refine short_ok ws[i] (i3.ext (@StrR.ext) (e02.trans e4)) fun h5 e5=>?_
  unfold qkQZ
  cases hs':shortB ws[i] with
  | false =>
   simp -implicitDefEqProofs
   unfold qkOZ
   simp -implicitDefEqProofs
   exact hk _ _ ((e02.trans e4).trans e5) (fun h=>by cases h)
  | true =>
   simp -implicitDefEqProofs
   unfold qkPZ
   simp -implicitDefEqProofs[s1,s3,hw1,-Int.natCast_add]
   refine⟨⟨e4.trans e5,i+1,by omega,rfl,fun y hy=>?_⟩,by omega⟩
   rw[List.take_succ_eq_append_getElem hlt,List.mem_append,List.mem_singleton] at hy
   rcases hy with hy | rfl
   ·exact hall y hy
   ·exact hs'
 have hie:i=ws.length:=by omega
 subst hie
 rw[List.take_of_length_le (Nat.le_refl _)] at hall
 unfold qkVZ
 rw[seqM_eq]
 unfold qkUZ
 refine loop_on [1] (fun s h'=>Ext h2 h'∧∃ i:Nat,i≤hs.length∧s 4 = .int .i64 i∧∀ l∈hs.take i,l.length≤60∧∀ x∈l,shortB x=true) (fun s _=>(hs.length-num (s 4)).toNat) ⟨e4,0,by omega,rfl,by simp⟩ ?_
 clear s3
 rintro r h5 hf5 ⟨e5,i,hi,r4,hal2⟩
 have r1:r 1=ptr v1:=by simpa [s1] using hf5 1 (by simp)
 unfold qjXZ
 simp -implicitDefEqProofs[r1,c8 _ e5,hl,r4]
 refine⟨fun hc=>?_,fun hc=>?_⟩
 rotate_left
 ·have hie:i=hs.length:=by omega
  subst hie
  rw[List.take_of_length_le (Nat.le_refl _)] at hal2
  exact hk _ _ (e02.trans e5) fun _=>⟨a1,a2,a3,a4,hr,hall,fun l hl=>(hal2 l hl).1,fun l hl=>(hal2 l hl).2⟩
 have hlt:i<hs.length:=by omega
 have hw1:IntKind.i64.wrap ((i:Int)+1)=(i+1:Nat):=by rw[wrap64_id (by omega) (by omega)]; omega
 obtain⟨b,q,u,i1,i2,i3⟩:=OpsR.at x.hd hlt
 have ul:=i3.len
 unfold qjWZ
 rw[seqM_eq]
 unfold qjVZ
 by_cases a6:hs[i].length≤60
 rotate_left
 ·have a6':(60:Int)<hs[i].length:=by omega
  simp -implicitDefEqProofs[r1,c8 _ e5,r4,i1,i2 _ (e02.trans e5),ul,a6']
  unfold qjOZ
  simp -implicitDefEqProofs
  exact hk _ _ (e02.trans e5) (fun h=>by cases h)
 have a6':¬ (60:Int)<hs[i].length:=by omega
 simp -implicitDefEqProofs[r1,c8 _ e5,r4,i1,i2 _ (e02.trans e5),ul,a6']
 unfold qjUZ
 refine loop_on [1,4] (fun s h'=>Ext h2 h'∧∃ j:Nat,j≤hs[i].length∧s 5 = .int .i64 j∧∀ x∈hs[i].take j,shortB x=true) (fun s _=>(hs[i].length-num (s 5)).toNat) ⟨e5,0,by omega,rfl,by simp⟩ ?_
 rintro t h6 hf6 ⟨e6,j,hj,t5,hal3⟩
 have t1:t 1=ptr v1:=by simpa [r1] using hf6 1 (by simp)
 have t4:t 4 = .int .i64 i:=by simpa [r4] using hf6 4 (by simp)
 unfold qjTZ
 simp -implicitDefEqProofs[t1,c8 _ e6,t4,i1,i2 _ (e02.trans e6),ul,t5]
 refine⟨fun hc=>?_,fun hc=>?_⟩
 ·have hlj:j<hs[i].length:=by omega
  have hw2:IntKind.i64.wrap ((j:Int)+1)=(j+1:Nat):=by rw[wrap64_id (by omega) (by omega)]; omega
  obtain⟨b2,p2,u2,j1,j2,j3,j4⟩:=opsAt i3 hlj
  unfold qjSZ
  simp -implicitDefEqProofs[t1,c8 _ e6,t4,i1,i2 _ (e02.trans e6),t5,j1,j2 _ (e02.trans e6)]
  refine short_ok hs[i][j] (j3.ext (@StrR.ext) (e02.trans e6)) fun h7 e7=>?_
  unfold qjRZ
  cases hs':shortB hs[i][j] with
  | false =>
   simp -implicitDefEqProofs
   unfold qjPZ
   simp -implicitDefEqProofs
   exact hk _ _ ((e02.trans e6).trans e7) (fun h=>by cases h)
  | true =>
   simp -implicitDefEqProofs
   unfold qjQZ
   simp -implicitDefEqProofs[r1,r4,t1,t4,t5,hw2,-Int.natCast_add]
   refine⟨⟨e6.trans e7,j+1,by omega,rfl,fun y hy=>?_⟩,by omega⟩
   rw[List.take_succ_eq_append_getElem hlj,List.mem_append,List.mem_singleton] at hy
   rcases hy with hy | rfl
   ·exact hal3 y hy
   ·exact hs'
 have hje:j=hs[i].length:=by omega
 subst hje
 rw[List.take_of_length_le (Nat.le_refl _)] at hal3
 simp -implicitDefEqProofs[r1,s1,t1,t4,hw1,-Int.natCast_add]
 refine⟨⟨e6,i+1,by omega,rfl,fun l hl=>?_⟩,by omega⟩
 rw[List.take_succ_eq_append_getElem hlt,List.mem_append,List.mem_singleton] at hl
 rcases hl with hl | rfl
 ·exact hal2 l hl
 ·exact⟨a6,hal3⟩
end Go.Proofs.YtcnphhhcknhhaaaGreat
