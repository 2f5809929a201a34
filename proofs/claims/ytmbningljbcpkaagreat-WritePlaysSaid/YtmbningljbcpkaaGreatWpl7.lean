/- Words, plain data and contracts of the Go functions that this claim reaches. No condition beyond the hypotheses that each theorem states. -/
import Derived.Test.YtmbningljbcpkaaGreatWpl6
set_option linter.unusedSimpArgs false
set_option linter.unusedVariables false
namespace Go.Proofs.YtmbningljbcpkaaGreat
open Go Go.Den Go.MapKept
set_option linter.unusedSimpArgs false
set_option linter.unusedVariables false
set_option maxRecDepth 20000
theorem bdRProc (w s a b c d:Int)(e:Int)(u:ByteArray)(v:Option Addr)(n k:Nat):bdV (binf P qOZ) [(0,.int .i64 w),(1,.int .i64 s),(3,.int .i64 (-1)),(4,.agg #[.int .i64 a,.string u,.int .i64 b,.int .i64 c,.int .i64 d,.int .u64 e,.slice v n k])] =
  some (.agg #[.int .i64 w,.int .i64 s,.int .i64 0,.int .i64 (-1),.int .i64 a,.string u,.int .i64 b,.int .i64 c,.int .i64 d,.int .u64 e,.slice v n k,.bool false,.int .u64 0,.int .u64 0,.bool false,.int .i64 0,.slice none 0 0,.slice none 0 0,.bool false]):=by kernel_rfl
variable {K:KTy}
theorem rwnew_ok (who:Int)(o:OpD)(ow:OpW o){T:Tags}{h:Heap}{g gh:Tag}{hp:Nat}{H:Hall}(w:Wf T h)(y:RhR T h gh hp H){v:Value}(hv:Sl 1 StrR (fz T h) v o.users)(hl:o.users.length<1000000)(c8:1≤H.c.stripes∧H.c.stripes≤8)
  (hk:∀ T' h' q,Only non T h T' h'→h q=none→RWP T' h' g q (wp0 H who o)→K (ptr q) h'):callM P qeIZ #[ptr hp,.int .i64 who,.agg (opC o v).toArray] h K:=by
 apply qtsZ
 unfold qjyZ
 refine nw_agg fun v1 h1 n1 e1 c1=>?_
 have o1:Only non T h T h1:=Only.of_ext w e1
 have y1:=y.kp o1.k (Off.non _) (not_non _)
 have og:ldV (some (some 7)) (ptr v1) h1=some (.agg (opC o v).toArray):=by simp[ld_at c1,opC]
 have c1':=c1
 simp -implicitDefEqProofs only[opC] at c1
 simp -implicitDefEqProofs[ld_at c1,cel_of c1,stm_at c1,stm_upd,ld_same,cel_same,over]
 refine rz_of o.user ow.s1 y1 c8.2 ?_
 have hst:=stripeOf_rng o.user c8.1
 obtain⟨va,vn,vc,rfl⟩:∃ a n c,v = .slice a n c:=by
  rcases hv with ⟨_,a,c,rfl⟩ | ⟨b,o',cap,rfl,_⟩
  ·exact⟨_,_,_,rfl⟩
  ·exact⟨_,_,_,rfl⟩
 unfold qnfZ
 simp -implicitDefEqProofs[ld_at c1,cel_of c1,stm_at c1,stm_upd,ld_same,cel_same,over,bdRProc]
 refine nw_tag o1.wf g fun q T2 h2 n2 o2 t2 c2=>?_
 refine hk T2 h2 q (o1.trans o2) (o1.fresh n2) ⟨false,o,_,?_,t2,(hv.ext (@StrR.ext) ((o1.trans o2).ext (not_non _))),ow,hl,?_⟩
 ·rw[c2]
  have e:((stripeOf o.user H.c.stripes).toNat:Int)=stripeOf o.user H.c.stripes:=by omega
  simp -implicitDefEqProofs[rwC,wp0,sect,e]
 ·unfold RwK wp0 sect
  dsimp only
  cases hb:badB o with
  | true=>simp
  | false=>simp
abbrev RRel:=Tags→Heap→Tag→Nat→PR→Prop
structure RKeeps (R:RRel):Prop where
 kp:∀ {U:Tag→Prop} {T T':Tags} {h h':Heap} {g:Tag} {q:Nat} {p:PR},R T h g q p→Kp U T h T' h'→Off U g→¬ U []→R T' h' g q p
structure RdM (R:RRel)(T:Tags)(h:Heap)(hq:Nat)(B:Nat→Nat)(W:Wd):Prop where
 z:RhR T h [3] hq W.H
 ps:∀ i p,W.ps i=some p→R T h [4,i] (B i) p
def UR (t:Tag):Prop:=pre [3] t∨pre [4] t
theorem UR.nil:¬ UR []:=by rintro (h | h)<;>simp[pre] at h
theorem RdM.up {R:RRel}(rk:RKeeps R){U:Tag→Prop}{T T':Tags}{h h':Heap}{hq:Nat}{B:Nat→Nat}{W:Wd}(x:RdM R T h hq B W)(k:Kp U T h T' h')(f:∀ t,UR t→¬ U t)(n:¬ U []):RdM R T' h' hq B W :=
 ⟨x.z.kp k (fun t ht=>f t (.inl ht)) n,fun i p hp=>rk.kp (x.ps i p hp) k (fun t ht=>f t (.inr (pre_trans (g:=[4]) (s:=[i]) ht))) n⟩
theorem RdM.ext {R:RRel}(rk:RKeeps R){T:Tags}{h h':Heap}{hq:Nat}{B:Nat→Nat}{W:Wd}(x:RdM R T h hq B W)(w:Wf T h)(e:Ext h h'):RdM R T h' hq B W:=x.up rk (Only.of_ext (U:=non) w e).k (fun _ _ h=>h) (not_non _)
theorem d34i (i:Nat):¬ pre [3] [4,i]:=by simp[pre]
theorem o34i (i:Nat):Off (pre [3]) [4,i]:=off_pre (g:=[]) (x:=[3]) (y:=[4,i]) (by simp) (by simp)
theorem o4i3 (i:Nat):Off (pre [4,i]) [3]:=off_pre (g:=[]) (x:=[4,i]) (y:=[3]) (by simp) (by simp)
theorem o4ij {i j:Nat}(h:i≠j):Off (pre [4,i]) [4,j]:=off_pre (g:=[4]) (x:=[i]) (y:=[j]) (by simpa using h) (by simpa using Ne.symm h)
theorem RdM.put {R:RRel}(rk:RKeeps R){U:Tag→Prop}{T T':Tags}{h h':Heap}{hq i:Nat}{B:Nat→Nat}{W:Wd}{p:PR}(x:RdM R T h hq B W)(o:Kp U T h T' h')(u:∀ j,j≠i→Off U [4,j])(n:¬ U []){k:Int}(hp':W.ps i=some p)
  (z':RhR T' h' [3] hq (p.step (W.ms i) W.H k).2.2) (x':R T' h' [4,i] (B i) (p.step (W.ms i) W.H k).1):RdM R T' h' hq B (W.step i k):=by
 have e:W.step i k=⟨(p.step (W.ms i) W.H k).2.2,bset W.ps i (some (p.step (W.ms i) W.H k).1),bset W.ms i (p.step (W.ms i) W.H k).2.1⟩:=by simp only[Wd.step,hp']
 rw[e]
 refine⟨z',fun j q hq=>?_⟩
 have hq:bset W.ps i (some (p.step (W.ms i) W.H k).1) j=some q:=hq
 by_cases hji:j=i
 ·subst hji
  rw[bset_same] at hq
  simp -implicitDefEqProofs only[Option.some.injEq] at hq; subst hq
  exact x'
 ·rw[bset_ne hji] at hq
  exact rk.kp (x.ps j q hq) o (u j hji) n
structure RWri (R:RRel):Prop extends RKeeps R where
 w1:∀ {T:Tags} {h:Heap} {g:Tag} {q:Nat} {p:WP},R T h g q (.w p)→RWP T h g q p
 w2:∀ {T:Tags} {h:Heap} {g:Tag} {q:Nat} {p:WP},RWP T h g q p→R T h g q (.w p)
def WgA (W:Wd):Prop:=∀ i p,W.ps i=some (.w p)→WG W.H.n p
section
variable {T:Tags}{h:Heap}{hp hq i m:Nat}{A B:Nat→Nat}{W:Wd}{p:WP}{K:KTy}
theorem pastep_w (n:Int)(w:Wf T h)(x:WdM T h hp A W)(hs:HS m W.H)(hm:m<90000)(wg:WG W.H.n p)(hp':W.ps i=some (.w p))(hK:∀ T' h',Only UW T h T' h'→WdM T' h' hp A (W.step i n)→K (.tuple #[]) h'):callM P qaEZ #[ptr (A i),ptr hp,.int .i64 n] h K:=by
 refine wstep_ok n w g1 (d12i i) (d2i1 i) (g2i i) (x.ps i _ hp') x.hl hs (by omega) wg fun T' h' o x' y'=>?_
 exact hK T' h' (o.mono fun _=>UW.two i) (x.put o (fun j hj=>dtwo (Ne.symm hj)) (by rintro (h | h)<;>simp[pre] at h) hp' y' x')
theorem rdstep_w {R:RRel}(rk:RWri R)(n:Int)(w:Wf T h)(x:RdM R T h hq B W)(hs:HS m W.H)(hm:m<90000)(wg:WG W.H.n p)(hp':W.ps i=some (.w p))(hK:∀ T' h',Only UR T h T' h'→RdM R T' h' hq B (W.step i n)→K (.tuple #[]) h'):callM P qaxZ #[ptr (B i),ptr hq,.int .i64 n] h K:=by
 refine rwstep_ok n w g3 (by simp) (d34i i) ⟨by simp,fun t ht e=>o4i3 i t ht (e▸⟨[],by simp⟩)⟩ (rk.w1 (x.ps i _ hp')) x.z hs hm wg fun T' h' o x' z'=>?_
 refine hK T' h' (o.mono fun t ht=>ht.elim (fun e=>.inr (e▸⟨[i],rfl⟩)) .inl) (x.put rk.toRKeeps o.k (fun j hj t ht hh=>hh.elim (fun e=>?_) (o34i j t ht)) (by rintro (h | h)<;>simp[pre] at h) hp' z' (rk.w2 x'))
 exact o4ij (Ne.symm hj) t ht (e▸⟨[],by simp⟩)
theorem panew_w (hi:i≤900)(o:OpD)(ow:OpW o)(hl:o.users.length<1000000){v:Value}(hv:Sl 1 StrR (fz T h) v o.users)(w:Wf T h)(x:WdM T h hp A W)(c8:1≤W.H.c.stripes∧W.H.c.stripes≤8)
  (hK:∀ T' h' q,Only non T h T' h'→WdM T' h' hp (bset A i q) { W with ps:=bset W.ps i (some (.w (wp0 W.H i o))) }→K (ptr q) h'):callM P qfIZ #[ptr hp,.int .i64 i,.agg (opC o v).toArray] h K:=by
 refine wnew_ok i o ow w (g2i i) x.hl hv hl c8 fun T' h' q o' nq x'=>?_
 refine hK T' h' q o' ⟨x.hl.up o' (Off.non _) (not_non _),fun j p hj=>?_⟩
 have hj:bset W.ps i (some (.w (wp0 W.H i o))) j=some p:=hj
 by_cases hji:j=i
 ·subst hji
  rw[bset_same] at hj ⊢
  simp -implicitDefEqProofs only[Option.some.injEq] at hj; subst hj
  exact x'
 ·rw[bset_ne hji] at hj ⊢
  exact (x.ps j p hj).kp o'.k (Off.non _) (not_non _)
theorem rdnew_w {R:RRel}(rk:RWri R)(o:OpD)(ow:OpW o)(hl:o.users.length<1000000){v:Value}(hv:Sl 1 StrR (fz T h) v o.users)(w:Wf T h)(x:RdM R T h hq B W)(c8:1≤W.H.c.stripes∧W.H.c.stripes≤8)
  (hK:∀ T' h' q,Only non T h T' h'→RdM R T' h' hq (bset B i q) { W with ps:=bset W.ps i (some (.w (wp0 W.H i o))) }→K (ptr q) h'):callM P qeIZ #[ptr hq,.int .i64 i,.agg (opC o v).toArray] h K:=by
 refine rwnew_ok (g:=[4,i]) i o ow w x.z hv hl c8 fun T' h' q o' nq x'=>?_
 refine hK T' h' q o' ⟨x.z.kp o'.k (Off.non _) (not_non _),fun j p hj=>?_⟩
 have hj:bset W.ps i (some (.w (wp0 W.H i o))) j=some p:=hj
 by_cases hji:j=i
 ·subst hji
  rw[bset_same] at hj ⊢
  simp -implicitDefEqProofs only[Option.some.injEq] at hj; subst hj
  exact rk.w2 x'
 ·rw[bset_ne hji] at hj ⊢
  exact rk.kp (x.ps j p hj) o'.k (Off.non _) (not_non _)
theorem wstepH (hs:HS m W.H)(wg:WG W.H.n p)(hp':W.ps i=some (.w p))(n:Int):(W.step i n).H=(p.step W.H n).2∧HS (m+1) (W.step i n).H∧(W.step i n).H.n=W.H.n∧(W.step i n).H.c=W.H.c∧(W.step i n).ps=bset W.ps i (some (.w (p.step W.H n).1)):=by
 have e:W.step i n=⟨(p.step W.H n).2,bset W.ps i (some (.w (p.step W.H n).1)),bset W.ms i (W.ms i)⟩:=by simp only[Wd.step,hp',PR.step]
 have h2:=wstep_n p W.H n
 rw[e]
 exact⟨rfl,hs.wstep wg n,h2.1,h2.2,rfl⟩
theorem WgA.step (wa:WgA W)(hs:HS m W.H)(wg:WG W.H.n p)(hp':W.ps i=some (.w p))(n:Int):WgA (W.step i n):=by
 obtain⟨h1,h2,h3,h4,h5⟩:=wstepH hs wg hp' n
 intro j q hj
 rw[h3]
 rw[h5] at hj
 by_cases hji:j=i
 ·subst hji
  rw[bset_same] at hj
  simp -implicitDefEqProofs only[Option.some.injEq,PR.w.injEq] at hj; subst hj
  exact wg.step hs n
 ·rw[bset_ne hji] at hj
  exact wa j q hj
theorem wp0_g (hs:HS m W.H){o:OpD}(ow:OpW o)(hi:i≤900):WG W.H.n (wp0 W.H i o):=by
 have n8:=hs.n8
 have nn:=hs.nn
 have hst:=stripeOf_lt (u:=o.user) (n:=W.H.c.stripes) (by omega)
 refine sect_g (by omega) (by omega) fun z hz=>?_
 split at hz
 ·cases hz
 ·cases hz; exact ow
theorem WgA.add (wa:WgA W)(hs:HS m W.H){o:OpD}(ow:OpW o)(hi:i≤900):WgA { W with ps:=bset W.ps i (some (.w (wp0 W.H i o))) }:=by
 intro j q hj
 have hj:bset W.ps i (some (.w (wp0 W.H i o))) j=some (.w q):=hj
 by_cases hji:j=i
 ·subst hji
  rw[bset_same] at hj
  simp -implicitDefEqProofs only[Option.some.injEq,PR.w.injEq] at hj; subst hj
  exact wp0_g hs ow hi
 ·rw[bset_ne hji] at hj
  exact wa j q hj
end
def RoW:RRel:=fun T h g q p=>match p with
 | .w p=>RWP T h g q p
 | _=>False
theorem roW:RWri RoW:=⟨⟨fun {U T T' h h' g q p} x k o n=>by
 cases p with
 | w p=>exact RWP.kp x k o.self n
 | r p=>exact x
 | h p=>exact x⟩,fun x=>x,fun x=>x⟩
end Go.Proofs.YtmbningljbcpkaaGreat
namespace Go.Proofs.YtmbningljbcpkaaGreat
open Go Go.Den
set_option maxRecDepth 100000
set_option linter.unusedVariables false
set_option maxHeartbeats 40000000
def qgjZ (a:Post)(m:List Nat)(b:Env)(c d e f g h:Value)(i:Heap):Prop:=a .ret m (puts b [(54,(b 12)),(55,(b 1)),(56,c),(57,d),(60,(b 1)),(61,(b 12)),(62,e),(63,f),(64,g),(65,h),(6,(Value.bool true))]) i
def qgkZ (a:Env)(b:Post)(m:List Nat)(c d e f g h i j k l n o p q r s t u:Value)(v:Heap):Prop:=ov (binV BinOp.add 2 true (a 12) (Value.int IntKind.i64 1)) fun w=>b .normal m (puts a [(54,(a 12)),(55,(a 1)),(56,c),(57,d),(60,(a 1)),(61,(a 12)),(62,e),(63,f),(64,g),(65,h),(66,(a 10)),(67,(a 7)),(68,(a 12)),(69,(a 1)),(70,(a 12)),(71,i),(72,j),(73,k),(74,l),(75,n),(76,o),(10,o),(77,(a 11)),(78,(a 9)),(79,(a 12)),(80,(a 1)),(81,(a 12)),(82,p),(83,q),(84,r),(85,s),(86,t),(87,u),(11,u),(58,(a 12)),(59,w),(12,w)]) v
def qglZ (a:Value)(b:Heap)(c:Env)(d:Post)(m:List Nat)(e f g h i j k l n o p q r s t:Value):Prop:=bsM (bsI P qIZ) 1 [(0,a)] b fun u v=>vvM P (Builtin.append_ #[qIZ,qIZ] qIZ #[(c 11),u]) v fun w x=>qgkZ c d m e f g h i j k l n o p q r s t a u w x
def qgmZ (a:Env)(b:Value)(c:Heap)(d:Post)(m:List Nat)(e f g h i j k l n o p q r s:Value):Prop:=callM P qeIZ #[(a 9),(a 12),b] c fun t u=>qglZ t u a d m e f g h i j k l n o p q r s b
def qgnZ (a:Env)(b:Heap)(c:Post)(m:List Nat)(d e f g h i j k l n o p:Value):Prop:=ov (iaV (some (none,7)) (a 1) (a 12)) fun q=>ov (ldV (some (some 7)) q b) fun r=>callM P qctZ #[r] b fun s t=>qgmZ a s t c m d e f g h i j k l n o p q r
def qgoZ (a:Value)(b:Heap)(c:Env)(d:Post)(m:List Nat)(e f g h i j k l n:Value):Prop:=bsM (bsI P qaRZ) 1 [(0,a)] b fun o p=>vvM P (Builtin.append_ #[qaRZ,qaRZ] qaRZ #[(c 10),o]) p fun q r=>qgnZ c r d m e f g h i j k l n a o q
def qgpZ (a:Env)(b:Value)(c:Heap)(d:Post)(m:List Nat)(e f g h i j k l:Value):Prop:=callM P qfIZ #[(a 7),(a 12),b] c fun n o=>qgoZ n o a d m e f g h i j k l b
def qgqZ (a:Env)(b:Heap)(c:Post)(m:List Nat)(d e f g h i:Value):Prop:=ov (iaV (some (none,7)) (a 1) (a 12)) fun j=>ov (ldV (some (some 7)) j b) fun k=>callM P qctZ #[k] b fun l n=>qgpZ a l n c m d e f g h i j k
def qhoZ (a:Value)(b:Post)(m:List Nat)(c:Env)(d e f g:Value)(h:Heap):Prop:=ov (unV UnOp.not a) fun i=>cdM i (qgjZ b m c d e f g a i h) (qgqZ c h b m d e f g a i)
def qhpZ (a:Env)(b:Heap)(c:Post)(m:List Nat)(d e:Value):Prop:=ov (iaV (some (none,7)) (a 1) (a 12)) fun f=>ov (ldV (some (some 7)) f b) fun g=>callM P qfHZ #[g] b fun h i=>qhoZ h c m a d e f g i
def qhqZ (a:Env)(b:Heap)(c:Post)(m:List Nat):Prop:=ov (lnV 7 (a 1)) fun d=>ov (binV BinOp.lss 2 false (a 12) d) fun e=>cdM e (qhpZ a b c m d e) (c (.exit 0) m (puts a [(54,(a 12)),(55,(a 1)),(56,d),(57,e)]) b)
def qhrZ (x0 x1 x2 a b c d e f g h i j k l n o p q r s t u v w x y z aa ab ac ad:Value)(ae:Heap)(af:Post):Prop:=loopM (fun m ag ah ai=>qhqZ ag ah ai m) [] (puts (envOf [x0,x1,x2]) [(3,a),(6,(Value.bool false)),(18,b),(19,c),(20,c),(21,d),(22,e),(23,f),(24,g),(25,g),(26,h),(27,i),(28,j),(29,k),(30,k),(31,l),(32,n),(33,o),(34,p),(35,p),(36,q),(37,r),(38,s),(39,t),(42,u),(43,v),(41,v),(44,w),(45,x),(7,w),(8,x),(46,x),(47,y),(48,y),(49,z),(50,aa),(51,ab),(52,ac),(53,ad),(9,ad),(10,(Value.slice none 0 0)),(11,(Value.slice none 0 0)),(12,(Value.int IntKind.i64 0))]) ae (blkM 0 af)
def qpnZ (a:Post)(m:List Nat)(b:Env)(c d e f g h i j k l n o p q:Value)(r:Heap):Prop:=a .ret m (puts b [(88,(b 13)),(89,(b 2)),(90,c),(91,d),(94,(b 2)),(95,(b 13)),(96,e),(97,f),(98,g),(99,(b 1)),(100,h),(101,i),(14,i),(102,(b 10)),(103,i),(104,j),(105,k),(106,(b 7)),(108,(b 11)),(109,i),(110,l),(111,n),(112,(b 9)),(107,o),(113,p),(114,q),(6,(Value.bool false))]) r
def qgrZ (a:Env)(b:Value)(c:Heap)(d:Value)(e:Post)(m:List Nat)(f g h i j k l n o p q r s t u v w x y z aa ab ac:Value):Prop:=ov (iaV (some (none,1)) (a 11) b) fun ad=>ov (ldV (some none) ad c) fun ae=>ov (ncV ae) fun af=>ov (faV (some 15) af) fun ag=>ov (ldV (some (some 4)) ag c) fun ah=>stM (some 4) d ah c fun ai=>e .normal m (puts a [(88,(a 13)),(89,(a 2)),(90,f),(91,g),(94,(a 2)),(95,(a 13)),(96,h),(97,i),(98,j),(99,(a 1)),(100,k),(101,b),(14,b),(102,(a 10)),(103,b),(104,l),(105,n),(106,(a 7)),(108,(a 11)),(109,b),(110,o),(111,p),(112,(a 9)),(107,q),(113,r),(114,s),(115,(a 10)),(116,b),(117,t),(118,u),(119,(a 7)),(120,(a 13)),(121,v),(122,(a 11)),(123,b),(124,w),(125,x),(126,(a 9)),(127,(a 13)),(128,y),(129,(a 11)),(130,b),(131,z),(132,aa),(133,ab),(15,ab),(134,ac),(16,d),(135,ab),(136,(a 11)),(137,b),(138,ad),(139,ae),(140,af),(141,ag),(142,ah)]) ai
def qgsZ (a:Post)(m:List Nat)(b:Env)(c d e f g h i j k l n o p q r s t u v w x y z aa ab:Value)(ac:Heap):Prop:=a .normal m (puts b [(88,(b 13)),(89,(b 2)),(90,c),(91,d),(94,(b 2)),(95,(b 13)),(96,e),(97,f),(98,g),(99,(b 1)),(100,h),(101,i),(14,i),(102,(b 10)),(103,i),(104,j),(105,k),(106,(b 7)),(108,(b 11)),(109,i),(110,l),(111,n),(112,(b 9)),(107,o),(113,p),(114,q),(115,(b 10)),(116,i),(117,r),(118,s),(119,(b 7)),(120,(b 13)),(121,t),(122,(b 11)),(123,i),(124,u),(125,v),(126,(b 9)),(127,(b 13)),(128,w),(129,(b 11)),(130,i),(131,x),(132,y),(133,z),(15,z),(134,aa),(16,ab),(135,z)]) ac
def qgtZ (a:Value)(b:Env)(c:Value)(d:Heap)(e:Value)(f:Post)(m:List Nat)(g h i j k l n o p q r s t u v w x y z aa ab ac:Value):Prop:=cdM a (qgrZ b c d e f m g h i j k l n o p q r s t u v w x y z aa ab a ac) (qgsZ f m b g h i j k l c n o p q r s t u v w x y z aa ab a ac e d)
def qpoZ (a:Post)(m:List Nat)(b:Env)(c d e f g h i j k l n o p q r s t u v w x y z aa ab ac ad ae af ag ah ai aj ak al am an ao ap aq ar au av aw ax ay az ba bb bc bd be bf bg bh bi bj bk bl bm bn bo bp bq br bs bt bu bv bw bx bz ca cb cc cd:Value)(ce:Heap):Prop:=a .ret m (puts b [(143,(b 11)),(144,(b 14)),(145,c),(146,d),(147,e),(148,f),(149,g),(17,g),(150,(b 10)),(151,(b 14)),(152,h),(153,i),(155,(b 15)),(154,j),(156,k),(157,k),(158,l),(159,n),(160,o),(161,p),(163,q),(164,r),(165,s),(166,t),(162,u),(167,v),(168,w),(169,x),(170,x),(171,y),(172,z),(173,aa),(174,ab),(176,ac),(177,ad),(178,ae),(179,af),(180,ag),(181,ah),(182,ai),(175,aj),(183,ak),(184,al),(185,al),(186,am),(187,an),(188,ao),(189,ap),(191,aq),(190,ar),(192,au),(193,av),(194,aw),(195,aw),(196,ax),(197,ay),(199,az),(200,ba),(201,bb),(202,bc),(203,bd),(204,be),(205,bf),(206,bg),(207,bh),(208,bi),(209,bj),(198,bk),(210,bl),(211,bm),(212,bm),(213,bn),(214,bo),(216,bp),(217,bq),(215,br),(218,bs),(219,bt),(220,bu),(221,bu),(222,bv),(224,bw),(225,bx),(226,bz),(227,ca),(223,cb),(228,cc),(229,cd),(6,(Value.bool false))]) ce
def qguZ (a:Post)(m:List Nat)(b:Env)(c d e f g h i j k l n o p q r s t u v w x y z aa ab ac ad ae af ag ah ai aj ak al am an ao ap aq ar au av aw ax ay az ba bb bc bd be bf bg bh bi bj bk bl bm bn bo bp bq br bs bt bu bv bw bx bz ca cb cc cd:Value)(ce:Heap):Prop:=a .normal m (puts b [(143,(b 11)),(144,(b 14)),(145,c),(146,d),(147,e),(148,f),(149,g),(17,g),(150,(b 10)),(151,(b 14)),(152,h),(153,i),(155,(b 15)),(154,j),(156,k),(157,k),(158,l),(159,n),(160,o),(161,p),(163,q),(164,r),(165,s),(166,t),(162,u),(167,v),(168,w),(169,x),(170,x),(171,y),(172,z),(173,aa),(174,ab),(176,ac),(177,ad),(178,ae),(179,af),(180,ag),(181,ah),(182,ai),(175,aj),(183,ak),(184,al),(185,al),(186,am),(187,an),(188,ao),(189,ap),(191,aq),(190,ar),(192,au),(193,av),(194,aw),(195,aw),(196,ax),(197,ay),(199,az),(200,ba),(201,bb),(202,bc),(203,bd),(204,be),(205,bf),(206,bg),(207,bh),(208,bi),(209,bj),(198,bk),(210,bl),(211,bm),(212,bm),(213,bn),(214,bo),(216,bp),(217,bq),(215,br),(218,bs),(219,bt),(220,bu),(221,bu),(222,bv),(224,bw),(225,bx),(226,bz),(227,ca),(223,cb),(228,cc),(229,cd)]) ce
def qgvZ (a:Value)(b:Env)(c:Heap)(d:Value)(e:Post)(m:List Nat)(f g h i j l:Value):Prop:=ov (binV BinOp.neq 1 false a (b 15)) fun n=>gv (isB n false) (fun k=>k (b 10)) fun o=>gv (isB n false) (fun k=>k (b 14)) fun p=>gv (isB n false) (ov (iaV (some (none,1)) o p)) fun q=>gv (isB n false) (ov (ldV (some none) q c)) fun r=>gv (isB n false) (fun k=>k (b 11)) fun s=>gv (isB n false) (fun k=>k (b 14)) fun t=>gv (isB n false) (ov (iaV (some (none,1)) s t)) fun u=>gv (isB n false) (ov (ldV (some none) u c)) fun v=>gM (isB n false) (fun w=>callM P qeJZ #[r] c fun x y=>w x y) c fun z aa=>((isB n false)=true→ldV (some none) u aa=some v)∧gM (isB n false) (fun ab=>callM P qdRZ #[v] aa fun ac ad=>ab ac ad) aa fun ae af=>gv (isB n false) (ov (binV BinOp.neq 2 false z ae)) fun ag=>ov (pkV n (Value.bool true) ag) fun ah=>gv (isB ah false) (fun k=>k (b 10)) fun ai=>gv (isB ah false) (fun k=>k (b 14)) fun aj=>gv (isB ah false) (ov (iaV (some (none,1)) ai aj)) fun ak=>gv (isB ah false) (ov (ldV (some none) ak af)) fun al=>gv (isB ah false) (fun k=>k (b 11)) fun am=>gv (isB ah false) (fun k=>k (b 14)) fun an=>gv (isB ah false) (ov (iaV (some (none,1)) am an)) fun ao=>gv (isB ah false) (ov (ldV (some none) ao af)) fun ap=>gv (isB ah false) (ov (ncV ap)) fun aq=>gv (isB ah false) (ov (faV (some 3) aq)) fun ar=>gv (isB ah false) (ov (ldV (some none) ar af)) fun au=>gM (isB ah false) (fun av=>callM P qefZ #[al] af fun aw ax=>av aw ax) af fun ay az=>((isB ah false)=true→ldV (some none) ao az=some ap)∧((isB ah false)=true→ldV (some none) ar az=some au)∧gv (isB ah false) (ov (binV BinOp.neq 2 false ay au)) fun ba=>ov (pkV ah (Value.bool true) ba) fun bb=>gv (isB bb false) (fun k=>k (b 10)) fun bc=>gv (isB bb false) (fun k=>k (b 14)) fun bd=>gv (isB bb false) (ov (iaV (some (none,1)) bc bd)) fun be=>gv (isB bb false) (ov (ldV (some none) be az)) fun bf=>gv (isB bb false) (ov (ldV (some (some 4)) (b 16) az)) fun bg=>gM (isB bb false) (fun bh=>callM P qiyZ #[bf] az fun bi bj=>bh bi bj) az fun bk bl=>((isB bb false)=true→ldV (some (some 4)) (b 16) bl=some bg)∧gM (isB bb false) (fun bm=>callM P qhyZ #[bk,bg] bl fun bn bo=>bm bn bo) bl fun bp bq=>gv (isB bb false) (ov (unV UnOp.not bp)) fun br=>ov (pkV bb (Value.bool true) br) fun bs=>gv (isB bs false) (fun k=>k (b 7)) fun bt=>gv (isB bs false) (fun k=>k d) fun bu=>gv (isB bs false) (fun k=>k (b 9)) fun bv=>gv (isB bs false) (ov (ncV bv)) fun bw=>gv (isB bs false) (ov (faV (some 10) bw)) fun bx=>gv (isB bs false) (ov (ldV (some none) bx bq)) fun bz=>gv (isB bs false) (fun k=>k d) fun ca=>gv (isB bs false) (ov (iaV (some (none,1)) bz ca)) fun cb=>gv (isB bs false) (ov (ldV (some none) cb bq)) fun cc=>gv (isB bs false) (ov (ncV cc)) fun cd=>gv (isB bs false) (ov (faV (some 0) cd)) fun ce=>gv (isB bs false) (ov (ldV (some none) ce bq)) fun cf=>gv (isB bs false) (ov (binV BinOp.lss 2 true cf (Value.int IntKind.i64 0))) fun cg=>gM (isB bs false) (fun ch=>callM P qfDZ #[bt,bu] bq fun ci cj=>ch ci cj) bq fun ck cl=>((isB bs false)=true→ldV (some none) bx cl=some bz)∧((isB bs false)=true→ldV (some none) cb cl=some cc)∧((isB bs false)=true→ldV (some none) ce cl=some cf)∧gv (isB bs false) (ov (binV BinOp.neq 1 false ck cg)) fun cm=>ov (pkV bs (Value.bool true) cm) fun cn=>gv (isB cn false) (fun k=>k (b 7)) fun co=>gv (isB cn false) (fun k=>k d) fun cp=>gv (isB cn false) (fun k=>k (b 9)) fun cq=>gv (isB cn false) (fun k=>k d) fun cr=>gM (isB cn false) (fun cs=>callM P qjkZ #[co,cp] cl fun ct cu=>cs ct cu) cl fun cv cw=>gM (isB cn false) (fun cx=>callM P qdQZ #[cq,cr] cw fun cy cz=>cx cy cz) cw fun da db=>gv (isB cn false) (ov (binV BinOp.neq 1 false cv da)) fun dc=>ov (pkV cn (Value.bool true) dc) fun dd=>gv (isB dd false) (fun k=>k (b 7)) fun de=>gv (isB dd false) (fun k=>k (b 9)) fun df=>gv (isB dd false) (ov (ncV df)) fun dg=>gv (isB dd false) (ov (faV (some 7) dg)) fun dh=>gv (isB dd false) (ov (ldV (some (some 3)) dh db)) fun di=>gM (isB dd false) (fun dj=>callM P qlHZ #[de] db fun dk dl=>dj dk dl) db fun dm dn=>((isB dd false)=true→ldV (some (some 3)) dh dn=some di)∧gv (isB dd false) (pvM P (do eqGuard BinOp.neq qzZ (Operand.tmp 223) (Operand.tmp 227) dm di; binOp BinOp.neq qzZ dm di)) fun dp=>ov (pkV dd (Value.bool true) dp) fun dq=>cdM dq (qpoZ e m b f g h i d j l a n o p q r s t u v z ae ag ah ai aj ak al am an ao ap aq ar au ay ba bb bc bd be bf bg bk bp br bs bt bu bv bw bx bz ca cb cc cd ce cf cg ck cm cn co cp cq cr cv da dc dd de df dg dh di dm dp dq dn) (qguZ e m b f g h i d j l a n o p q r s t u v z ae ag ah ai aj ak al am an ao ap aq ar au ay ba bb bc bd be bf bg bk bp br bs bt bu bv bw bx bz ca cb cc cd ce cf cg ck cm cn co cp cq cr cv da dc dd de df dg dh di dm dp dq dn)
def qcLZ (a:Env)(b:Heap)(c:Post)(m:List Nat):Prop:=ov (iaV (some (none,1)) (a 11) (a 14)) fun d=>ov (ldV (some none) d b) fun e=>ov (ncV e) fun f=>ov (faV (some 1) f) fun g=>ov (ldV (some none) g b) fun h=>ov (iaV (some (none,1)) (a 10) (a 14)) fun i=>ov (ldV (some none) i b) fun j=>callM P qaFZ #[j] b fun k l=>qgvZ k a l h c m d e f g i j
def qgwZ (a:Heap)(b:Value)(c:Env)(d:Value)(m:List Nat)(e f g h i j k l n o p q r s t u v w x y z:Value)(aa:Post):Prop:=ov (bdV (binf P qmZ) []) fun ab=>nwM (zc P qmZ) qmZ a fun ac ad=>stM (some 4) ac ab ad fun ae=>seqM (fun af=>qgtZ b c d ae ac af m e f g h i j k l n o p q r s t u v w x y z ab) (fun m ag ah=>qcLZ ag ah aa m) (blkM 3 aa)
def qgxZ (a:Env)(b:Value)(c:Heap)(m:List Nat)(d e f g h i j k l n o p q r s t u v w:Value)(x:Post):Prop:=ov (iaV (some (none,1)) (a 11) b) fun y=>ov (ldV (some none) y c) fun z=>callM P qeeZ #[z] c fun aa ab=>qgwZ ab aa a b m d e f g h i j k l n o p q r s t u v w y z x
def qgyZ (a:Env)(b:Value)(c:Heap)(m:List Nat)(d e f g h i j k l n o p q r s t:Value)(u:Post):Prop:=ov (iaV (some (none,1)) (a 11) b) fun v=>ov (ldV (some none) v c) fun w=>callM P qaxZ #[w,(a 9),(a 13)] c fun x y=>qgxZ a b y m d e f g h i j k l n o p q r s t v w x u
def qgzZ (a:Env)(b:Value)(c:Heap)(m:List Nat)(d e f g h i j k l n o p q:Value)(r:Post):Prop:=ov (iaV (some (none,1)) (a 10) b) fun s=>ov (ldV (some none) s c) fun t=>callM P qaEZ #[t,(a 7),(a 13)] c fun u v=>qgyZ a b v m d e f g h i j k l n o p q s t u r
def qgAZ (a:Value)(b:Heap)(c:Value)(d:Env)(e:Value)(f:Post)(m:List Nat)(g h i j k l n o p:Value):Prop:=ldV (some none) a b=some c∧callM P qaPZ #[c,(d 9)] b fun q r=>ov (binV BinOp.neq 1 false e q) fun s=>cdM s (qpnZ f m d g h i j k l n o p a c e q s r) (qgzZ d n r m g h i j k l o p a c e q s f)
def qgBZ (a:Env)(b:Heap)(c:Post)(m:List Nat)(d e:Value):Prop:=ov (iaV (some (none,1)) (a 2) (a 13)) fun f=>ov (ldV (some none) f b) fun g=>ov (cvV (some .i64) g) fun h=>ov (lnV 7 (a 1)) fun i=>ov (binV BinOp.rem 2 false h i) fun j=>ov (iaV (some (none,1)) (a 10) j) fun k=>ov (ldV (some none) k b) fun l=>ov (iaV (some (none,1)) (a 11) j) fun n=>ov (ldV (some none) n b) fun o=>callM P qdCZ #[l,(a 7)] b fun p q=>qgAZ n q o a p c m d e f g h i j k l
def qgCZ (a:Env)(b:Heap)(m:List Nat)(c d:Value)(e:Post):Prop:=seqM (fun f=>qgBZ a b f m c d) (fun m g h=>ov (binV BinOp.add 2 true (g 13) (Value.int IntKind.i64 1)) fun i=>e .normal m (puts g [(92,(g 13)),(93,i),(13,i)]) h) e
def qgDZ (a:Env)(b:Heap)(m:List Nat)(c:Post):Prop:=ov (lnV 7 (a 2)) fun d=>ov (binV BinOp.lss 2 false (a 13) d) fun e=>cdM e (qgCZ a b m d e c) (c (.exit 2) m (puts a [(88,(a 13)),(89,(a 2)),(90,d),(91,e)]) b)
def qgEZ (m:List Nat)(a:Env)(b:Heap)(c:Post):Prop:=loopM (fun m d e f=>qgDZ d e m f) m (puts a [(13,(Value.int IntKind.i64 0))]) b (blkM 2 c)
def qgFZ (a:Value)(b:Heap)(c d:Value)(e:Env)(K:KTy)(m:List Nat)(f:Value):Prop:=ldV (some none) a b=some c∧callM P qeuZ #[d,c] b fun g h=>gv (isB g true) (fun k=>k (e 7)) fun i=>gv (isB g true) (fun k=>k (e 9)) fun j=>gM (isB g true) (fun l=>callM P qeHZ #[i] h fun n o=>l n o) h fun p q=>gM (isB g true) (fun r=>callM P qcZZ #[j] q fun s t=>r s t) q fun u v=>gv (isB g true) (ov (binV BinOp.eql 2 false p u)) fun w=>ov (pkV g w (Value.bool false)) fun x=>(retM P [.tmp 6] K) .ret m (puts e [(230,(e 7)),(232,(e 9)),(233,f),(234,a),(235,c),(231,d),(236,g),(237,g),(238,i),(240,j),(239,p),(241,u),(242,w),(243,x),(6,x)]) v
def qgGZ (a:Env)(b:Heap)(K:KTy)(m:List Nat):Prop:=ov (ncV (a 9)) fun c=>ov (faV (some 11) c) fun d=>ov (ldV (some none) d b) fun e=>callM P qkrZ #[(a 7)] b fun f g=>qgFZ d g e f a K m c
def qgHZ (m:List Nat)(a:Env)(b:Heap)(K:KTy):Prop:=seqM (fun c=>qgEZ m a b c) (fun m d e=>qgGZ d e K m) (retM P [.tmp 6] K)
def qhsZ (x0 x1 x2 a b c d e f g h i j k l n o p q r s t u v w x y z aa ab ac ad:Value)(ae:Heap)(K:KTy):Prop:=seqM (fun af=>qhrZ x0 x1 x2 a b c d e f g h i j k l n o p q r s t u v w x y z aa ab ac ad ae af) (fun m ag ah=>qgHZ m ag ah K) (retM P [.tmp 6] K)
def qhtZ (a:Value)(b:Heap)(x0 x1 x2 c d e f g h i j k l m n o p q r s t u v w x y z aa ab:Value)(K:KTy):Prop:=ov (ldV (some (some 7)) a b) fun ac=>callM P qiwZ #[ac] b fun ad ae=>qhsZ x0 x1 x2 a c d e f g h i j k l m n o p q r s t u v w x y z aa ab ac ad ae K
def qhuZ (a:Value)(b:Heap)(K:KTy)(c x0 x1 x2 d e f g h i j k l m n o p q r s t u v:Value):Prop:=ov (exV a 0) fun w=>ov (exV a 1) fun x=>ov (binV BinOp.neq 2 true x (Value.int IntKind.i64 0)) fun y=>gM (isB y false) (fun z=>z w b) b fun aa ab=>gM (isB y false) (fun ac=>ov (binV BinOp.eql 4 true aa (Value.pointer none)) fun ad=>ac ad ab) ab fun ae af=>ov (pkV y (Value.bool true) ae) fun ag=>cdM ag (K (Value.bool false) af) (qhtZ c af x0 x1 x2 d e f g h i j k l m n o p q r s t u v a w x y aa ae ag K)
def qhvZ (a:Value)(b:Heap)(K:KTy)(x0 x1 x2 c d e f g h i j k l m n o p q r s t:Value):Prop:=ov (ldV (some (some 7)) a b) fun u=>callM P qppZ #[u] b fun v w=>qhuZ v w K a x0 x1 x2 c d e f g h i j k l m n o p q r s t u
def qhwZ (a x1:Value)(b:Heap)(x2 c:Value)(K:KTy)(x0:Value):Prop:=ov (unV UnOp.not a) fun d=>gM (isB d false) (fun e=>e x1 b) b fun f g=>gM (isB d false) (fun h=>ov (lnV 7 f) fun i=>h i g) g fun j k=>gM (isB d false) (fun l=>ov (binV BinOp.eql 2 true j (Value.int IntKind.i64 0)) fun m=>l m k) k fun n o=>ov (pkV d (Value.bool true) n) fun p=>gM (isB p false) (fun q=>q x1 o) o fun r s=>gM (isB p false) (fun t=>ov (lnV 7 r) fun u=>t u s) s fun v w=>gM (isB p false) (fun x=>ov (binV BinOp.gtr 2 true v (Value.int IntKind.i64 8)) fun y=>x y w) w fun z aa=>ov (pkV p (Value.bool true) z) fun ab=>gM (isB ab false) (fun ac=>ac x2 aa) aa fun ad ae=>gM (isB ab false) (fun af=>ov (lnV 7 ad) fun ag=>af ag ae) ae fun ah ai=>gM (isB ab false) (fun aj=>ov (binV BinOp.gtr 2 true ah (Value.int IntKind.i64 300)) fun ak=>aj ak ai) ai fun al am=>ov (pkV ab (Value.bool true) al) fun an=>gM (isB an false) (fun ao=>ov (ldV (some (some 7)) c am) fun ap=>ao ap am) am fun aq ar=>gM (isB an false) (fun au=>callM P qfGZ #[aq] ar fun av aw=>au av aw) ar fun ax ay=>gM (isB an false) (fun az=>ov (unV UnOp.not ax) fun ba=>az ba ay) ay fun bb bc=>ov (pkV an (Value.bool true) bb) fun bd=>cdM bd (callM P qbyZ #[] bc fun be bf=>K be bf) (qhvZ c bc K x0 x1 x2 a d f j n p r v z ab ad ah al an aq ax bb bd)
def qesZ (x0 x1 x2:Value)(h:Heap)(K:KTy):Prop:=nwM (some x0.cells) qaoZ h fun a b=>callM P qbyZ #[] b fun c d=>qhwZ c x1 d x2 a K x0
variable {K:KTy}
theorem qqkZ {x0 x1 x2:Value}{h:Heap}(hd:qesZ x0 x1 x2 h K):callM P qdPZ #[x0,x1,x2] h K :=
 call_of good mixed (fn:=Tryz.f7) (args:=[x0,x1,x2]) Tryz.func7 rfl (by kernel_rfl) (of_decide_eq_true rfl) (B:=qesZ x0 x1 x2 h K) (by kernel_rfl) hd
end Go.Proofs.YtmbningljbcpkaaGreat
namespace Go.Proofs.YtmbningljbcpkaaGreat
open Go Go.Den Go.MapKept
set_option linter.unusedSimpArgs false
set_option linter.unusedVariables false
set_option maxRecDepth 20000
theorem Gd.n0:¬ Gd []:=by rintro⟨k,r,h⟩; cases h
theorem gd_pre {g t:Tag}(x:Gd g)(h:pre g t):Gd t:=by obtain⟨k,r,rfl⟩:=x; obtain⟨s,rfl⟩:=h; exact⟨k,r++s,rfl⟩
theorem gdUW {t:Tag}(h:UW t):Gd t:=h.elim (gd_pre ⟨0,[],rfl⟩) (gd_pre ⟨1,[],rfl⟩)
theorem gdUR {t:Tag}(h:UR t):Gd t:=h.elim (gd_pre ⟨2,[],rfl⟩) (gd_pre ⟨3,[],rfl⟩)
theorem gd6 {t:Tag}(h:t=[6]):Gd t:=⟨5,[],h⟩
theorem gd7 {t:Tag}(h:t=[7]):Gd t:=⟨6,[],h⟩
theorem prow {T:Tags}{h:Heap}{g:Tag}{e:TypeId}{v:Value}{L:Nat}{A:Nat→Nat}(r:Rw T h g 1 e v L (seqF L fun i=>[ptr (A i)])){i:Nat}(hi:i<L){k:IntKind}:∃ b,iaV (some (none,1)) v (.int k i)=some (.pointer (some ⟨b,i,none⟩))∧cel h b i=some (ptr (A i)):=by
 obtain⟨b,h1,h2⟩:=r.1.ia (k:=k) hi
 rw[Nat.mul_one] at h2
 refine⟨b,h2,?_⟩
 have:=r.1.cels h1 (o:=i*1) (m:=1) (by omega)
 rw[Nat.mul_one] at this
 have e:=seqF_at (F:=fun i=>[ptr (A i)]) (sz:=1) (fun i _=>rfl) hi
 rw[Nat.mul_one] at e
 rw[e] at this
 simpa using (cels_get this).2 0 (by simp)
theorem prow_at {T:Tags}{h:Heap}{g:Tag}{e:TypeId}{v:Value}{L:Nat}{A:Nat→Nat}(r:Rw T h g 1 e v L (seqF L fun i=>[ptr (A i)])){i b:Nat}(hi:i<L){k:IntKind}(ia:iaV (some (none,1)) v (.int k i)=some (.pointer (some ⟨b,i,none⟩))):cel h b i=some (ptr (A i)):=by
 obtain⟨b',h1,h2⟩:=prow r hi (k:=k)
 rw[ia] at h1
 simp at h1
 subst h1; exact h2
theorem bsPw:bsI P qaRZ=some (qfEZ,1,#[.pointer none]):=by kernel_rfl
theorem unPw:P.underlying qaRZ=some (.slice qfEZ):=by kernel_rfl
theorem apPw:apC P qfEZ=some (1,8,1):=by kernel_rfl
theorem bsRw:bsI P qIZ=some (qbPZ,1,#[.pointer none]):=by kernel_rfl
theorem unRw:P.underlying qIZ=some (.slice qbPZ):=by kernel_rfl
theorem apRw:apC P qbPZ=some (1,8,1):=by kernel_rfl
theorem seqF_set {A:Nat→Nat}{i q:Nat}:seqF (i+1) (fun j=>[ptr (bset A i q j)])=(seqF i fun j=>[ptr (A j)])++[ptr q]:=by
 rw[seqF_succ,bset_same]
 congr 1
 exact seqF_congr fun j hj=>by rw[bset_ne (by omega)]
structure WpW (T0:Tags)(h0:Heap)(hp hq m N L:Nat)(c:Cfg)(A B:Nat→Nat)(av bv:Value)(W:Wd)(T':Tags)(h':Heap):Prop where
 o:Only Gd T0 h0 T' h'
 a:WdM T' h' hp A W
 b:RdM RoW T' h' hq B W
 k:HS m W.H
 n:W.H.n=N
 c:W.H.c=c
 g:WgA W
 e:∀ i,i<L→∃ q,W.ps i=some (.w q)
 f:∀ i,L≤i→W.ps i=none
 ra:Rw T' h' [6] 1 qfEZ av L (seqF L fun i=>[ptr (A i)])
 rb:Rw T' h' [7] 1 qbPZ bv L (seqF L fun i=>[ptr (B i)])
theorem offUW6:¬ UW [6]:=by rintro (h | h)<;>simp[pre] at h
theorem offUW7:¬ UW [7]:=by rintro (h | h)<;>simp[pre] at h
theorem offUR6:¬ UR [6]:=by rintro (h | h)<;>simp[pre] at h
theorem offUR7:¬ UR [7]:=by rintro (h | h)<;>simp[pre] at h
theorem urw {t:Tag}(h:UR t):¬ UW t:=by
 rintro (h' | h')<;>rcases h with h | h<;>obtain⟨r,rfl⟩:=h<;>simp[pre] at h'
theorem uwr {t:Tag}(h:UW t):¬ UR t:=fun h'=>urw h' h
section
variable {T0:Tags}{h0:Heap}{hp hq m N L:Nat}{c:Cfg}{A B:Nat→Nat}{av bv:Value}{W:Wd}{T':Tags}{h':Heap}
theorem WpW.ext {h'':Heap}(x:WpW T0 h0 hp hq m N L c A B av bv W T' h')(e:Ext h' h''):WpW T0 h0 hp hq m N L c A B av bv W T' h'' :=
 have o:=Only.of_ext (U:=non) x.o.wf e
 ⟨x.o.up o non_up,x.a.ext x.o.wf e,x.b.ext roW.toRKeeps x.o.wf e,x.k,x.n,x.c,x.g,x.e,x.f,x.ra.kp o.k (not_non _),x.rb.kp o.k (not_non _)⟩
variable {K:KTy}
theorem WpW.step {i:Nat}{p:WP}(x:WpW T0 h0 hp hq m N L c A B av bv W T' h')(hm:m<90000)(hp':W.ps i=some (.w p))(n:Int)
  (hM:∀ T1 h1,Only UW T' h' T1 h1→(∀ {K':KTy},(∀ T2 h2,WpW T0 h0 hp hq (m+1) N L c A B av bv (W.step i n) T2 h2→K' (.tuple #[]) h2)→callM P qaxZ #[ptr (B i),ptr hq,.int .i64 n] h1 K')→K (.tuple #[]) h1):callM P qaEZ #[ptr (A i),ptr hp,.int .i64 n] h' K:=by
 have wg:=x.g i p hp'
 obtain⟨s1,s2,s3,s4,s5⟩:=wstepH x.k wg hp' n
 have hiL:i<L:=Nat.lt_of_not_le fun h=>by rw[x.f i h] at hp'; cases hp'
 refine pastep_w n x.o.wf x.a x.k hm wg hp' fun T1 h1 o1 a1=>?_
 have b1:=x.b.up roW.toRKeeps o1.k (fun t ht=>urw ht) UW.nil
 refine hM T1 h1 o1 fun {K'} hK=>?_
 refine rdstep_w roW n o1.wf b1 x.k hm wg hp' fun T2 h2 o2 b2=>?_
 refine hK T2 h2 ⟨(x.o.trans (o1.mono fun _=>gdUW)).trans (o2.mono fun _=>gdUR),a1.up o2 (fun t ht=>uwr ht) UR.nil,b2,s2,s3.trans x.n,s4.trans x.c,x.g.step x.k wg hp' n,fun j hj=>?_,fun j hj=>?_,(x.ra.kp o1.k offUW6).kp o2.k offUR6,(x.rb.kp o1.k offUW7).kp o2.k offUR7⟩
 ·rw[s5]
  by_cases hji:j=i
  ·subst hji; exact⟨_,bset_same _ _ _⟩
  ·rw[bset_ne hji]; exact x.e j hj
 ·rw[s5,bset_ne (by omega)]; exact x.f j hj
end
end Go.Proofs.YtmbningljbcpkaaGreat
namespace Go.Proofs.YtmbningljbcpkaaGreat
open Go Go.Den Go.MapKept
set_option linter.unusedSimpArgs false
set_option linter.unusedVariables false
set_option maxRecDepth 20000
def aw15:Nat→WP × Hall
 | 0=>(wp0 (hall0 small 3) 0 annW,hall0 small 3)
 | n+1=>(aw15 n).1.step (aw15 n).2 n
theorem aw15_done:∀ n,n≤7→((aw15 n).1.done=true↔n=7):=by decide +kernel
theorem aw15_end:(aw15 7).1.placed=2∧(aw15 7).2.stored=1:=by decide +kernel
def Aw15 (T0:Tags)(h0:Heap)(hp pp:Nat)(v:Value)(h':Heap):Prop :=
 ∃ (T':Tags) (k:Nat) (W:Wd) (M:Tbl),Only UW T0 h0 T' h'∧WdM T' h' hp (fun _=>pp) W∧WdK k W M∧W.H=(aw15 k).2∧W.ps 0=some (.w (aw15 k).1)∧v = .int .i64 k∧k≤7
variable {K:KTy}
set_option maxHeartbeats 2000000 in
theorem awake15_ok {h:Heap}(hk:∀ h',Ext h h'→K (.bool true) h'):callM P qbyZ #[] h K:=by
 apply qshZ
 unfold qhKZ
 refine small_ok fun h1 e1=>?_
 unfold qkSZ
 have w1:=wf_nil h1
 refine hallNew_ok small smallW w1 g1 (fun hr T2 h2 q o2 y2=>?_) (fun hr=>by simp[rightB,small] at hr)
 have hn3:small.stripes.toNat=3:=by decide
 rw[hn3] at y2
 unfold qkRZ
 have enil:binV .eql 4 true (ptr q) (.pointer none)=some (.bool false):=rfl
 simp -implicitDefEqProofs[enil]
 unfold qkQZ
 rw[bdOpAnnW]
 simp -implicitDefEqProofs only[ov_s]
 refine wdnew_w (i:=0) (A:=fun _=>0) (by omega) annW annWW (by simp[annW]) (.inl ⟨rfl,_,_,rfl⟩) o2.wf (wd0M y2 _) (wd0K smallW hr (by decide)) (fun q h=>by simp[wd0] at h) fun T3 h3 p o3 x3 k3=>?_
 have o0:Only UW (fun _=>[]) h1 T3 h3:=(o2.mono fun _=>.inl).up o3 non_up
 unfold qkPZ
 rw[seqM_eq]
 unfold qkNZ
 have hA:bset (fun _=>0) 0 p 0=p:=rfl
 refine loop_on [1,3] (fun s h'=>Aw15 T3 h3 q p (s 4) h') (fun s _=>(9-num (s 4)).toNat) ⟨T3,0,_,_,Only.refl o3.wf,⟨x3.hl,fun i r hr=>?_⟩,k3,rfl,rfl,rfl,by omega⟩ ?_
 ·by_cases hi:i=0
  ·subst hi; exact x3.ps 0 r hr
  ·have hr:bset (wd0 small 3).ps 0 (some (.w (wp0 (hall0 small 3) 0 annW))) i=some r:=hr
   rw[bset_ne hi] at hr; simp[wd0] at hr
 rintro s h4 hf ⟨T4,k,W,M,o4,x4,k4,hH,hP,s4,hk7⟩
 have s1:s 1=ptr q:=by simpa using hf 1 (by simp)
 have s3:s 3=ptr p:=by simpa using hf 3 (by simp)
 have hw:IntKind.i64.wrap ((k:Int)+1)=(k+1:Nat):=by rw[wrap64_id (by omega) (by omega)]; omega
 have hd:=aw15_done k hk7
 have hn9:(k:Int)<9:=by omega
 have xp:=x4.ps 0 _ hP
 unfold qkMZ
 simp -implicitDefEqProofs[s4,s3,hn9]
 refine wdone_ok xp fun h5 e5=>?_
 by_cases h7:k=7
 ·subst h7
  rw[hd.2 rfl]
  simp -implicitDefEqProofs[s3,s4]
  unfold qkOZ
  have o5:Only non T4 h4 T4 h5:=Only.of_ext o4.wf e5
  have x5:=x4.ext o4.wf e5
  have xp:=x5.ps 0 _ hP
  simp -implicitDefEqProofs[s3,s4]
  refine wplaced_ok xp ?_
  rw[aw15_end.1]
  simp -implicitDefEqProofs[s3]
  refine wdone_ok xp fun h6 e6=>?_
  rw[hd.2 rfl]
  simp -implicitDefEqProofs[s1]
  have x6:=x5.ext o5.wf e6
  refine hstored_ok (o5.wf.ext e6) x6.hl k4.hs (by omega) fun h7 e7=>?_
  rw[hH,aw15_end.2]
  simp -implicitDefEqProofs
  exact hk _ (e1.trans ((ext_of_only (o0.trans o4) UW.nil).trans (e5.trans (e6.trans e7))))
 ·have hdf:(aw15 k).1.done=false:=by
   cases hh:(aw15 k).1.done with
   | false=>rfl
   | true=>exact absurd (hd.1 hh) h7
  rw[hdf]
  simp -implicitDefEqProofs
  unfold qkLZ
  simp -implicitDefEqProofs only[s3,s1,s4]
  have x5:=x4.ext o4.wf e5
  refine wdstep_w (i:=0) (A:=fun _=>p) k (o4.wf.ext e5) x5 k4 (by omega) hP fun T6 h6 o6 x6=>?_
  unfold qkKZ
  simp -implicitDefEqProofs[s1,s3,s4,hw,-Int.natCast_add]
  have hst:W.step 0 k=⟨((aw15 k).1.step (aw15 k).2 k).2,bset W.ps 0 (some (.w ((aw15 k).1.step (aw15 k).2 k).1)),bset W.ms 0 (W.ms 0)⟩:=by
   simp -implicitDefEqProofs only[Wd.step,hP,PR.step,hH]
  refine⟨⟨T6,k+1,_,_,(o4.up (Only.of_ext (U:=non) o4.wf e5) non_up).trans o6,x6,k4.step (by omega) hP k,by rw[hst]; rfl,by rw[hst]; rfl,rfl,by omega⟩,by omega⟩
end Go.Proofs.YtmbningljbcpkaaGreat
namespace Go.Proofs.YtmbningljbcpkaaGreat
open Go Go.Den Go.MapKept
set_option linter.unusedSimpArgs false
set_option linter.unusedVariables false
set_option maxRecDepth 20000
theorem u8At {F:Heap}{v:Value}{bs:List Int}(x:Sl 1 (IntR .u8) F v bs){i:Nat}(hi:i<bs.length):∃ b p,iaV (some (none,1)) v (.int .i64 i)=some (.pointer (some ⟨b,p,none⟩))∧(∀ h',Ext F h'→cel h' b p=some (.int .u8 bs[i]))∧0≤bs[i]∧bs[i]≤255:=by
 obtain⟨b,o,c,i1,i2,i3,i4⟩:=x.at (k:=.i64) (i:=i) (by omega) (by omega)
 simp -implicitDefEqProofs only[Int.toNat_natCast] at i3 i4
 subst i3
 have hw:=wf_u8 i4
 refine⟨b,o,i1,fun h' e=>?_,hw.1,hw.2⟩
 have:=(cels_get (cels_ext e i2)).2 0 (by simp)
 simpa using this
end Go.Proofs.YtmbningljbcpkaaGreat
namespace Go.Proofs.YtmbningljbcpkaaGreat
open Go Go.Den Go.MapKept
set_option linter.unusedSimpArgs false
set_option linter.unusedVariables false
set_option maxRecDepth 20000
def WqC (T0:Tags)(h0:Heap)(hp hq N:Nat)(c:Cfg)(ws:List OpD)(av bv iv:Value)(h':Heap):Prop :=
 ∃ (T':Tags) (W:Wd) (A B:Nat→Nat) (i:Nat),WpW T0 h0 hp hq 0 N i c A B av bv W T' h'∧iv = .int .i64 i∧i≤ws.length
def WqL (T0:Tags)(h0:Heap)(hp hq N L X:Nat)(c:Cfg)(av bv nv:Value)(h':Heap):Prop :=
 ∃ (T':Tags) (W:Wd) (A B:Nat→Nat) (n:Nat),WpW T0 h0 hp hq n N L c A B av bv W T' h'∧nv = .int .i64 n∧n≤X
variable {K:KTy}
set_option maxHeartbeats 16000000 in
theorem writePlays_ok (c:Cfg)(cw:CfgW c)(ws:List OpD)(ts:List Int){h:Heap}{v tv:Value}(x:Sl 7 OpR h v ws)(xt:Sl 1 (IntR .u8) h tv ts)(hk:∀ h',Ext h h'→K (.bool true) h') :
  callM P qdPZ #[.agg (cfgC c).toArray,v,tv] h K:=by
 apply qqkZ
 unfold qesZ
 have wl:=x.len
 have tl:=xt.len
 refine nw_agg fun v1 h0 n0 e0 c0=>?_
 have cfg:∀ h',h' v1=some (.cells (cfgC c).toArray qaoZ (0,0))→ldV (some (some 7)) (ptr v1) h'=some (.agg (cfgC c).toArray):=fun h' e=>by simp[ld_at e,cfgC]
 refine awake15_ok fun h1 e1=>?_
 have e01:=e0.trans e1
 have c1:=e1 _ _ c0
 unfold qhwZ
 have stop:∀ {h1},Ext h h1→callM P qbyZ #[] h1 fun v40 h41=>K v40 h41:=fun {h1} e=>awake15_ok fun h2 e2=>hk _ (e.trans e2)
 by_cases hw0:ws.length=0
 ·have hn:ws=[]:=List.length_eq_zero_iff.1 hw0
  have h0':(ws.length:Int)=0:=by omega
  simp -implicitDefEqProofs[wl,h0',hn]
  exact stop e01
 have h0':¬ (ws.length:Int)=0:=by omega
 have hne:ws≠[]:=fun h=>hw0 (by simp[h])
 by_cases h8:ws.length≤8
 rotate_left
 ·have h8':(8:Int)<ws.length:=by omega
  simp -implicitDefEqProofs[wl,h0',hne,h8']
  exact stop e01
 have h8':¬ (8:Int)<ws.length:=by omega
 by_cases h3:ts.length≤300
 rotate_left
 ·have h3':(300:Int)<ts.length:=by omega
  simp -implicitDefEqProofs[wl,h0',hne,h8',tl,h3']
  exact stop e01
 have h3':¬ (300:Int)<ts.length:=by omega
 simp -implicitDefEqProofs[wl,h0',hne,h8',tl,h3',cfg _ c1]
 refine refRight_ok c fun h2 e2=>?_
 have e02:=e01.trans e2
 have c2:=e2 _ _ c1
 cases hr:rightB c with
 | false =>
  simp -implicitDefEqProofs
  exact stop e02
 | true =>
 simp -implicitDefEqProofs
 unfold qhvZ
 simp -implicitDefEqProofs only[cfg _ c2,ov_s]
 refine hallNew_ok c cw (wf_nil h2) g1 (fun _ T4 h4 hp o4 y4=>?_) (fun hr'=>by rw[hr] at hr'; cases hr')
 have b4:=o4.see ⟨c2,rfl⟩ g1.nil
 unfold qhuZ
 have enil:binV .eql 4 true (ptr hp) (.pointer none)=some (.bool false):=rfl
 simp -implicitDefEqProofs[enil]
 unfold qhtZ
 simp -implicitDefEqProofs only[cfg _ b4.1,ov_s]
 refine rz_new c hr o4.wf g3 fun T5 h5 hq o5 z5=>?_
 have y5:=y4.up o5 off31 g3.nil
 have b5:=o5.see b4 g3.nil
 have o25:Only Gd (fun _=>[]) h2 T5 h5:=(o4.mono fun _=>gd_pre g1).trans (o5.mono fun _=>gd_pre g3)
 have xF:Sl 7 OpR (fz T5 h5) v ws:=by
  have:Sl 7 OpR (fz (fun _=>[]) h2) v ws:=by rw[fz_nil]; exact x.ext (@OpR.ext) e02
  exact this.ext (@OpR.ext) (o25.ext Gd.n0)
 have tF:Sl 1 (IntR .u8) (fz T5 h5) tv ts:=by
  have:Sl 1 (IntR .u8) (fz (fun _=>[]) h2) tv ts:=by rw[fz_nil]; exact xt.ext (fun _ r=>r) e02
  exact this.ext (fun _ r=>r) (o25.ext Gd.n0)
 have kE:∀ {T' h'},Only Gd T5 h5 T' h'→∀ {h''},Ext h' h''→K (.bool true) h'':=fun {T' h'} o {h''} e=>hk _ (e02.trans ((ext_of_only (o25.trans o) Gd.n0).trans e))
 obtain⟨N,hN⟩:∃ N,c.stripes.toNat=N:=⟨_,rfl⟩
 rw[hN] at y5 z5
 have hcs:1≤c.stripes∧c.stripes≤8:=by simp[rightB] at hr; omega
 have hs0:HS 0 (hall0 c N):=HS.new cw hr (by omega)
 have x0:WpW T5 h5 hp hq 0 N 0 c (fun _=>0) (fun _=>0) (.slice none 0 0) (.slice none 0 0) (wd0 c N) T5 h5 :=
  ⟨Only.refl o5.wf,wd0M y5 _,⟨z5,fun i p h=>by simp[wd0] at h⟩,hs0,rfl,rfl,fun i p h=>by simp[wd0] at h,fun i h=>by omega,fun i h=>by simp[wd0],Rw.nil _ _ _ _ _,Rw.nil _ _ _ _ _⟩
 obtain⟨X,hX⟩:∃ X:Nat→OpD,∀ j (h:j<ws.length),X j=wrOp ws[j]:=⟨fun i=>if h:i<ws.length then wrOp ws[i] else ⟨0,⟨#[]⟩,0,0,0,0,[]⟩,fun i h=>by simp[h]⟩
 unfold qhsZ
 rw[seqM_eq]
 unfold qhrZ
 refine loop_on [1,2,7,9] (fun s h'=>WqC T5 h5 hp hq N c ws (s 10) (s 11) (s 12) h') (fun s _=>(ws.length-num (s 12)).toNat) ⟨T5,_,_,_,0,x0,rfl,by omega⟩ ?_
 rintro s h6 hf ⟨T6,W,A,B,i,y,s12,hi⟩
 have s1:s 1=v:=by simpa using hf 1 (by simp)
 have s2:s 2=tv:=by simpa using hf 2 (by simp)
 have s7:s 7=ptr hp:=by simpa using hf 7 (by simp)
 have s9:s 9=ptr hq:=by simpa using hf 9 (by simp)
 unfold qhqZ
 simp -implicitDefEqProofs[s1,wl,s12]
 refine⟨fun hc=>?_,fun hc=>?_⟩
 ·-- a process of each op
  have hlt:i<ws.length:=by omega
  have hw1:IntKind.i64.wrap ((i:Int)+1)=(i+1:Nat):=by rw[wrap64_id (by omega) (by omega)]; omega
  have eF:=(y.o.ext Gd.n0).trans (fz_ext _ _)
  obtain⟨b,p,u,i1,i2,i3,i4⟩:=opsAt xF hlt
  unfold qhpZ
  simp -implicitDefEqProofs[s1,s12,i1,i2 _ eF]
  refine short_ok ws[i] (i3.ext (@StrR.ext) eF) fun h7 e7=>?_
  unfold qhoZ
  cases hsx:shortB ws[i] with
  | false =>
   simp -implicitDefEqProofs
   unfold qgjZ
   simp -implicitDefEqProofs
   exact kE y.o e7
  | true =>
  have lx:ws[i].users.length≤20:=by simp[shortB] at hsx; exact hsx.2.1
  simp -implicitDefEqProofs
  unfold qgqZ
  simp -implicitDefEqProofs[s1,s12,i1,i2 _ (eF.trans e7)]
  refine writing15_ok _ i3.one fun h8 e8=>?_
  have y8:=y.ext (e7.trans e8)
  have hXi:=hX i hlt
  have Xw:OpW (X i):=by rw[hXi]; exact wrOp_w i4
  have Xu:(X i).users=ws[i].users:=by rw[hXi]; rfl
  have c8:1≤W.H.c.stripes∧W.H.c.stripes≤8:=by rw[y.c]; exact hcs
  unfold qgpZ
  rw[← hXi]
  simp -implicitDefEqProofs[s7,s12]
  refine panew_w (i:=i) (by omega) (X i) Xw (by rw[Xu]; omega) (by rw[Xu]; exact i3.ext (@StrR.ext) (y8.o.ext Gd.n0)) y8.o.wf y8.a c8 fun T9 h9 q o9 a9=>?_
  have b9:=y8.b.up roW.toRKeeps o9.k (fun _ _ h=>h) (not_non _)
  have ra9:=y8.ra.kp o9.k (not_non _)
  have rb9:=y8.rb.kp o9.k (not_non _)
  have o59:Only Gd T5 h5 T9 h9:=y8.o.up o9 non_up
  unfold qgoZ
  refine Rw.appk bsPw unPw apPw (by omega) rfl (by simp) o9.wf ra9 (by unfold maxLen; omega) (by omega) (by omega) (by simp) fun a' av' T10 h10 o10 ra10 _ _=>?_
  have n10:¬ (fun t:Tag=>t=[6]) []:=by simp
  have a10:=a9.up o10 (fun t ht (hh:t=[6])=>offUW6 (hh▸ht)) n10
  have b10:=b9.up roW.toRKeeps o10.k (fun t ht (hh:t=[6])=>offUR6 (hh▸ht)) n10
  have rb10:=rb9.kp o10.k (by simp)
  have o510:Only Gd T5 h5 T10 h10:=o59.trans (o10.mono fun _=>gd6)
  have eF10:=(o510.ext Gd.n0).trans (fz_ext _ _)
  unfold qgnZ
  simp -implicitDefEqProofs[s1,s12,i1,i2 _ eF10]
  refine writing15_ok _ i3.one fun h11 e11=>?_
  have o11:Only non T10 h10 T10 h11:=Only.of_ext o10.wf e11
  have a11:=a10.ext o10.wf e11
  have b11:=b10.ext roW.toRKeeps o10.wf e11
  have o511:=o510.up o11 non_up
  unfold qgmZ
  rw[← hXi]
  simp -implicitDefEqProofs[s9,s12]
  refine rdnew_w roW (i:=i) (X i) Xw (by rw[Xu]; omega) (by rw[Xu]; exact i3.ext (@StrR.ext) (o511.ext Gd.n0)) o11.wf b11 c8 fun T12 h12 q2 o12 b12=>?_
  have a12:=a11.up o12 (fun _ _ h=>h) (not_non _)
  have ra12:=(ra10.kp o11.k (not_non _)).kp o12.k (not_non _)
  have rb12:=(rb10.kp o11.k (not_non _)).kp o12.k (not_non _)
  have o512:=o511.up o12 non_up
  unfold qglZ
  refine Rw.appk bsRw unRw apRw (by omega) rfl (by simp) o12.wf rb12 (by unfold maxLen; omega) (by omega) (by omega) (by simp) fun b' bv' T13 h13 o13 rb13 _ _=>?_
  have n13:¬ (fun t:Tag=>t=[7]) []:=by simp
  have y13:WpW T5 h5 hp hq 0 N (i+1) c (bset A i q) (bset B i q2) av' bv' { W with ps:=bset W.ps i (some (.w (wp0 W.H i (X i)))) } T13 h13:=by
   refine⟨o512.trans (o13.mono fun _=>gd7),a12.up o13 (fun t ht (hh:t=[7])=>offUW7 (hh▸ht)) n13,b12.up roW.toRKeeps o13.k (fun t ht (hh:t=[7])=>offUR7 (hh▸ht)) n13,y.k,y.n,y.c,y.g.add y.k Xw (by omega),fun j hj=>?_,fun j hj=>?_,?_,?_⟩
   ·by_cases hji:j=i
    ·subst hji; exact⟨_,bset_same _ _ _⟩
    ·show ∃ q,bset W.ps i _ j=_
     rw[bset_ne hji]; exact y.e j (by omega)
   ·show bset W.ps i _ j=_
    rw[bset_ne (by omega)]; exact y.f j (by omega)
   ·rw[seqF_set]
    exact ra12.kp o13.k (by simp)
   ·rw[seqF_set]
    exact rb13
  unfold qgkZ
  simp -implicitDefEqProofs[s1,s2,s7,s9,s12,hw1,-Int.natCast_add]
  exact⟨⟨T13,_,_,_,i+1,y13,rfl,by omega⟩,by omega⟩
 ·have hie:i=ws.length:=by omega
  subst hie
  unfold qgHZ
  rw[seqM_eq]
  unfold qgEZ
  refine loop_on [1,2,7,9,10,11] (fun s' h'=>WqL T5 h5 hp hq N ws.length ts.length c (s 10) (s 11) (s' 13) h') (fun s' _=>(ts.length-num (s' 13)).toNat) ⟨T6,W,A,B,0,y,by simp,by omega⟩ ?_
  rintro s' h7 hf' ⟨T7,W7,A7,B7,n,y7,s13,hn⟩
  have t1:s' 1=v:=by simpa [s1] using hf' 1 (by simp)
  have t2:s' 2=tv:=by simpa [s2] using hf' 2 (by simp)
  have t7:s' 7=ptr hp:=by simpa [s7] using hf' 7 (by simp)
  have t9:s' 9=ptr hq:=by simpa [s9] using hf' 9 (by simp)
  have t10:s' 10=s 10:=by simpa using hf' 10 (by simp)
  have t11:s' 11=s 11:=by simpa using hf' 11 (by simp)
  unfold qgDZ
  simp -implicitDefEqProofs[t2,tl,s13]
  refine⟨fun hc2=>?_,fun hc2=>?_⟩
  ·have hlt:n<ts.length:=by omega
   have hw1:IntKind.i64.wrap ((n:Int)+1)=(n+1:Nat):=by rw[wrap64_id (by omega) (by omega)]; omega
   obtain⟨tb,tp,j1,j2,j3⟩:=u8At tF hlt
   have tc:=j2 h7 ((y7.o.ext Gd.n0).trans (fz_ext _ _))
   obtain⟨i,hi0⟩:∃ i:Nat,ts[n].tmod ws.length=i:=⟨(ts[n].tmod ws.length).toNat,by rw[tm8 j3.1]; have:=Int.emod_nonneg ts[n] (show (ws.length:Int)≠0 by omega); omega⟩
   have hil:i<ws.length:=by have h1:=Int.emod_lt_of_pos ts[n] (show (0:Int)<ws.length by omega); rw[tm8 j3.1] at hi0; omega
   obtain⟨p,hp7⟩:=y7.e i hil
   obtain⟨ab,ai,ac⟩:=prow y7.ra (k:=.i64) hil
   obtain⟨bb,bi,bc⟩:=prow y7.rb (k:=.i64) hil
   have wg:=y7.g i p hp7
   have st:=y7.k.st p.s wg.s
   unfold qgCZ
   rw[seqM_eq]
   unfold qgBZ
   simp -implicitDefEqProofs[t1,t2,t7,t10,t11,wl,s13,j1,tc,cv8 j3,hi0,h0',hne,ai,ac,bi,bc]
   refine wenabled_ok y7.o.wf (y7.a.ps i _ hp7) y7.a.hl wg.s fun h8 e8=>?_
   have y8:=y7.ext e8
   have bc8:=cel_ext e8 bc
   unfold qgAZ
   simp -implicitDefEqProofs[bc8,t9]
   refine rwenabled_ok (y8.b.ps i _ hp7) y8.b.z wg.s st.wh.1 fun h9 e9=>?_
   have y9:=y8.ext e9
   unfold qgzZ
   simp -implicitDefEqProofs[t7,t10,s13,ai,prow_at y9.ra hil ai]
   refine y9.step (i:=i) (by omega) hp7 n fun T10 h10 o10 hB=>?_
   have bc10:=prow_at (y9.rb.kp o10.k offUW7) hil bi
   unfold qgyZ
   simp -implicitDefEqProofs[t9,t11,s13,bi,bc10]
   refine hB fun T11 h11 y11=>?_
   obtain⟨S1,S2,S3,S4,S5⟩:=wstepH y9.k wg hp7 n
   have hp11:(W7.step i n).ps i=some (.w (p.step W7.H n).1):=by rw[S5]; exact bset_same _ _ _
   obtain⟨p',hp'⟩:∃ p',(p.step W7.H n).1=p':=⟨_,rfl⟩
   rw[hp'] at hp11
   unfold qgxZ
   simp -implicitDefEqProofs[t11,bi,prow_at y11.rb hil bi]
   refine rwdone_ok (y11.b.ps i _ hp11) ?_
   obtain⟨sw,o,uv,xb⟩:=(y11.b.ps i _ hp11:RWP _ _ _ _ _)
   have cb11:=xb.hp
   simp -implicitDefEqProofs only[rwC] at cb11
   have hs11:=y11.k
   have wg':=y11.g i p' hp11
   have ac11:=prow_at y11.ra hil ai
   have bc11:=prow_at y11.rb hil bi
   obtain⟨G,hG⟩:∃ G,(W7.step i n).H=G:=⟨_,rfl⟩
   rw[hG] at hs11 wg'
   obtain⟨zs,za,Y,zx⟩:=y11.b.z
   have cz11:=zx.hp
   rw[hG] at cz11 zx
   simp -implicitDefEqProofs only[rhC] at cz11
   obtain⟨rb,ria,rcb⟩:=zx.at_ (k:=.i64) wg'.s
   have crs:=(zx.sr p'.s wg'.s).hp
   simp -implicitDefEqProofs only[rstC] at crs
   have rd11:cel h11 hq 10=some zs:=by simp[cel_of cz11]
   have rs11:cel h11 (Y p'.s).bp 0=some (.int .i64 ((G.ss p'.s).who-1)):=by simp[cel_of crs]
   have ldT:∀ h',Ext h11 h'→ldV (some (some 3)) (.pointer (some ⟨hq,7,none⟩)) h'=some (.agg (tmC G.t).toArray):=fun h' e=>by rw[ld_at (e _ _ cz11)]; simp[tmC]
   have whg:=(hs11.st p'.s wg'.s).wh
   have hfree:decide ((G.ss p'.s).who-1<0)=decide ((G.ss p'.s).who=0):=decide_eq_decide.2 (by omega)
   have rest:∀ (h14:Heap) (ss:Env) (v147:Nat),Ext h11 h14→h14 v147=some (.cells (repC (if p'.done then p'.err else 0)).toArray qmZ (0,0))→ss 1=v→ss 2=tv→ss 7=ptr hp→ss 9=ptr hq→ss 10=s 10→ss 11=s 11→ss 13 = .int .i64 n→ss 14 = .int .i64 i→ss 15 = .bool p'.done→ss 16=ptr v147 →
     ∀ {Q:Post},(∀ ss' h',ss' 1=v→ss' 2=tv→ss' 7=ptr hp→ss' 9=ptr hq→ss' 10=s 10→ss' 11=s 11→ss' 13 = .int .i64 n→(∃ T' A' B' W',WpW T5 h5 hp hq (n+1) N ws.length c A' B' (s 10) (s 11) W' T' h')→Q .normal [] ss' h')→qcLZ ss h14 Q []:=by
    intro h14 ss v147 e14 cw14 u1 u2 u7 u9 u10 u11 u13 u14 u15 u16 Q hQ
    have y14:=y11.ext e14
    have cb14:=e14 _ _ cb11
    unfold qcLZ
    simp -implicitDefEqProofs[u10,u11,u14,ai,bi,cel_ext e14 ac11,cel_ext e14 bc11,ld_at cb14,cel_of cb14,stm_at cb14,stm_upd,ld_same,cel_same,over]
    refine wdone_ok (y14.a.ps i _ hp11) fun h15 e15=>?_
    have x15:=e15
    have e15:=e14.trans e15
    have y15:=y11.ext e15
    unfold qgvZ
    simp -implicitDefEqProofs[u10,u11,u14,u15,ai,bi,cel_ext e15 ac11,cel_ext e15 bc11]
    refine wwaits_ok (y15.a.ps i _ hp11) ?_
    simp -implicitDefEqProofs[u10,u11,u14,u15,ai,bi,cel_ext e15 ac11,cel_ext e15 bc11]
    refine rwwaits_ok (y15.b.ps i _ hp11) fun h16 e16=>?_
    have x16:=x15.trans e16
    have e16:=e15.trans e16
    have y16:=y11.ext e16
    have cb16:=e16 _ _ cb11
    simp -implicitDefEqProofs[u10,u11,u14,ai,bi,cel_ext e16 ac11,cel_ext e16 bc11,ld_at cb16,cel_of cb16,stm_at cb16,stm_upd,ld_same,cel_same,over]
    refine wplaced_ok (y16.a.ps i _ hp11) ?_
    simp -implicitDefEqProofs[u10,u11,u14,u16,ai,bi,cel_ext e16 ac11,cel_ext e16 bc11,ld_at cb16,cel_of cb16,stm_at cb16,stm_upd,ld_same,cel_same,over]
    have cw16:∀ {h''},Ext h14 h''→ldV (some (some 4)) (ptr v147) h''=some (.agg (repC (if p'.done then p'.err else 0)).toArray):=fun e=>by have:=e _ _ cw14; simp only[repC] at this; simp[ld_at this,repC]
    have w16:=cw16 x16
    simp -implicitDefEqProofs only[w16,ov_s]
    refine wreply_ok y16.o.wf (y16.a.ps i _ hp11) fun h17 e17=>?_
    have e17':=e16.trans e17
    have y17:=y11.ext e17'
    have w17:=cw16 (x16.trans e17)
    simp -implicitDefEqProofs only[w17,true_and]
    refine repSame_ok ⟨if p'.done then p'.err else 0,[],[],false⟩ ⟨if p'.done then p'.err else 0,[],[],false⟩ (RpX.no _ rfl rfl) (RpX.no _ rfl rfl) (by simp) (by simp) fun h18 e18=>?_
    have e18:=e17'.trans e18
    have y18:=y11.ext e18
    simp -implicitDefEqProofs[u7,u9,cel_ext e18 rd11,ria,cel_ext e18 rcb,cel_ext e18 rs11,hfree]
    refine free_ok y18.a.hl (by rw[hG]; exact wg'.s) fun h19 e19=>?_
    have e19:=e18.trans e19
    have y19:=y11.ext e19
    rw[hG]
    simp -implicitDefEqProofs[u7,u9,cel_ext e19 rd11,ria,cel_ext e19 rcb,cel_ext e19 rs11]
    refine hquiet_ok y19.o.wf y19.a.hl y19.k (by omega) (by rw[hG]; exact wg'.s) fun h20 e20=>?_
    have e20:=e19.trans e20
    have y20:=y11.ext e20
    try simp -implicitDefEqProofs[u7,u9]
    refine rz_quiet y20.o.wf y20.b.z (by rw[hG]; exact wg'.s) y20.k (by omega) ?_
    simp -implicitDefEqProofs[u7,u9,ldT _ e20]
    refine now_ok y20.a.hl fun h21 e21=>?_
    have e21:=e20.trans e21
    have y21:=y11.ext e21
    rw[hG]
    simp -implicitDefEqProofs[ldT _ e21]
    rw[tmNe]
    simp -implicitDefEqProofs
    unfold qguZ
    exact hQ _ _ (by simp[u1]) (by simp[u2]) (by simp[u7]) (by simp[u9]) (by simp[u10]) (by simp[u11]) (by simp[u13]) ⟨T11,A7,B7,_,y21⟩
   unfold qgwZ
   rw[bdReply0,zcReply]
   simp -implicitDefEqProofs only[ov_s]
   refine nw_intro fun v147 h12 n12 e12 c12=>?_
   rw[stm_at c12 (by simp) (by simp) (by simp)]
   have e13:Ext h11 (upd h12 v147 (.cells (over #[.int .i64 0,.slice none 0 0,.slice none 0 0,.bool false] 0 (Value.agg #[.int .i64 0,.slice none 0 0,.slice none 0 0,.bool false]).cells.toList) qmZ (0,0))):=ext_upd n12 e12
   have c13:(upd h12 v147 (.cells (over #[.int .i64 0,.slice none 0 0,.slice none 0 0,.bool false] 0 (Value.agg #[.int .i64 0,.slice none 0 0,.slice none 0 0,.bool false]).cells.toList) qmZ (0,0))) v147=some (.cells (repC 0).toArray qmZ (0,0)):=upd_same' _ _ _
   generalize upd h12 v147 _=h13 at e13 c13 ⊢
   have cb13:=e13 _ _ cb11
   simp -implicitDefEqProofs only[repC] at c13
   rw[seqM_eq]
   unfold qgtZ
   cases hd:p'.done with
   | true =>
    simp -implicitDefEqProofs
    unfold qgrZ
    have hag:ldV (some (some 4)) (.pointer (some ⟨B7 i,15,none⟩)) h13=some (.agg #[.int .i64 p'.err,.slice none 0 0,.slice none 0 0,.bool false]):=by simp[ld_at cb13]
    simp -implicitDefEqProofs[t11,bi,cel_ext e13 bc11,hag,ld_at c13,cel_of c13,stm_at c13,stm_upd,ld_same,cel_same,over]
    have e14:Ext h11 (upd h13 v147 (.cells (repC p'.err).toArray qmZ (0,0))):=ext_upd n12 e13
    refine rest _ _ v147 e14 (by rw[hd]; exact upd_same' _ _ _) (by simp[t1]) (by simp[t2]) (by simp[t7]) (by simp[t9]) (by simp[t10]) (by simp[t11]) (by simp[s13]) (by simp) (by simp[hd]) (by simp) fun ss' h' r1 r2 r7 r9 r10 r11 r13 ⟨T',A',B',W',yy⟩=>?_
    simp -implicitDefEqProofs[r1,r2,r7,r9,r10,r11,r13,s1,s2,s7,s9,s13,hw1,-Int.natCast_add]
    exact⟨⟨T',W',A',B',n+1,yy,rfl,by omega⟩,by omega⟩
   | false =>
    simp -implicitDefEqProofs
    unfold qgsZ
    refine rest _ _ v147 e13 (by rw[hd]; exact c13) (by simp[t1]) (by simp[t2]) (by simp[t7]) (by simp[t9]) (by simp[t10]) (by simp[t11]) (by simp[s13]) (by simp) (by simp[hd]) (by simp) fun ss' h' r1 r2 r7 r9 r10 r11 r13 ⟨T',A',B',W',yy⟩=>?_
    simp -implicitDefEqProofs[r1,r2,r7,r9,r10,r11,r13,s1,s2,s7,s9,s13,hw1,-Int.natCast_add]
    exact⟨⟨T',W',A',B',n+1,yy,rfl,by omega⟩,by omega⟩
  ·unfold qgGZ
   obtain⟨zs,za,Y,zx⟩:=y7.b.z
   have cz:=zx.hp
   simp -implicitDefEqProofs only[rhC] at cz
   simp -implicitDefEqProofs[t7,t9,ld_at cz,cel_of cz,stm_at cz,stm_upd,ld_same,cel_same,over]
   have hA:=y7.k.ac
   refine acts_ok y7.o.wf y7.a.hl (by omega) fun va h8 e8 xa=>?_
   have y8:=y7.ext e8
   have zacts:=zx.acts.ext (R:=ActR) (fun _ r=>r) e8
   have cz:=e8 _ _ cz
   unfold qgFZ
   simp -implicitDefEqProofs[ld_at cz,cel_of cz,stm_at cz,stm_upd,ld_same,cel_same,over]
   refine sameActs_ok _ _ (xa.ext (R:=ActR) (fun _ r=>r) (fz_ext T7 h8)) zacts (by omega) ?_
   simp -implicitDefEqProofs[t7,t9]
   refine hstored_ok y8.o.wf y8.a.hl y8.k (by omega) fun h9 e9=>?_
   have y9:=y8.ext e9
   try simp -implicitDefEqProofs[t7,t9]
   refine rz_stored y9.b.z y9.k (by omega) ?_
   simp -implicitDefEqProofs
   exact kE y7.o (e8.trans e9)
end Go.Proofs.YtmbningljbcpkaaGreat
namespace Go.Proofs.YtmbningljbcpkaaGreat
open Go Go.Den
variable {K:KTy}
theorem writePlays_row {c:Cfg}{ws:List OpD}{ts:List Int}{b0:Array Value}{v tv:Value}{h:Heap}(hc:CfgR h b0.toList c)(x:Sl 7 OpR h v ws)(xt:Sl 1 (IntR .u8) h tv ts)(hk:∀ h',Ext h h'→K (.bool true) h') :
  callM P qdPZ #[.agg b0,v,tv] h K:=by
 obtain⟨e0,cw⟩:=hc
 have h0:b0=(cfgC c).toArray:=by rw[← e0]
 rw[h0]
 exact writePlays_ok c cw ws ts x xt hk
end Go.Proofs.YtmbningljbcpkaaGreat
