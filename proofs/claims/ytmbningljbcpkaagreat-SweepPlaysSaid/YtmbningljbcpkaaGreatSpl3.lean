/- Words, plain data and contracts of the Go functions that this claim reaches. No condition beyond the hypotheses that each theorem states. -/
import Derived.Test.YtmbningljbcpkaaGreatSpl2
set_option linter.unusedSimpArgs false
set_option linter.unusedVariables false
namespace Go.Proofs.YtmbningljbcpkaaGreat
open Go Go.Den
set_option maxRecDepth 100000
set_option linter.unusedVariables false
def qiDZ (x0:Value)(h:Heap)(K:KTy):Prop:=nwM (some x0.cells) qmZ h fun a b=>ov (faV (some 0) a) fun c=>ov (ldV (some none) c b) fun d=>ov (binV BinOp.sub 2 true d (Value.int IntKind.i64 1)) fun e=>K e b
variable {K:KTy}
theorem qsAZ {x0:Value}{h:Heap}(hd:qiDZ x0 h K):callM P qhgZ #[x0] h K :=
 call_of good mixed (fn:=Tryz.f236) (args:=[x0]) Tryz.func236 rfl (by kernel_rfl) (of_decide_eq_true rfl) (B:=qiDZ x0 h K) (by kernel_rfl) hd
def qkqZ (x0:Value)(h:Heap)(K:KTy):Prop:=nwM (some x0.cells) qMZ h fun a b=>ov (faV (some 0) a) fun c=>ov (ldV (some none) c b) fun d=>ov (faV (some 1) a) fun e=>ov (ldV (some none) e b) fun f=>ov (binV BinOp.geq 2 false d f) fun g=>K g b
theorem qtGZ {x0:Value}{h:Heap}(hd:qkqZ x0 h K):callM P qiYZ #[x0] h K :=
 call_of good mixed (fn:=Tryz.f237) (args:=[x0]) Tryz.func237 rfl (by kernel_rfl) (of_decide_eq_true rfl) (B:=qkqZ x0 h K) (by kernel_rfl) hd
def qrwZ (a b:Value)(c:Heap)(K:KTy):Prop:=ov ((some (.func (Fn.func qaBZ) #[] #[a]):Option Value)) fun d=>callM P qOZ #[b,d] c fun e f=>K e f
def qqaZ (x0 x1:Value)(h:Heap)(K:KTy):Prop:=nwM (some x1.cells) qaoZ h fun a b=>callM P qsZ #[x0] b fun c d=>qrwZ a c d K
theorem quyZ {x0 x1:Value}{h:Heap}(hd:qqaZ x0 x1 h K):callM P qlrZ #[x0,x1] h K :=
 call_of good mixed (fn:=Tryz.f238) (args:=[x0,x1]) Tryz.func238 rfl (by kernel_rfl) (of_decide_eq_true rfl) (B:=qqaZ x0 x1 h K) (by kernel_rfl) hd
def qtgZ (a:Value)(b:Heap)(c d:Value)(e:Post)(x0 x1 x2 f g h i:Value):Prop:=ov (ldV (some (some 4)) a b) fun j=>ov (iaV (some (none,4)) c d) fun k=>stM (some 4) k j b fun l=>e .normal [] (puts (envOf [x0,x1,x2]) [(4,a),(6,(Value.slice none 0 0)),(7,(Value.int IntKind.i64 0)),(11,x0),(12,c),(8,c),(14,c),(15,f),(16,g),(17,h),(13,h),(18,d),(19,i),(9,d),(10,i),(26,i),(25,i),(27,c),(28,d),(29,j),(30,k)]) l
def qthZ (a:Post)(x0 x1 x2 b c d e f g h i j:Value)(k:Heap):Prop:=a .ret [] (puts (envOf [x0,x1,x2]) [(4,b),(6,(Value.slice none 0 0)),(7,(Value.int IntKind.i64 0)),(11,x0),(12,c),(8,c),(14,c),(15,d),(16,e),(17,f),(13,f),(18,g),(19,h),(9,g),(10,h),(26,h),(25,h),(32,c),(33,i),(34,x2),(35,j),(31,j),(36,c),(6,c),(7,(Value.int IntKind.i64 2))]) k
def qtiZ (a:Post)(x0 x1 x2 b c d e f g h i j k l m:Value)(n:Heap):Prop:=a .normal [] (puts (envOf [x0,x1,x2]) [(4,b),(6,(Value.slice none 0 0)),(7,(Value.int IntKind.i64 0)),(11,x0),(12,c),(8,c),(14,c),(15,d),(16,e),(17,f),(13,f),(18,g),(19,h),(9,g),(10,h),(26,h),(25,h),(32,c),(33,i),(34,x2),(35,j),(31,j),(20,c),(21,g),(22,k),(23,l),(24,m),(8,m)]) n
def qtjZ (a:Value)(b:Heap)(c d:Value)(e:Post)(x0 x1 x2 f g h i j k:Value):Prop:=ov (ldV (some (some 4)) a b) fun l=>bsM (bsI P qbZ) 1 [(0,l)] b fun m n=>callM P qajZ #[c,d,m] n fun o p=>qtiZ e x0 x1 x2 a c f g h d i j k l m o p
def qtkZ (a x2:Value)(b:Post)(x0 x1 c d e f g h:Value)(i:Heap):Prop:=ov (lnV 7 a) fun j=>ov (binV BinOp.geq 2 false j x2) fun k=>cdM k (qthZ b x0 x1 x2 c a d e f g h j k i) (qtjZ c i a g b x0 x1 x2 d e f h j k)
def qtlZ (a b:Value)(c:Heap)(d e:Value)(f:Post)(x0 x1 x2 g h i:Value):Prop:=cdM a (qtgZ b c d e f x0 x1 x2 g h i a) (qtkZ d x2 f x0 x1 b g h i e a c)
def qtmZ (a b:Value)(c:Heap)(d x0 x1 x2 e f:Value)(K:KTy):Prop:=ov (exV a 0) fun g=>ov (exV a 1) fun h=>seqM (fun i=>qtlZ h b c d g i x0 x1 x2 e f a) (fun m j k=>(retM P [.tmp 6,.tmp 7] K) .ret m (puts j [(37,(j 8)),(6,(j 8)),(7,(Value.int IntKind.i64 0))]) k) (retM P [.tmp 6,.tmp 7] K)
def qtnZ (a:Value)(b:Heap)(c x0 x1 x2:Value)(K:KTy):Prop:=ov (faV (some 0) a) fun d=>ov (ldV (some none) d b) fun e=>callM P qjaZ #[c,e] b fun f g=>qtmZ f a g c x0 x1 x2 d e K
def qrTZ (x0 x1 x2:Value)(h:Heap)(K:KTy):Prop:=nwM (some x1.cells) qcZ h fun a b=>callM P qsZ #[x0] b fun c d=>qtnZ a d c x0 x1 x2 K
theorem quPZ {x0 x1 x2:Value}{h:Heap}(hd:qrTZ x0 x1 x2 h K):callM P qqGZ #[x0,x1,x2] h K :=
 call_of good mixed (fn:=Tryz.f239) (args:=[x0,x1,x2]) Tryz.func239 rfl (by kernel_rfl) (of_decide_eq_true rfl) (B:=qrTZ x0 x1 x2 h K) (by kernel_rfl) hd
def qsmZ (a b c:Value)(d:Heap)(K:KTy):Prop:=ov (iaV (some (none,4)) a b) fun e=>ov (faV (some 3) e) fun f=>stM (some 1) f c d fun g=>K (.tuple #[a,(Value.int IntKind.i64 0)]) g
def qsnZ (a b:Value)(c:Heap)(x2:Value)(K:KTy):Prop:=ov (iaV (some (none,4)) a b) fun d=>ov (faV (some 3) d) fun e=>ov (ldV (some none) e c) fun f=>vvM P (Builtin.max_ #[qaoZ,qaoZ] qaoZ #[f,x2]) c fun g h=>qsmZ a b g h K
def qsoZ (a:Value)(K:KTy)(b:Value)(c:Heap)(x2:Value):Prop:=ov (exV a 0) fun d=>ov (exV a 1) fun e=>ov (unV UnOp.not e) fun f=>cdM f (K (.tuple #[b,(Value.int IntKind.i64 3)]) c) (qsnZ b d c x2 K)
def qspZ (a x1:Value)(b:Heap)(K:KTy)(x2:Value):Prop:=callM P qjaZ #[a,x1] b fun c d=>qsoZ c K a d x2
def qqOZ (x0 x1 x2:Value)(h:Heap)(K:KTy):Prop:=callM P qsZ #[x0] h fun a b=>qspZ a x1 b K x2
theorem quHZ {x0 x1 x2:Value}{h:Heap}(hd:qqOZ x0 x1 x2 h K):callM P qpLZ #[x0,x1,x2] h K :=
 call_of good mixed (fn:=Tryz.f240) (args:=[x0,x1,x2]) Tryz.func240 rfl (by kernel_rfl) (of_decide_eq_true rfl) (B:=qqOZ x0 x1 x2 h K) (by kernel_rfl) hd
def qrxZ (a b:Value)(c:Heap)(K:KTy):Prop:=ov (binV BinOp.add 2 true a (Value.int IntKind.i64 1)) fun d=>callM P qakZ #[b,a,d] c fun e f=>K (.tuple #[e,(Value.int IntKind.i64 0)]) f
def qryZ (a:Value)(K:KTy)(b:Value)(c:Heap):Prop:=ov (exV a 0) fun d=>ov (exV a 1) fun e=>ov (unV UnOp.not e) fun f=>cdM f (K (.tuple #[b,(Value.int IntKind.i64 3)]) c) (qrxZ d b c K)
def qrzZ (a x1:Value)(b:Heap)(K:KTy):Prop:=callM P qjaZ #[a,x1] b fun c d=>qryZ c K a d
def qqbZ (x0 x1:Value)(h:Heap)(K:KTy):Prop:=callM P qsZ #[x0] h fun a b=>qrzZ a x1 b K
theorem quzZ {x0 x1:Value}{h:Heap}(hd:qqbZ x0 x1 h K):callM P qpmZ #[x0,x1] h K :=
 call_of good mixed (fn:=Tryz.f241) (args:=[x0,x1]) Tryz.func241 rfl (by kernel_rfl) (of_decide_eq_true rfl) (B:=qqbZ x0 x1 h K) (by kernel_rfl) hd
def qqwZ (a:Value)(b:Heap)(c x1:Value)(d:Post)(x0 x2 x3 e f g h i j k l m n o:Value):Prop:=ov (faV (some 1) a) fun p=>ov (ldV (some (some 3)) p b) fun q=>ov (ldV (some (some 3)) c b) fun r=>ov (bdV (binf P qJZ) [(0,x1),(1,q),(2,r)]) fun s=>bsM (bsI P qtZ) 1 [(0,s)] b fun t u=>d .normal [] (puts (envOf [x0,x1,x2,x3]) [(4,e),(8,f),(9,(Value.slice none 0 0)),(15,g),(16,x1),(17,h),(14,h),(18,i),(19,j),(10,a),(11,j),(20,x2),(21,x3),(22,k),(12,c),(13,(Value.slice none 0 0)),(23,l),(24,m),(25,n),(26,o),(27,x1),(28,p),(29,q),(30,r),(31,s),(32,t),(13,t)]) u
def qqxZ (a:Post)(x0 x1 x2 x3 b c d e f g h i j k l m n:Value)(o:Heap):Prop:=a .normal [] (puts (envOf [x0,x1,x2,x3]) [(4,b),(8,c),(9,(Value.slice none 0 0)),(15,d),(16,x1),(17,e),(14,e),(18,f),(19,g),(10,h),(11,g),(20,x2),(21,x3),(22,i),(12,j),(13,(Value.slice none 0 0)),(23,k),(24,l),(25,m),(26,n)]) o
def qqyZ (a:Value)(b:Heap)(c x1:Value)(d:Post)(x0 x2 x3 e f g h i j k:Value):Prop:=ov (ldV (some (some 3)) a b) fun l=>ov (faV (some 1) c) fun m=>ov (ldV (some (some 3)) m b) fun n=>pvM P (do eqGuard BinOp.neq qiZ (Operand.tmp 23) (Operand.tmp 25) l n; binOp BinOp.neq qiZ l n) fun o=>cdM o (qqwZ c b a x1 d x0 x2 x3 e f g h i j k l m n o) (qqxZ d x0 x1 x2 x3 e f g h i j c k a l m n o b)
def qqzZ (a:Env)(b:Value)(c:Heap)(K:KTy)(m:List Nat)(d e f:Value):Prop:=stM (some 2) (a 8) b c fun g=>(retM P [.cell 8 49,.tmp 9] K) .ret m (puts a [(33,(a 2)),(34,d),(35,e),(36,f),(37,(a 1)),(38,b),(39,(a 13)),(9,(a 13))]) g
def qqAZ (a:Env)(b:Heap)(K:KTy)(m:List Nat)(c d:Value):Prop:=ov (ldV (some (some 2)) (a 4) b) fun e=>callM P qavZ #[e,(a 1)] b fun f g=>qqzZ a f g K m c d e
def qqcZ (a:Env)(b:Value)(c:Heap)(K:KTy)(m:List Nat)(d e f g h:Value):Prop:=stM (some 2) (a 8) b c fun i=>(retM P [.cell 8 49,.tmp 9] K) .ret m (puts a [(33,(a 2)),(34,d),(35,e),(40,f),(41,(a 1)),(42,(a 2)),(43,g),(44,h),(45,b),(46,(a 13)),(9,(a 13))]) i
def qqBZ (a:Env)(b:Heap)(K:KTy)(m:List Nat)(c d:Value):Prop:=ov (ldV (some (some 2)) (a 4) b) fun e=>ov (ldV (some (some 3)) (a 12) b) fun f=>ov (bdV (binf P qjZ) [(0,(a 2)),(1,f)]) fun g=>callM P qaRZ #[e,(a 1),g] b fun h i=>qqcZ a h i K m c d e f g
def qneZ (a:Env)(b:Heap)(K:KTy)(m:List Nat):Prop:=ov (lnV 7 (a 2)) fun c=>ov (binV BinOp.eql 2 true c (Value.int IntKind.i64 0)) fun d=>cdM d (qqAZ a b K m c d) (qqBZ a b K m c d)
def qqCZ (a:Heap)(b c x1 x0 x2 x3 d e f g h i:Value)(K:KTy):Prop:=nwM (zc P qiZ) qiZ a fun j k=>stM (some 3) j b k fun l=>seqM (fun n=>qqyZ j l c x1 n x0 x2 x3 d e f g h i b) (fun m o p=>qneZ o p K m) (retM P [.cell 8 49,.tmp 9] K)
def qqDZ (a:Value)(b:Heap)(x2 x3 x1 x0 c d e:Value)(K:KTy):Prop:=ov (exV a 0) fun f=>ov (exV a 1) fun g=>nwM (zc P qjZ) qjZ b fun h i=>stM (some 4) h f i fun j=>callM P qhiZ #[x2,x3] j fun k l=>qqCZ l k h x1 x0 x2 x3 c d e a f g K
def qpuZ (x0 x1 x2 x3:Value)(h:Heap)(K:KTy):Prop:=nwM (some x0.cells) qaZ h fun a b=>nwM (zc P qaZ) qaZ b fun c d=>ov (ldV (some (some 2)) a d) fun e=>callM P qYZ #[e,x1] d fun f g=>qqDZ f g x2 x3 x1 x0 a c e K
theorem qupZ {x0 x1 x2 x3:Value}{h:Heap}(hd:qpuZ x0 x1 x2 x3 h K):callM P qjFZ #[x0,x1,x2,x3] h K :=
 call_of good mixed (fn:=Tryz.f242) (args:=[x0,x1,x2,x3]) Tryz.func242 rfl (by kernel_rfl) (of_decide_eq_true rfl) (B:=qpuZ x0 x1 x2 x3 h K) (by kernel_rfl) hd
def qgQZ (x0:Value)(a:Heap)(b:Value)(K:KTy):Prop:=ov (ncV x0) fun c=>ov (faV (some 1) c) fun d=>ov (ldV (some none) d a) fun e=>ov (ldV (some (some 8)) b a) fun f=>bsM (bsI P qfZ) 1 [(0,f)] a fun g h=>ldV (some none) d h=some e∧vvM P (Builtin.append_ #[qfZ,qfZ] qfZ #[e,g]) h fun i j=>ov (ncV x0) fun k=>ov (faV (some 1) k) fun l=>stM (some 1) l i j fun m=>K (Value.bool true) m
def qecZ (x0 x1:Value)(h:Heap)(K:KTy):Prop:=nwM (some x1.cells) qyZ h fun a b=>ov (ncV x0) fun c=>ov (faV (some 1) c) fun d=>ov (ldV (some none) d b) fun e=>ov (lnV 7 e) fun f=>ov (ncV x0) fun g=>ov (faV (some 0) g) fun i=>ov (ldV (some none) i b) fun j=>ov (binV BinOp.geq 2 false f j) fun k=>cdM k (ov (ncV x0) fun l=>ov (faV (some 2) l) fun m=>stM (some 1) m (Value.bool true) b fun n=>K (Value.bool false) n) (qgQZ x0 b a K)
theorem qpGZ {x0 x1:Value}{h:Heap}(hd:qecZ x0 x1 h K):callM P qdHZ #[x0,x1] h K :=
 call_of good mixed (fn:=Tryz.f243) (args:=[x0,x1]) Tryz.func243 rfl (by kernel_rfl) (of_decide_eq_true rfl) (B:=qecZ x0 x1 h K) (by kernel_rfl) hd
def qlcZ (a:Post)(m:List Nat)(b:Env)(c d e f g h i j k l:Value)(n:Heap):Prop:=a .normal m (puts b [(7,(b 6)),(8,(b 0)),(9,c),(10,d),(13,(b 0)),(14,(b 6)),(15,e),(16,f),(17,g),(18,(b 1)),(19,h),(20,(b 5)),(21,(b 0)),(22,(b 6)),(23,i),(24,j),(25,k),(26,l),(5,l)]) n
def qldZ (a:Env)(b:Heap)(c:Post)(m:List Nat)(d e f g h i:Value):Prop:=ov (iaV (some (none,4)) (a 0) (a 6)) fun j=>ov (ldV (some (some 4)) j b) fun k=>bsM (bsI P qbZ) 1 [(0,k)] b fun l n=>vvM P (Builtin.append_ #[qbZ,qbZ] qbZ #[(a 5),l]) n fun o p=>qlcZ c m a d e f g h i j k l o p
def qleZ (a:Env)(b:Heap)(c:Post)(m:List Nat)(d e:Value):Prop:=ov (iaV (some (none,4)) (a 0) (a 6)) fun f=>ov (faV (some 3) f) fun g=>ov (ldV (some none) g b) fun h=>ov (binV BinOp.gtr 2 false h (a 1)) fun i=>cdM i (qldZ a b c m d e f g h i) (c .normal m (puts a [(7,(a 6)),(8,(a 0)),(9,d),(10,e),(13,(a 0)),(14,(a 6)),(15,f),(16,g),(17,h),(18,(a 1)),(19,i)]) b)
def qlfZ (a:Env)(b:Heap)(m:List Nat)(c d:Value)(e:Post):Prop:=seqM (fun f=>qleZ a b f m c d) (fun m g h=>ov (binV BinOp.add 2 true (g 6) (Value.int IntKind.i64 1)) fun i=>e .normal m (puts g [(11,(g 6)),(12,i),(6,i)]) h) e
def qlgZ (a:Env)(b:Heap)(m:List Nat)(c:Post):Prop:=ov (lnV 7 (a 0)) fun d=>ov (binV BinOp.lss 2 false (a 6) d) fun e=>cdM e (qlfZ a b m d e c) (c (.exit 0) m (puts a [(7,(a 6)),(8,(a 0)),(9,d),(10,e)]) b)
def qlhZ (x0 x1:Value)(h:Heap)(a:Post):Prop:=loopM (fun m b c d=>qlgZ b c m d) [] (puts (envOf [x0,x1]) [(4,(Value.slice none 0 0)),(5,(Value.slice none 0 0)),(6,(Value.int IntKind.i64 0))]) h (blkM 0 a)
def qhwZ (x0 x1:Value)(h:Heap)(K:KTy):Prop:=seqM (fun a=>qlhZ x0 x1 h a) (fun m b c=>(retM P [.tmp 4] K) .ret m (puts b [(27,(b 5)),(4,(b 5))]) c) (retM P [.tmp 4] K)
theorem qrUZ {x0 x1:Value}{h:Heap}(hd:qhwZ x0 x1 h K):callM P qbuZ #[x0,x1] h K :=
 call_of good mixed (fn:=Tryz.f244) (args:=[x0,x1]) Tryz.func244 rfl (by kernel_rfl) (of_decide_eq_true rfl) (B:=qhwZ x0 x1 h K) (by kernel_rfl) hd
def qlQZ (a:Env)(b:Heap)(c:Post)(m:List Nat)(d e f g h i:Value):Prop:=ov (iaV (some (none,5)) (a 0) (a 5)) fun j=>ov (ldV (some (some 5)) j b) fun k=>stM (some 5) (a 4) k b fun l=>c .ret m (puts a [(6,(a 5)),(7,(a 0)),(8,d),(9,e),(12,(a 0)),(13,(a 5)),(14,f),(15,g),(16,h),(17,(a 1)),(18,i),(19,(a 0)),(20,(a 5)),(21,j),(22,k)]) l
def qlRZ (a:Env)(b:Post)(m:List Nat)(c d e f g h:Value)(i:Heap):Prop:=ov (binV BinOp.add 2 true (a 5) (Value.int IntKind.i64 1)) fun j=>b .normal m (puts a [(6,(a 5)),(7,(a 0)),(8,c),(9,d),(12,(a 0)),(13,(a 5)),(14,e),(15,f),(16,g),(17,(a 1)),(18,h),(10,(a 5)),(11,j),(5,j)]) i
def qlSZ (a:Env)(b:Heap)(c:Post)(m:List Nat)(d e:Value):Prop:=ov (iaV (some (none,5)) (a 0) (a 5)) fun f=>ov (faV (some 0) f) fun g=>ov (ldV (some none) g b) fun h=>ov (binV BinOp.eql 3 false h (a 1)) fun i=>cdM i (qlQZ a b c m d e f g h i) (qlRZ a c m d e f g h i b)
def qlTZ (a:Env)(b:Heap)(c:Post)(m:List Nat):Prop:=ov (lnV 7 (a 0)) fun d=>ov (binV BinOp.lss 2 false (a 5) d) fun e=>cdM e (qlSZ a b c m d e) (c (.exit 0) m (puts a [(6,(a 5)),(7,(a 0)),(8,d),(9,e)]) b)
def qlUZ (x0 x1 a:Value)(b:Heap)(c:Post):Prop:=loopM (fun m d e f=>qlTZ d e f m) [] (puts (envOf [x0,x1]) [(4,a),(5,(Value.int IntKind.i64 0))]) b (blkM 0 c)
def qlVZ (a:Env)(b:Heap)(K:KTy)(m:List Nat):Prop:=ov (bdV (binf P qhZ) [(0,(a 1))]) fun c=>stM (some 5) (a 4) c b fun d=>(retM P [.cell 4 176] K) .ret m (puts a [(23,(a 1)),(24,c)]) d
def qiEZ (x0 x1:Value)(h:Heap)(K:KTy):Prop:=nwM (zc P qhZ) qhZ h fun a b=>seqM (fun c=>qlUZ x0 x1 a b c) (fun m d e=>qlVZ d e K m) (retM P [.cell 4 176] K)
theorem qsBZ {x0 x1:Value}{h:Heap}(hd:qiEZ x0 x1 h K):callM P qdXZ #[x0,x1] h K :=
 call_of good mixed (fn:=Tryz.f245) (args:=[x0,x1]) Tryz.func245 rfl (by kernel_rfl) (of_decide_eq_true rfl) (B:=qiEZ x0 x1 h K) (by kernel_rfl) hd
def qlWZ (a:Post)(m:List Nat)(b:Env)(c d e f g h i j k l n o p q r:Value)(s:Heap):Prop:=a .normal m (puts b [(28,(b 11)),(29,(b 10)),(30,c),(31,d),(34,(b 9)),(35,e),(36,e),(37,f),(38,g),(39,h),(40,i),(41,j),(42,k),(43,l),(44,n),(45,o),(46,(b 8)),(47,p),(48,q),(49,r),(8,r),(9,(Value.bool true))]) s
def qnfZ (a:Env)(b:Heap)(c:Post)(m:List Nat)(d e f g h i j k l n o p:Value):Prop:=ov (ldV (some (some 4)) (a 4) b) fun q=>bsM (bsI P qbZ) 1 [(0,q)] b fun r s=>vvM P (Builtin.append_ #[qbZ,qbZ] qbZ #[(a 8),r]) s fun t u=>qlWZ c m a d e f g h i j k l n o p q r t u
def qfFZ (a:Post)(m:List Nat)(b:Env)(c d e f g h i j k l n o:Value)(p:Heap):Prop:=a .normal m (puts b [(28,(b 11)),(29,(b 10)),(30,c),(31,d),(34,(b 9)),(35,e),(36,e),(37,f),(38,g),(39,h),(40,i),(41,j),(42,k),(43,l),(44,n),(45,o)]) p
def qngZ (a:Env)(b:Heap)(c:Post)(m:List Nat)(d e:Value):Prop:=ov (unV UnOp.not (a 9)) fun f=>gv (isB f true) (fun k=>k (a 10)) fun g=>gv (isB f true) (fun k=>k (a 11)) fun h=>gv (isB f true) (ov (iaV (some (none,4)) g h)) fun i=>gv (isB f true) (ov (faV (some 0) i)) fun j=>gv (isB f true) (ov (ldV (some none) j b)) fun l=>gv (isB f true) (ov (faV (some 0) (a 4))) fun n=>gv (isB f true) (ov (ldV (some none) n b)) fun o=>gv (isB f true) (ov (binV BinOp.gtr 2 false l o)) fun p=>ov (pkV f p (Value.bool false)) fun q=>cdM q (qnfZ a b c m d e f g h i j l n o p q) (qfFZ c m a d e f g h i j l n o p q b)
def qfGZ (a:Env)(b:Heap)(c:Post)(m:List Nat):Prop:=ov (iaV (some (none,4)) (a 10) (a 11)) fun d=>ov (ldV (some (some 4)) d b) fun e=>bsM (bsI P qbZ) 1 [(0,e)] b fun f g=>vvM P (Builtin.append_ #[qbZ,qbZ] qbZ #[(a 8),f]) g fun h i=>c .normal m (puts a [(50,(a 8)),(51,(a 10)),(52,(a 11)),(53,d),(54,e),(55,f),(56,h),(8,h)]) i
def qnhZ (a:Env)(b:Heap)(m:List Nat)(c d:Value)(e:Post):Prop:=seqM (fun f=>qngZ a b f m c d) (fun m g h=>qfGZ g h e m) (blkM 1 e)
def qniZ (a:Env)(b:Heap)(m:List Nat)(c d:Value)(e:Post):Prop:=seqM (fun f=>qnhZ a b m c d f) (fun m g h=>ov (binV BinOp.add 2 true (g 11) (Value.int IntKind.i64 1)) fun i=>e .normal m (puts g [(32,(g 11)),(33,i),(11,i)]) h) e
def qnjZ (a:Env)(b:Heap)(m:List Nat)(c:Post):Prop:=ov (lnV 7 (a 10)) fun d=>ov (binV BinOp.lss 2 false (a 11) d) fun e=>cdM e (qniZ a b m d e c) (c (.exit 0) m (puts a [(28,(a 11)),(29,(a 10)),(30,d),(31,e)]) b)
def qnkZ (x0 x1 x2 a b c d e f g h i j k l n:Value)(o:Heap)(p:Post):Prop:=loopM (fun m q r s=>qnjZ q r m s) [] (puts (envOf [x0,x1,x2]) [(4,a),(6,(Value.slice none 0 0)),(7,(Value.int IntKind.i64 0)),(12,x0),(13,b),(14,c),(15,d),(16,e),(17,e),(18,f),(19,g),(20,h),(21,i),(22,j),(8,(Value.slice none 0 0)),(9,(Value.bool false)),(24,x0),(25,k),(26,l),(27,n),(10,n),(11,(Value.int IntKind.i64 0))]) o (blkM 0 p)
def qlXZ (a:Env)(b:Heap)(c:Post)(m:List Nat)(d:Value):Prop:=ov (ldV (some (some 4)) (a 4) b) fun e=>bsM (bsI P qbZ) 1 [(0,e)] b fun f g=>vvM P (Builtin.append_ #[qbZ,qbZ] qbZ #[(a 8),f]) g fun h i=>c .normal m (puts a [(57,(a 9)),(58,d),(59,(a 8)),(60,e),(61,f),(62,h),(8,h)]) i
def qlYZ (a:Env)(b:Heap)(c:Post)(m:List Nat):Prop:=ov (unV UnOp.not (a 9)) fun d=>cdM d (qlXZ a b c m d) (c .normal m (puts a [(57,(a 9)),(58,d)]) b)
def qlZZ (a:Env)(b:Heap)(m:List Nat)(K:KTy):Prop:=seqM (fun c=>qlYZ a b c m) (fun m d e=>(retM P [.tmp 6,.tmp 7] K) .ret m (puts d [(63,(d 8)),(6,(d 8)),(7,(Value.int IntKind.i64 0))]) e) (retM P [.tmp 6,.tmp 7] K)
def qnlZ (x0 x1 x2 a b c d e f g h i j k l n:Value)(o:Heap)(K:KTy):Prop:=seqM (fun p=>qnkZ x0 x1 x2 a b c d e f g h i j k l n o p) (fun m q r=>qlZZ q r m K) (retM P [.tmp 6,.tmp 7] K)
def qhxZ (a:Value)(b:Heap)(x0 x1 x2 c d e f g h i j k:Value)(K:KTy):Prop:=ov (faV (some 0) a) fun l=>ov (ldV (some none) l b) fun m=>callM P qduZ #[x0,m] b fun n o=>qnlZ x0 x1 x2 a c d e f g h i j k l m n o K
def qnmZ (a x0:Value)(b:Heap)(x2:Value)(K:KTy)(c x1 d e:Value):Prop:=ov (unV UnOp.not a) fun f=>gM (isB f true) (fun g=>g x0 b) b fun h i=>gM (isB f true) (fun j=>ov (lnV 7 h) fun k=>j k i) i fun l m=>gM (isB f true) (fun n=>n x2 m) m fun o p=>gM (isB f true) (fun q=>ov (binV BinOp.geq 2 false l o) fun r=>q r p) p fun s t=>ov (pkV f s (Value.bool false)) fun u=>cdM u (K (.tuple #[x0,(Value.int IntKind.i64 2)]) t) (qhxZ c t x0 x1 x2 d e a f h l o s u K)
def qjuZ (x0 x1 x2:Value)(h:Heap)(K:KTy):Prop:=nwM (some x1.cells) qcZ h fun a b=>ov (faV (some 0) a) fun c=>ov (ldV (some none) c b) fun d=>callM P qcmZ #[x0,d] b fun e f=>qnmZ e x0 f x2 K a x1 c d
theorem qtoZ {x0 x1 x2:Value}{h:Heap}(hd:qjuZ x0 x1 x2 h K):callM P qipZ #[x0,x1,x2] h K :=
 call_of good mixed (fn:=Tryz.f246) (args:=[x0,x1,x2]) Tryz.func246 rfl (by kernel_rfl) (of_decide_eq_true rfl) (B:=qjuZ x0 x1 x2 h K) (by kernel_rfl) hd
def qmaZ (a:Value)(b:Env)(c:Heap)(d:Post)(m:List Nat)(e f g h i j k l n o p q:Value):Prop:=ov (faV (some 3) a) fun r=>stM (some 1) r (b 2) c fun s=>d .normal m (puts b [(16,(b 9)),(17,(b 0)),(18,e),(19,f),(22,(b 0)),(23,(b 9)),(24,g),(25,h),(10,a),(26,i),(27,j),(28,(b 1)),(29,k),(30,k),(31,l),(32,n),(33,o),(34,p),(35,q),(36,(b 2)),(37,r)]) s
def qfHZ (a:Post)(m:List Nat)(b:Env)(c d e f g h i j k l n o p:Value)(q:Heap):Prop:=a .normal m (puts b [(16,(b 9)),(17,(b 0)),(18,c),(19,d),(22,(b 0)),(23,(b 9)),(24,e),(25,f),(10,g),(26,h),(27,i),(28,(b 1)),(29,j),(30,j),(31,k),(32,l),(33,n),(34,o),(35,p)]) q
def qmbZ (a:Value)(b:Heap)(c:Env)(d:Post)(m:List Nat)(e f g h:Value):Prop:=ov (faV (some 0) a) fun i=>ov (ldV (some none) i b) fun j=>ov (binV BinOp.eql 2 false j (c 1)) fun k=>gM (isB k true) (fun l=>l (c 2) b) b fun n o=>gM (isB k true) (fun p=>ov (faV (some 3) a) fun q=>p q o) o fun r s=>gM (isB k true) (fun t=>ov (ldV (some none) r s) fun u=>t u s) s fun v w=>gM (isB k true) (fun x=>ov (binV BinOp.gtr 2 false n v) fun y=>x y w) w fun z aa=>ov (pkV k z (Value.bool false)) fun ab=>cdM ab (qmaZ a c aa d m e f g h i j k n r v z ab) (qfHZ d m c e f g h a i j k n r v z ab aa)
def qfdZ (a:Env)(b:Heap)(c:Post)(m:List Nat):Prop:=ov (ldV (some (some 4)) (a 10) b) fun d=>bsM (bsI P qbZ) 1 [(0,d)] b fun e f=>vvM P (Builtin.append_ #[qbZ,qbZ] qbZ #[(a 8),e]) f fun g h=>c .normal m (puts a [(38,(a 8)),(39,d),(40,e),(41,g),(8,g)]) h
def qmcZ (a:Env)(b:Heap)(m:List Nat)(c d:Value)(e:Post):Prop:=ov (iaV (some (none,4)) (a 0) (a 9)) fun f=>ov (ldV (some (some 4)) f b) fun g=>nwM (zc P qcZ) qcZ b fun h i=>stM (some 4) h g i fun j=>seqM (fun k=>qmbZ h j a k m c d f g) (fun m l n=>qfdZ l n e m) (blkM 1 e)
def qmdZ (a:Env)(b:Heap)(m:List Nat)(c d:Value)(e:Post):Prop:=seqM (fun f=>qmcZ a b m c d f) (fun m g h=>ov (binV BinOp.add 2 true (g 9) (Value.int IntKind.i64 1)) fun i=>e .normal m (puts g [(20,(g 9)),(21,i),(9,i)]) h) e
def qmeZ (a:Env)(b:Heap)(m:List Nat)(c:Post):Prop:=ov (lnV 7 (a 0)) fun d=>ov (binV BinOp.lss 2 false (a 9) d) fun e=>cdM e (qmdZ a b m d e c) (c (.exit 0) m (puts a [(16,(a 9)),(17,(a 0)),(18,d),(19,e)]) b)
def qmfZ (x0 x1 x2 a b:Value)(c:Heap)(d:Post):Prop:=loopM (fun m e f g=>qmeZ e f m g) [] (puts (envOf [x0,x1,x2]) [(6,(Value.slice none 0 0)),(7,(Value.int IntKind.i64 0)),(11,x0),(12,x1),(13,a),(14,b),(8,(Value.slice none 0 0)),(9,(Value.int IntKind.i64 0))]) c (blkM 0 d)
def qmgZ (x0 x1 x2 a b:Value)(c:Heap)(K:KTy):Prop:=seqM (fun d=>qmfZ x0 x1 x2 a b c d) (fun m e f=>(retM P [.tmp 6,.tmp 7] K) .ret m (puts e [(42,(e 8)),(6,(e 8)),(7,(Value.int IntKind.i64 0))]) f) (retM P [.tmp 6,.tmp 7] K)
def qmhZ (a:Value)(K:KTy)(x0:Value)(b:Heap)(x1 x2:Value):Prop:=ov (unV UnOp.not a) fun c=>cdM c (K (.tuple #[x0,(Value.int IntKind.i64 3)]) b) (qmgZ x0 x1 x2 a c b K)
def qiFZ (x0 x1 x2:Value)(h:Heap)(K:KTy):Prop:=callM P qcmZ #[x0,x1] h fun a b=>qmhZ a K x0 b x1 x2
theorem qsCZ {x0 x1 x2:Value}{h:Heap}(hd:qiFZ x0 x1 x2 h K):callM P qhhZ #[x0,x1,x2] h K :=
 call_of good mixed (fn:=Tryz.f247) (args:=[x0,x1,x2]) Tryz.func247 rfl (by kernel_rfl) (of_decide_eq_true rfl) (B:=qiFZ x0 x1 x2 h K) (by kernel_rfl) hd
def qnnZ (a:Post)(m:List Nat)(b:Env)(c d e f g h:Value)(i:Heap):Prop:=a .ret m (puts b [(6,(b 5)),(7,(b 0)),(8,c),(9,d),(12,(b 0)),(13,(b 5)),(14,e),(15,f),(16,g),(17,(b 1)),(18,h),(4,(Value.bool true))]) i
def qnoZ (a:Env)(b:Post)(m:List Nat)(c d e f g h:Value)(i:Heap):Prop:=ov (binV BinOp.add 2 true (a 5) (Value.int IntKind.i64 1)) fun j=>b .normal m (puts a [(6,(a 5)),(7,(a 0)),(8,c),(9,d),(12,(a 0)),(13,(a 5)),(14,e),(15,f),(16,g),(17,(a 1)),(18,h),(10,(a 5)),(11,j),(5,j)]) i
def qnpZ (a:Env)(b:Heap)(c:Post)(m:List Nat)(d e:Value):Prop:=ov (iaV (some (none,4)) (a 0) (a 5)) fun f=>ov (faV (some 0) f) fun g=>ov (ldV (some none) g b) fun h=>ov (binV BinOp.eql 2 false h (a 1)) fun i=>cdM i (qnnZ c m a d e f g h i b) (qnoZ a c m d e f g h i b)
def qnqZ (a:Env)(b:Heap)(c:Post)(m:List Nat):Prop:=ov (lnV 7 (a 0)) fun d=>ov (binV BinOp.lss 2 false (a 5) d) fun e=>cdM e (qnpZ a b c m d e) (c (.exit 0) m (puts a [(6,(a 5)),(7,(a 0)),(8,d),(9,e)]) b)
def qnrZ (x0 x1:Value)(h:Heap)(a:Post):Prop:=loopM (fun m b c d=>qnqZ b c d m) [] (puts (envOf [x0,x1]) [(4,(Value.bool false)),(5,(Value.int IntKind.i64 0))]) h (blkM 0 a)
def qjvZ (x0 x1:Value)(h:Heap)(K:KTy):Prop:=seqM (fun a=>qnrZ x0 x1 h a) (fun m b c=>(retM P [.tmp 4] K) .ret m (puts b [(4,(Value.bool false))]) c) (retM P [.tmp 4] K)
theorem qtpZ {x0 x1:Value}{h:Heap}(hd:qjvZ x0 x1 h K):callM P qcmZ #[x0,x1] h K :=
 call_of good mixed (fn:=Tryz.f248) (args:=[x0,x1]) Tryz.func248 rfl (by kernel_rfl) (of_decide_eq_true rfl) (B:=qjvZ x0 x1 h K) (by kernel_rfl) hd
def qliZ (a:Post)(m:List Nat)(b:Env)(c d e f g h i j k l:Value)(n:Heap):Prop:=a .normal m (puts b [(7,(b 6)),(8,(b 0)),(9,c),(10,d),(13,(b 0)),(14,(b 6)),(15,e),(16,f),(17,g),(18,(b 1)),(19,h),(20,(b 5)),(21,(b 0)),(22,(b 6)),(23,i),(24,j),(25,k),(26,l),(5,l)]) n
def qljZ (a:Env)(b:Heap)(c:Post)(m:List Nat)(d e f g h i:Value):Prop:=ov (iaV (some (none,4)) (a 0) (a 6)) fun j=>ov (ldV (some (some 4)) j b) fun k=>bsM (bsI P qbZ) 1 [(0,k)] b fun l n=>vvM P (Builtin.append_ #[qbZ,qbZ] qbZ #[(a 5),l]) n fun o p=>qliZ c m a d e f g h i j k l o p
def qlkZ (a:Env)(b:Heap)(c:Post)(m:List Nat)(d e:Value):Prop:=ov (iaV (some (none,4)) (a 0) (a 6)) fun f=>ov (faV (some 0) f) fun g=>ov (ldV (some none) g b) fun h=>ov (binV BinOp.neq 2 false h (a 1)) fun i=>cdM i (qljZ a b c m d e f g h i) (c .normal m (puts a [(7,(a 6)),(8,(a 0)),(9,d),(10,e),(13,(a 0)),(14,(a 6)),(15,f),(16,g),(17,h),(18,(a 1)),(19,i)]) b)
def qllZ (a:Env)(b:Heap)(m:List Nat)(c d:Value)(e:Post):Prop:=seqM (fun f=>qlkZ a b f m c d) (fun m g h=>ov (binV BinOp.add 2 true (g 6) (Value.int IntKind.i64 1)) fun i=>e .normal m (puts g [(11,(g 6)),(12,i),(6,i)]) h) e
def qlmZ (a:Env)(b:Heap)(m:List Nat)(c:Post):Prop:=ov (lnV 7 (a 0)) fun d=>ov (binV BinOp.lss 2 false (a 6) d) fun e=>cdM e (qllZ a b m d e c) (c (.exit 0) m (puts a [(7,(a 6)),(8,(a 0)),(9,d),(10,e)]) b)
def qlnZ (x0 x1:Value)(h:Heap)(a:Post):Prop:=loopM (fun m b c d=>qlmZ b c m d) [] (puts (envOf [x0,x1]) [(4,(Value.slice none 0 0)),(5,(Value.slice none 0 0)),(6,(Value.int IntKind.i64 0))]) h (blkM 0 a)
def qhyZ (x0 x1:Value)(h:Heap)(K:KTy):Prop:=seqM (fun a=>qlnZ x0 x1 h a) (fun m b c=>(retM P [.tmp 4] K) .ret m (puts b [(27,(b 5)),(4,(b 5))]) c) (retM P [.tmp 4] K)
theorem qrVZ {x0 x1:Value}{h:Heap}(hd:qhyZ x0 x1 h K):callM P qduZ #[x0,x1] h K :=
 call_of good mixed (fn:=Tryz.f249) (args:=[x0,x1]) Tryz.func249 rfl (by kernel_rfl) (of_decide_eq_true rfl) (B:=qhyZ x0 x1 h K) (by kernel_rfl) hd
def qjRZ (a:Post)(m:List Nat)(b:Env)(c d e f g h i j k l n o p q r:Value)(s:Heap):Prop:=a .normal m (puts b [(24,(b 14)),(25,(b 0)),(26,c),(27,d),(30,(b 13)),(31,e),(32,e),(33,f),(34,g),(35,h),(36,i),(37,j),(38,k),(39,l),(40,n),(41,(b 12)),(42,(b 1)),(43,(b 2)),(44,o),(45,p),(46,q),(47,r),(12,r),(13,(Value.bool true))]) s
def qjSZ (a:Env)(b:Heap)(c:Post)(m:List Nat)(d e f g h i j k l n o:Value):Prop:=ov (ldV (some (some 3)) (a 11) b) fun p=>ov (bdV (binf P qhZ) [(0,(a 1)),(1,(a 2)),(2,p)]) fun q=>bsM (bsI P qlZ) 1 [(0,q)] b fun r s=>vvM P (Builtin.append_ #[qlZ,qlZ] qlZ #[(a 12),r]) s fun t u=>qjRZ c m a d e f g h i j k l n o p q r t u
def qeqZ (a:Post)(m:List Nat)(b:Env)(c d e f g h i j k l n:Value)(o:Heap):Prop:=a .normal m (puts b [(24,(b 14)),(25,(b 0)),(26,c),(27,d),(30,(b 13)),(31,e),(32,e),(33,f),(34,g),(35,h),(36,i),(37,j),(38,k),(39,l),(40,n)]) o
def qjTZ (a:Env)(b:Heap)(c:Post)(m:List Nat)(d e:Value):Prop:=ov (unV UnOp.not (a 13)) fun f=>gM (isB f true) (fun g=>g (a 0) b) b fun h i=>gM (isB f true) (fun j=>j (a 14) i) i fun k l=>gM (isB f true) (fun n=>ov (iaV (some (none,5)) h k) fun o=>n o l) l fun p q=>gM (isB f true) (fun r=>ov (faV (some 0) p) fun s=>r s q) q fun t u=>gM (isB f true) (fun v=>ov (ldV (some none) t u) fun w=>v w u) u fun x y=>gM (isB f true) (fun z=>z (a 1) y) y fun aa ab=>gM (isB f true) (fun ac=>ov (binV BinOp.geq 3 false x aa) fun ad=>ac ad ab) ab fun ae af=>ov (pkV f ae (Value.bool false)) fun ag=>cdM ag (qjSZ a af c m d e f h k p t x aa ae ag) (qeqZ c m a d e f h k p t x aa ae ag af)
def qjwZ (a:Post)(m:List Nat)(b:Env)(c d e f g h i j:Value)(k:Heap):Prop:=a .normal m (puts b [(48,(b 0)),(49,(b 14)),(50,c),(51,d),(52,e),(53,(b 1)),(54,f),(55,(b 12)),(56,(b 0)),(57,(b 14)),(58,g),(59,h),(60,i),(61,j),(12,j)]) k
def qjxZ (a:Env)(b:Heap)(c:Post)(m:List Nat)(d e f g:Value):Prop:=ov (iaV (some (none,5)) (a 0) (a 14)) fun h=>ov (ldV (some (some 5)) h b) fun i=>bsM (bsI P qlZ) 1 [(0,i)] b fun j k=>vvM P (Builtin.append_ #[qlZ,qlZ] qlZ #[(a 12),j]) k fun l n=>qjwZ c m a d e f g h i j l n
def qerZ (a:Env)(b:Heap)(c:Post)(m:List Nat):Prop:=ov (iaV (some (none,5)) (a 0) (a 14)) fun d=>ov (faV (some 0) d) fun e=>ov (ldV (some none) e b) fun f=>ov (binV BinOp.neq 3 false f (a 1)) fun g=>cdM g (qjxZ a b c m d e f g) (c .normal m (puts a [(48,(a 0)),(49,(a 14)),(50,d),(51,e),(52,f),(53,(a 1)),(54,g)]) b)
def qjUZ (a:Env)(b:Heap)(m:List Nat)(c d:Value)(e:Post):Prop:=seqM (fun f=>qjTZ a b f m c d) (fun m g h=>qerZ g h e m) (blkM 1 e)
def qjVZ (a:Env)(b:Heap)(m:List Nat)(c d:Value)(e:Post):Prop:=seqM (fun f=>qjUZ a b m c d f) (fun m g h=>ov (binV BinOp.add 2 true (g 14) (Value.int IntKind.i64 1)) fun i=>e .normal m (puts g [(28,(g 14)),(29,i),(14,i)]) h) e
def qjWZ (a:Env)(b:Heap)(m:List Nat)(c:Post):Prop:=ov (lnV 7 (a 0)) fun d=>ov (binV BinOp.lss 2 false (a 14) d) fun e=>cdM e (qjVZ a b m d e c) (c (.exit 0) m (puts a [(24,(a 14)),(25,(a 0)),(26,d),(27,e)]) b)
def qjXZ (x0 x1 x2 x3 a b c d e f:Value)(g:Heap)(h:Post):Prop:=loopM (fun m i j k=>qjWZ i j m k) [] (puts (envOf [x0,x1,x2,x3]) [(8,(Value.slice none 0 0)),(9,(Value.slice none 0 0)),(15,x0),(16,x1),(17,a),(10,b),(18,x2),(19,x3),(20,c),(11,d),(12,(Value.slice none 0 0)),(21,x2),(22,e),(23,f),(13,f),(14,(Value.int IntKind.i64 0))]) g (blkM 0 h)
def qjyZ (a:Env)(b:Heap)(c:Post)(m:List Nat)(d:Value):Prop:=ov (ldV (some (some 3)) (a 11) b) fun e=>ov (bdV (binf P qhZ) [(0,(a 1)),(1,(a 2)),(2,e)]) fun f=>bsM (bsI P qlZ) 1 [(0,f)] b fun g h=>vvM P (Builtin.append_ #[qlZ,qlZ] qlZ #[(a 12),g]) h fun i j=>c .normal m (puts a [(62,(a 13)),(63,d),(64,(a 12)),(65,(a 1)),(66,(a 2)),(67,e),(68,f),(69,g),(70,i),(12,i)]) j
def qjzZ (a:Env)(b:Heap)(c:Post)(m:List Nat):Prop:=ov (unV UnOp.not (a 13)) fun d=>cdM d (qjyZ a b c m d) (c .normal m (puts a [(62,(a 13)),(63,d)]) b)
def qjAZ (a:Env)(b:Heap)(K:KTy)(m:List Nat)(c d e f:Value):Prop:=ov (faV (some 2) (a 10)) fun g=>ov (ldV (some (some 3)) g b) fun h=>ov (ldV (some (some 3)) (a 11) b) fun i=>ov (bdV (binf P qPZ) [(0,(a 1)),(1,h),(2,i)]) fun j=>bsM (bsI P qRZ) 1 [(0,j)] b fun k l=>(retM P [.tmp 8,.tmp 9] K) .ret m (puts a [(71,c),(72,d),(73,e),(74,f),(75,(a 12)),(76,(a 1)),(77,g),(78,h),(79,i),(80,j),(8,(a 12)),(81,k),(9,k)]) l
def qesZ (a:Env)(b:Heap)(K:KTy)(m:List Nat):Prop:=ov (ldV (some (some 3)) (a 11) b) fun c=>ov (faV (some 2) (a 10)) fun d=>ov (ldV (some (some 3)) d b) fun e=>pvM P (do eqGuard BinOp.neq qiZ (Operand.tmp 71) (Operand.tmp 73) c e; binOp BinOp.neq qiZ c e) fun f=>cdM f (qjAZ a b K m c d e f) ((retM P [.tmp 8,.tmp 9] K) .ret m (puts a [(71,c),(72,d),(73,e),(74,f),(82,(a 12)),(8,(a 12)),(9,(Value.slice none 0 0))]) b)
def qjBZ (a:Env)(b:Heap)(m:List Nat)(K:KTy):Prop:=seqM (fun c=>qjzZ a b c m) (fun m d e=>qesZ d e K m) (retM P [.tmp 8,.tmp 9] K)
def qjYZ (a:Heap)(b x2 x0 x1 x3 c d:Value)(K:KTy):Prop:=nwM (zc P qiZ) qiZ a fun e f=>stM (some 3) e b f fun g=>ov (lnV 7 x2) fun h=>ov (binV BinOp.eql 2 true h (Value.int IntKind.i64 0)) fun i=>seqM (fun j=>qjXZ x0 x1 x2 x3 c d b e h i g j) (fun m k l=>qjBZ k l m K) (retM P [.tmp 8,.tmp 9] K)
def qjZZ (a:Heap)(b x2 x3 x0 x1:Value)(K:KTy):Prop:=nwM (zc P qhZ) qhZ a fun c d=>stM (some 5) c b d fun e=>callM P qiZZ #[x2,x3] e fun f g=>qjYZ g f x2 x0 x1 x3 b c K
def qfIZ (x0 x1 x2 x3:Value)(h:Heap)(K:KTy):Prop:=callM P qdXZ #[x0,x1] h fun a b=>qjZZ b a x2 x3 x0 x1 K
theorem qrAZ {x0 x1 x2 x3:Value}{h:Heap}(hd:qfIZ x0 x1 x2 x3 h K):callM P qcNZ #[x0,x1,x2,x3] h K :=
 call_of good mixed (fn:=Tryz.f250) (args:=[x0,x1,x2,x3]) Tryz.func250 rfl (by kernel_rfl) (of_decide_eq_true rfl) (B:=qfIZ x0 x1 x2 x3 h K) (by kernel_rfl) hd
def qpvZ (x0:Value)(h:Heap)(K:KTy):Prop:=ov (binV BinOp.geq 2 true x0 (Value.int IntKind.i64 0)) fun a=>gM (isB a true) (fun b=>b x0 h) h fun c d=>gM (isB a true) (fun e=>ov (binV BinOp.lss 2 true c (Value.int IntKind.i64 8)) fun f=>e f d) d fun g i=>ov (pkV a g (Value.bool false)) fun j=>K j i
theorem quqZ {x0:Value}{h:Heap}(hd:qpvZ x0 h K):callM P qoBZ #[x0] h K :=
 call_of good mixed (fn:=Tryz.f252) (args:=[x0]) Tryz.func252 rfl (by kernel_rfl) (of_decide_eq_true rfl) (B:=qpvZ x0 h K) (by kernel_rfl) hd
def qeYZ (a:Value)(b:Heap)(c:Value)(K:KTy):Prop:=ov (faV (some 1) a) fun d=>ov (ldV (some none) d b) fun e=>ov (iaV (some (none,1)) e c) fun f=>ov (ldV (some none) f b) fun g=>K (.tuple #[g,(Value.bool true)]) b
def qeZZ (a:Value)(K:KTy)(b:Heap)(c:Value):Prop:=ov (exV a 0) fun d=>ov (exV a 1) fun e=>ov (unV UnOp.not e) fun f=>cdM f (K (.tuple #[(Value.int IntKind.u32 0),(Value.bool false)]) b) (qeYZ c b d K)
def qcxZ (x0 x1:Value)(h:Heap)(K:KTy):Prop:=nwM (some x0.cells) qiIZ h fun a b=>ov (ldV (some (some 2)) a b) fun c=>callM P qbJZ #[c,x1] b fun d e=>qeZZ d K e a
theorem qoIZ {x0 x1:Value}{h:Heap}(hd:qcxZ x0 x1 h K):callM P qceZ #[x0,x1] h K :=
 call_of good mixed (fn:=Tryz.f253) (args:=[x0,x1]) Tryz.func253 rfl (by kernel_rfl) (of_decide_eq_true rfl) (B:=qcxZ x0 x1 h K) (by kernel_rfl) hd
def qbfZ (x0 x1:Value)(h:Heap)(K:KTy):Prop:=nwM (some x0.cells) qaZ h fun a b=>ov (faV (some 0) a) fun c=>ov (ldV (some none) c b) fun d=>callM P qLZ #[d,x1] b fun e f=>ov (exV e 0) fun g=>ov (exV e 1) fun i=>K (.tuple #[g,i]) f
theorem qloZ {x0 x1:Value}{h:Heap}(hd:qbfZ x0 x1 h K):callM P qDZ #[x0,x1] h K :=
 call_of good mixed (fn:=Tryz.f257) (args:=[x0,x1]) Tryz.func257 rfl (by kernel_rfl) (of_decide_eq_true rfl) (B:=qbfZ x0 x1 h K) (by kernel_rfl) hd
def qtNZ (x0 x1:Value)(a:Heap)(b c d:Value)(e:Post):Prop:=callM P qsDZ #[x0,x1] a fun f g=>rfM P gd f #[11] (rfA P qhiZ 0) (rfB P qhiZ 0) [] (puts (envOf [x0,x1]) [(4,b),(5,c),(6,d),(8,x0),(9,x1),(10,f)]) g (blkM 0 e)
def qtOZ (a:Env)(b:Heap)(K:KTy)(m:List Nat):Prop:=ov (faV (some 1) (a 5)) fun c=>ov (ldV (some none) c b) fun d=>ov (faV (some 2) (a 5)) fun e=>ov (ldV (some none) e b) fun f=>ov (ldV (some none) (a 6) b) fun g=>ov (bdV (binf P qiZ) [(0,d),(1,f),(2,g)]) fun h=>stM (some 3) (a 4) h b fun i=>(retM P [.cell 4 60] K) .ret m (puts a [(22,c),(23,d),(24,e),(25,f),(26,g),(27,h)]) i
def qtqZ (x0 x1:Value)(h:Heap)(K:KTy):Prop:=nwM (zc P qiZ) qiZ h fun a b=>nwM (zc P qcZ) qcZ b fun c d=>nwM (zc P qqZ) qqZ d fun e f=>stM (some 1) e (Value.int IntKind.i64 0) f fun g=>seqM (fun i=>qtNZ x0 x1 g a c e i) (fun m j k=>qtOZ j k K m) (retM P [.cell 4 60] K)
theorem quRZ {x0 x1:Value}{h:Heap}(hd:qtqZ x0 x1 h K):callM P qhiZ #[x0,x1] h K :=
 call_of good mixed (fn:=Tryz.f258) (args:=[x0,x1]) Tryz.func258 rfl (by kernel_rfl) (of_decide_eq_true rfl) (B:=qtqZ x0 x1 h K) (by kernel_rfl) hd
def qtrZ (m:List Nat)(s:Env)(h:Heap)(Q:Post):Prop:=nwM (zc P qcZ) qcZ h fun a b=>stM (some 4) a (s 11) b fun c=>Q .normal m (puts s [(7,a)]) c
theorem quAZ {m:List Nat}{s:Env}{h:Heap}{Q:Post}:den P gd (rfA P qhiZ 0) m s h Q=qtrZ m s h Q:=by kernel_rfl
def qtsZ (m:List Nat)(s:Env)(h:Heap)(Q:Post):Prop:=seqM (fun a=>ov (ldV (some none) (s 6) h) fun b=>ov (binV BinOp.eql 2 true b (Value.int IntKind.i64 0)) fun c=>gM (isB c false) (fun d=>ov (ldV (some (some 4)) (s 7) h) fun e=>d e h) h fun f g=>gM (isB c false) (fun i=>ov (ldV (some (some 4)) (s 5) g) fun j=>i j g) g fun k l=>gM (isB c false) (fun n=>callM P qoCZ #[f,k] l fun o p=>n o p) l fun q r=>ov (pkV c (Value.bool true) q) fun t=>cdM t (ov (ldV (some (some 4)) (s 7) r) fun u=>stM (some 4) (s 5) u r fun v=>a .normal m (puts s [(12,b),(13,c),(14,c),(15,f),(16,k),(17,q),(18,t),(19,u)]) v) (a .normal m (puts s [(12,b),(13,c),(14,c),(15,f),(16,k),(17,q),(18,t)]) r)) (fun m w x=>ov (ldV (some none) (w 6) x) fun y=>ov (binV BinOp.add 2 true y (Value.int IntKind.i64 1)) fun z=>stM (some 1) (w 6) z x fun aa=>Q .normal m (puts w [(20,y),(21,z)]) aa) (blkM 1 Q)
theorem quBZ {m:List Nat}{s:Env}{h:Heap}{Q:Post}:den P gd (rfB P qhiZ 0) m s h Q=qtsZ m s h Q:=by kernel_rfl
def qedZ (a:Post)(m:List Nat)(b:Env)(c d e f g h i j k l n o p q r s t u v w x y z aa ab ac ad ae af ag ah ai aj ak al am an ao ap aq ar au av aw ax ay az ba bb bc bd be:Value)(bf:Heap):Prop:=a .normal m (puts b [(18,(b 8)),(19,(b 5)),(20,c),(21,d),(24,(b 5)),(25,(b 8)),(26,e),(27,f),(28,g),(29,(b 5)),(30,(b 6)),(31,h),(32,i),(33,j),(34,k),(35,k),(36,l),(37,n),(38,o),(39,p),(40,q),(41,r),(42,s),(43,t),(44,u),(45,v),(46,w),(47,x),(48,y),(49,z),(50,aa),(51,ab),(52,ac),(53,ad),(54,ae),(55,af),(56,ag),(57,ah),(58,ai),(59,aj),(60,ak),(61,al),(62,am),(63,an),(64,ao),(65,ap),(66,aq),(67,ar),(68,au),(69,av),(70,aw),(71,ax),(72,ay),(73,az),(74,ba),(75,bb),(76,bc),(77,bd),(78,be),(7,(Value.bool false))]) bf
def qeeZ (a:Post)(m:List Nat)(b:Env)(c d e f g h i j k l n o p q r s t u v w x y z aa ab ac ad ae af ag ah ai aj ak al am an ao ap aq ar au av aw ax ay az ba bb bc bd be:Value)(bf:Heap):Prop:=a .normal m (puts b [(18,(b 8)),(19,(b 5)),(20,c),(21,d),(24,(b 5)),(25,(b 8)),(26,e),(27,f),(28,g),(29,(b 5)),(30,(b 6)),(31,h),(32,i),(33,j),(34,k),(35,k),(36,l),(37,n),(38,o),(39,p),(40,q),(41,r),(42,s),(43,t),(44,u),(45,v),(46,w),(47,x),(48,y),(49,z),(50,aa),(51,ab),(52,ac),(53,ad),(54,ae),(55,af),(56,ag),(57,ah),(58,ai),(59,aj),(60,ak),(61,al),(62,am),(63,an),(64,ao),(65,ap),(66,aq),(67,ar),(68,au),(69,av),(70,aw),(71,ax),(72,ay),(73,az),(74,ba),(75,bb),(76,bc),(77,bd),(78,be)]) bf
def qolZ (a:Env)(b:Heap)(c:Post)(m:List Nat)(d e:Value):Prop:=ov (iaV (some (none,4)) (a 5) (a 8)) fun f=>ov (faV (some 2) f) fun g=>ov (ldV (some none) g b) fun h=>ov (iaV (some (none,4)) (a 5) (a 6)) fun i=>ov (faV (some 2) i) fun j=>ov (ldV (some none) j b) fun l=>ov (binV BinOp.gtr 2 false h l) fun n=>gv (isB n false) (fun k=>k (a 5)) fun o=>gv (isB n false) (fun k=>k (a 8)) fun p=>gv (isB n false) (ov (iaV (some (none,4)) o p)) fun q=>gv (isB n false) (ov (faV (some 2) q)) fun r=>gv (isB n false) (ov (ldV (some none) r b)) fun s=>gv (isB n false) (fun k=>k (a 5)) fun t=>gv (isB n false) (fun k=>k (a 6)) fun u=>gv (isB n false) (ov (iaV (some (none,4)) t u)) fun v=>gv (isB n false) (ov (faV (some 2) v)) fun w=>gv (isB n false) (ov (ldV (some none) w b)) fun x=>gv (isB n false) (ov (binV BinOp.eql 2 false s x)) fun y=>gv (isB n false) (fun k=>k y) fun z=>gv (isB z true) (fun k=>k (a 5)) fun aa=>gv (isB z true) (fun k=>k (a 8)) fun ab=>gv (isB z true) (ov (iaV (some (none,4)) aa ab)) fun ac=>gv (isB z true) (ov (faV (some 0) ac)) fun ad=>gv (isB z true) (ov (ldV (some none) ad b)) fun ae=>gv (isB z true) (fun k=>k (a 5)) fun af=>gv (isB z true) (fun k=>k (a 6)) fun ag=>gv (isB z true) (ov (iaV (some (none,4)) af ag)) fun ah=>gv (isB z true) (ov (faV (some 0) ah)) fun ai=>gv (isB z true) (ov (ldV (some none) ai b)) fun aj=>gv (isB z true) (ov (binV BinOp.lss 2 false ae aj)) fun ak=>gv (isB z true) (fun k=>k ak) fun al=>gv (isB al false) (fun k=>k (a 5)) fun am=>gv (isB al false) (fun k=>k (a 8)) fun an=>gv (isB al false) (ov (iaV (some (none,4)) am an)) fun ao=>gv (isB al false) (ov (faV (some 0) ao)) fun ap=>gv (isB al false) (ov (ldV (some none) ap b)) fun aq=>gv (isB al false) (fun k=>k (a 5)) fun ar=>gv (isB al false) (fun k=>k (a 6)) fun au=>gv (isB al false) (ov (iaV (some (none,4)) ar au)) fun av=>gv (isB al false) (ov (faV (some 0) av)) fun aw=>gv (isB al false) (ov (ldV (some none) aw b)) fun ax=>gv (isB al false) (ov (binV BinOp.eql 2 false aq ax)) fun ay=>gv (isB al false) (fun k=>k ay) fun az=>gv (isB az true) (fun k=>k (a 8)) fun ba=>gv (isB az true) (fun k=>k (a 6)) fun bb=>gv (isB az true) (ov (binV BinOp.lss 2 false ba bb)) fun bc=>gv (isB al false) (ov (pkV az bc (Value.bool false))) fun bd=>gv (isB z true) (ov (pkV al (Value.bool true) bd)) fun be=>gv (isB n false) (ov (pkV z be (Value.bool false))) fun bf=>ov (pkV n (Value.bool true) bf) fun bg=>cdM bg (qedZ c m a d e f g h i j l n o p q r s t u v w x y z aa ab ac ad ae af ag ah ai aj ak al am an ao ap aq ar au av aw ax ay az ba bb bc bd be bf bg b) (qeeZ c m a d e f g h i j l n o p q r s t u v w x y z aa ab ac ad ae af ag ah ai aj ak al am an ao ap aq ar au av aw ax ay az ba bb bc bd be bf bg b)
def qomZ (a:Env)(b:Heap)(m:List Nat)(c d:Value)(e:Post):Prop:=seqM (fun f=>qolZ a b f m c d) (fun m g h=>ov (binV BinOp.add 2 true (g 8) (Value.int IntKind.i64 1)) fun i=>e .normal m (puts g [(22,(g 8)),(23,i),(8,i)]) h) e
def qonZ (a:Env)(b:Heap)(m:List Nat)(c:Post):Prop:=ov (lnV 7 (a 5)) fun d=>ov (binV BinOp.lss 2 false (a 8) d) fun e=>cdM e (qomZ a b m d e c) (c (.exit 2) m (puts a [(18,(a 8)),(19,(a 5)),(20,d),(21,e)]) b)
def qooZ (m:List Nat)(a:Env)(b c:Value)(d:Heap)(e:Post):Prop:=loopM (fun m f g h=>qonZ f g m h) m (puts a [(12,(a 6)),(13,(a 5)),(14,b),(15,c),(7,(Value.bool true)),(8,(Value.int IntKind.i64 0))]) d (blkM 2 e)
def qnsZ (a:Env)(b:Heap)(c:Post)(m:List Nat):Prop:=ov (iaV (some (none,4)) (a 5) (a 6)) fun d=>ov (faV (some 1) d) fun e=>ov (ldV (some none) e b) fun f=>ov (iaV (some (none,4)) (a 5) (a 6)) fun g=>ov (faV (some 2) g) fun h=>ov (ldV (some none) h b) fun i=>ov (lnV 7 (a 5)) fun j=>ov (bdV (binf P qiZ) [(0,f),(1,i),(2,j)]) fun k=>stM (some 3) (a 4) k b fun l=>c .ret m (puts a [(79,(a 7)),(80,(a 5)),(81,(a 6)),(82,d),(83,e),(84,f),(85,(a 5)),(86,(a 6)),(87,g),(88,h),(89,i),(90,(a 5)),(91,j),(92,k)]) l
def qntZ (a:Env)(b:Heap)(c:Post)(m:List Nat):Prop:=cdM (a 7) (qnsZ a b c m) (c .normal m (puts a [(79,(a 7))]) b)
def qopZ (m:List Nat)(a:Env)(b c:Value)(d:Heap)(e:Post):Prop:=seqM (fun f=>qooZ m a b c d f) (fun m g h=>qntZ g h e m) (blkM 1 e)
def qoqZ (m:List Nat)(a:Env)(b c:Value)(d:Heap)(e:Post):Prop:=seqM (fun f=>qopZ m a b c d f) (fun m g h=>ov (binV BinOp.add 2 true (g 6) (Value.int IntKind.i64 1)) fun i=>e .normal m (puts g [(16,(g 6)),(17,i),(6,i)]) h) e
def qorZ (a:Env)(m:List Nat)(b:Heap)(c:Post):Prop:=ov (lnV 7 (a 5)) fun d=>ov (binV BinOp.lss 2 false (a 6) d) fun e=>cdM e (qoqZ m a d e b c) (c (.exit 0) m (puts a [(12,(a 6)),(13,(a 5)),(14,d),(15,e)]) b)
def qosZ (x0 x1 a b:Value)(c:Heap)(d:Post):Prop:=loopM (fun m e f g=>qorZ e m f g) [] (puts (envOf [x0,x1]) [(4,a),(9,x0),(10,x1),(11,b),(5,b),(6,(Value.int IntKind.i64 0))]) c (blkM 0 d)
def qotZ (x0 x1 a b:Value)(c:Heap)(K:KTy):Prop:=seqM (fun d=>qosZ x0 x1 a b c d) (fun m e f=>ov (bdV (binf P qiZ) []) fun g=>stM (some 3) (e 4) g f fun h=>(retM P [.cell 4 60] K) .ret m (puts e [(93,g)]) h) (retM P [.cell 4 60] K)
def qkrZ (x0 x1:Value)(h:Heap)(K:KTy):Prop:=nwM (zc P qiZ) qiZ h fun a b=>callM P qbuZ #[x0,x1] b fun c d=>qotZ x0 x1 a c d K
theorem qtHZ {x0 x1:Value}{h:Heap}(hd:qkrZ x0 x1 h K):callM P qiZZ #[x0,x1] h K :=
 call_of good mixed (fn:=Tryz.f259) (args:=[x0,x1]) Tryz.func259 rfl (by kernel_rfl) (of_decide_eq_true rfl) (B:=qkrZ x0 x1 h K) (by kernel_rfl) hd
def qaTZ (a:Value)(b:Heap)(c:Env)(d:Post)(m:List Nat)(e f g h i j k:Value):Prop:=ov (ldV (some (some 4)) a b) fun l=>ov (iaV (some (none,4)) (c 0) (c 5)) fun n=>stM (some 4) n l b fun o=>ov (binV BinOp.add 2 true (c 5) (Value.int IntKind.i64 1)) fun p=>d .normal m (puts c [(16,(c 6)),(17,(c 0)),(18,e),(19,f),(22,(c 0)),(23,(c 6)),(24,g),(25,h),(7,a),(26,(c 1)),(27,i),(28,j),(29,k),(30,(c 0)),(31,(c 5)),(32,l),(33,n),(34,(c 5)),(35,p),(5,p)]) o
def qaUZ (a:Post)(m:List Nat)(b:Env)(c d e f g h i j:Value)(k:Heap):Prop:=a .normal m (puts b [(16,(b 6)),(17,(b 0)),(18,c),(19,d),(22,(b 0)),(23,(b 6)),(24,e),(25,f),(7,g),(26,(b 1)),(27,h),(28,i),(29,j)]) k
def qaVZ (a b:Value)(c:Heap)(d:Env)(e:Post)(m:List Nat)(f g h i j:Value):Prop:=ov (unV UnOp.not a) fun k=>cdM k (qaTZ b c d e m f g h i j a k) (qaUZ e m d f g h i b j a k c)
def qaWZ (a:Env)(b:Heap)(c:Post)(m:List Nat)(e f:Value):Prop:=ov (iaV (some (none,4)) (a 0) (a 6)) fun g=>ov (ldV (some (some 4)) g b) fun h=>nwM (zc P qcZ) qcZ b fun i j=>stM (some 4) i h j fun k=>ov (ldV (some (some 4)) i k) fun l=>nxM P (do let d ← Deferred.ofValue (a 1) #[l] ; invoke d.target d.args) k fun n o=>qaVZ n i o a c m e f g h l
def qaXZ (a:Env)(b:Heap)(m:List Nat)(c d:Value)(e:Post):Prop:=seqM (fun f=>qaWZ a b f m c d) (fun m g h=>ov (binV BinOp.add 2 true (g 6) (Value.int IntKind.i64 1)) fun i=>e .normal m (puts g [(20,(g 6)),(21,i),(6,i)]) h) e
def qaYZ (a:Env)(b:Heap)(m:List Nat)(c:Post):Prop:=ov (lnV 7 (a 0)) fun d=>ov (binV BinOp.lss 2 false (a 6) d) fun e=>cdM e (qaXZ a b m d e c) (c (.exit 0) m (puts a [(16,(a 6)),(17,(a 0)),(18,d),(19,e)]) b)
def qaZZ (a x0 x1 b:Value)(c:Heap)(d:Post):Prop:=ov (binV BinOp.add 2 true a (Value.int IntKind.i64 1)) fun e=>loopM (fun m f g h=>qaYZ f g m h) [] (puts (envOf [x0,x1]) [(4,(Value.slice none 0 0)),(8,x0),(9,x1),(10,a),(5,a),(11,a),(12,b),(14,a),(15,e),(6,e)]) c (blkM 0 d)
def qaOZ (a:Env)(K:KTy)(m:List Nat)(b:Value)(c:Heap):Prop:=ov (slV (some (none,4)) (a 0) none (some (a 5))) fun d=>(retM P [.tmp 4] K) .ret m (puts a [(36,(a 0)),(37,(a 5)),(38,b),(39,(a 0)),(40,(a 5)),(41,d),(4,d)]) c
def qaPZ (a:Env)(b:Heap)(K:KTy)(m:List Nat):Prop:=ov (slV (some (none,4)) (a 0) (some (a 5)) none) fun c=>vvM P (Builtin.clear_ #[qbZ] qtuZ #[c]) b fun d e=>qaOZ a K m c e
def qbaZ (a x0 x1 b:Value)(c:Heap)(K:KTy):Prop:=seqM (fun d=>qaZZ a x0 x1 b c d) (fun m e f=>qaPZ e f K m) (retM P [.tmp 4] K)
def qbbZ (a:Value)(K:KTy)(x0:Value)(b:Heap)(x1:Value):Prop:=ov (binV BinOp.eql 2 true a (Value.int IntKind.i64 (-1))) fun c=>cdM c (K x0 b) (qbaZ a x0 x1 c b K)
def qTZ (x0 x1:Value)(h:Heap)(K:KTy):Prop:=callM P qSZ #[x0,x1] h fun a b=>qbbZ a K x0 b x1
theorem qfhZ {x0 x1:Value}{h:Heap}(hd:qTZ x0 x1 h K):callM P qOZ #[x0,x1] h K :=
 call_of good mixed (fn:=Tryz.f263) (args:=[x0,x1]) Tryz.func263 rfl (by kernel_rfl) (of_decide_eq_true rfl) (B:=qTZ x0 x1 h K) (by kernel_rfl) hd
def qbMZ (h:Heap)(x0:Value)(K:KTy):Prop:=bsM (bsI P qbZ) 0 [] h fun a b=>vvM P (Builtin.append_ #[qbZ,qbZ] qbZ #[a,x0]) b fun c d=>K c d
def qasZ (x0:Value)(h:Heap)(K:KTy):Prop:=ov (binV BinOp.eql 7 true x0 (Value.slice none 0 0)) fun a=>cdM a (K (Value.slice none 0 0) h) (qbMZ h x0 K)
theorem qiGZ {x0:Value}{h:Heap}(hd:qasZ x0 h K):callM P qsZ #[x0] h K :=
 call_of good mixed (fn:=Tryz.f264) (args:=[x0]) Tryz.func264 rfl (by kernel_rfl) (of_decide_eq_true rfl) (B:=qasZ x0 h K) (by kernel_rfl) hd
def qnuZ (x0 x1:Value)(h:Heap)(K:KTy):Prop:=nwM (some x0.cells) qcZ h fun a b=>ov (ldV (some none) x1 b) fun c=>ov (faV (some 3) a) fun d=>ov (ldV (some none) d b) fun e=>callM P qmkZ #[c,e] b fun f g=>K f g
theorem queZ {x0 x1:Value}{h:Heap}(hd:qnuZ x0 x1 h K):callM P qaBZ #[x0,x1] h K :=
 call_of good mixed (fn:=Tryz.f265) (args:=[x0,x1]) Tryz.func265 rfl (by kernel_rfl) (of_decide_eq_true rfl) (B:=qnuZ x0 x1 h K) (by kernel_rfl) hd
def qqPZ (x0 x1:Value)(h:Heap)(K:KTy):Prop:=ov (binV BinOp.leq 2 false x1 x0) fun a=>K a h
theorem quIZ {x0 x1:Value}{h:Heap}(hd:qqPZ x0 x1 h K):callM P qmkZ #[x0,x1] h K :=
 call_of good mixed (fn:=Tryz.f266) (args:=[x0,x1]) Tryz.func266 rfl (by kernel_rfl) (of_decide_eq_true rfl) (B:=qqPZ x0 x1 h K) (by kernel_rfl) hd
def qqQZ (x0 x1:Value)(h:Heap)(K:KTy):Prop:=callM P qagZ #[x0,x1,(.func (.func qeRZ) #[] #[])] h fun a b=>ov (exV a 0) fun c=>ov (exV a 1) fun d=>K (.tuple #[c,d]) b
theorem quJZ {x0 x1:Value}{h:Heap}(hd:qqQZ x0 x1 h K):callM P qjaZ #[x0,x1] h K :=
 call_of good mixed (fn:=Tryz.f267) (args:=[x0,x1]) Tryz.func267 rfl (by kernel_rfl) (of_decide_eq_true rfl) (B:=qqQZ x0 x1 h K) (by kernel_rfl) hd
def qbxZ (x1 a b x0:Value)(c:Heap)(K:KTy):Prop:=ov (binV BinOp.add 2 false x1 a) fun d=>ov (slV (some (none,4)) b (some d) none) fun e=>ov (slV (some (none,4)) x0 (some x1) none) fun f=>vvM P (Builtin.copy_ #[qbZ,qbZ] qqZ #[e,f]) c fun g h=>K b h
def qbyZ (a x1 x2:Value)(b:Heap)(c x0:Value)(K:KTy):Prop:=ov (slV (some (none,4)) a (some x1) none) fun d=>vvM P (Builtin.copy_ #[qbZ,qbZ] qqZ #[d,x2]) b fun e f=>qbxZ x1 c a x0 f K
def qbzZ (x0 x1 a b:Value)(c:Heap)(x2:Value)(K:KTy):Prop:=ov (slV (some (none,4)) x0 none (some x1)) fun d=>ov (binV BinOp.add 2 false a b) fun e=>ov (binV BinOp.sub 2 false e x1) fun f=>vvM P (Builtin.append_ #[qbZ,qqZ] qbZ #[d,f]) c fun g h=>qbyZ g x1 x2 h b x0 K
def qbvZ (a x1 x2:Value)(b:Heap)(K:KTy):Prop:=ov (slV (some (none,4)) a (some x1) none) fun c=>vvM P (Builtin.copy_ #[qbZ,qbZ] qqZ #[c,x2]) b fun d e=>K a e
def qbAZ (x1 a b:Value)(c:Heap)(x2:Value)(K:KTy):Prop:=ov (binV BinOp.add 2 false x1 a) fun d=>ov (slV (some (none,4)) b (some d) none) fun e=>ov (slV (some (none,4)) b (some x1) none) fun f=>vvM P (Builtin.copy_ #[qbZ,qbZ] qqZ #[e,f]) c fun g h=>qbvZ b x1 x2 h K
def qfJZ (a b x2:Value)(c:Heap)(x1 d:Value)(K:KTy):Prop:=ov (slV (some (none,4)) a (some b) none) fun e=>vvM P (Builtin.copy_ #[qbZ,qbZ] qqZ #[e,x2]) c fun f g=>ov (slV (some (none,4)) a (some x1) none) fun h=>callM P qkvZ #[h,d] g fun i j=>K a j
def qbBZ (a x1 b c:Value)(d:Heap)(x2:Value)(K:KTy)(e:Value):Prop:=ov (unV UnOp.not a) fun f=>cdM f (qbAZ x1 b c d x2 K) (qfJZ c e x2 d x1 b K)
def qbCZ (a b x0 x1 x2:Value)(c:Heap)(K:KTy):Prop:=ov (binV BinOp.add 2 false a b) fun d=>ov (slV (some (none,4)) x0 none (some d)) fun e=>ov (binV BinOp.add 2 false x1 b) fun f=>ov (slV (some (none,4)) e (some f) none) fun g=>nxM P (callFunc qeSZ #[x2,g]) c fun h i=>qbBZ h x1 b e i x2 K a
def qbDZ (a b x0 x1 c d:Value)(e:Heap)(x2:Value)(K:KTy):Prop:=ov (binV BinOp.gtr 2 false a b) fun f=>cdM f (qbzZ x0 x1 c d e x2 K) (qbCZ c d x0 x1 x2 e K)
def qbEZ (a b x0:Value)(h:Heap)(x1 x2:Value)(K:KTy):Prop:=ov (binV BinOp.add 2 false a b) fun c=>vvM P (Builtin.cap_ #[qbZ] qqZ #[x0]) h fun d e=>qbDZ c d x0 x1 a b e x2 K
def qbFZ (x0 x1 x2:Value)(h:Heap)(K:KTy)(a:Value):Prop:=ov (lnV 7 x0) fun b=>ov (binV BinOp.eql 2 false x1 b) fun c=>cdM c (vvM P (Builtin.append_ #[qbZ,qbZ] qbZ #[x0,x2]) h fun d e=>K d e) (qbEZ b a x0 h x1 x2 K)
def qalZ (x0 x1 x2:Value)(h:Heap)(K:KTy):Prop:=ov (slV (some (none,4)) x0 (some x1) none) fun a=>ov (lnV 7 x2) fun b=>ov (binV BinOp.eql 2 true b (Value.int IntKind.i64 0)) fun c=>cdM c (K x0 h) (qbFZ x0 x1 x2 h K b)
theorem qibZ {x0 x1 x2:Value}{h:Heap}(hd:qalZ x0 x1 x2 h K):callM P qajZ #[x0,x1,x2] h K :=
 call_of good mixed (fn:=Tryz.f268) (args:=[x0,x1,x2]) Tryz.func268 rfl (by kernel_rfl) (of_decide_eq_true rfl) (B:=qalZ x0 x1 x2 h K) (by kernel_rfl) hd
def qbGZ (a b:Value)(c:Heap)(K:KTy):Prop:=ov (lnV 7 a) fun d=>ov (slV (some (none,4)) a (some d) (some b)) fun e=>vvM P (Builtin.clear_ #[qbZ] qtuZ #[e]) c fun f g=>K a g
def qbHZ (x0 x1 x2:Value)(h:Heap)(K:KTy):Prop:=ov (lnV 7 x0) fun a=>ov (slV (some (none,4)) x0 none (some x1)) fun b=>ov (slV (some (none,4)) x0 (some x2) none) fun c=>vvM P (Builtin.append_ #[qbZ,qbZ] qbZ #[b,c]) h fun d e=>qbGZ d a e K
def qamZ (x0 x1 x2:Value)(h:Heap)(K:KTy):Prop:=ov (lnV 7 x0) fun a=>ov (sl3V (some (none,4)) x0 (some x1) x2 a) fun b=>ov (binV BinOp.eql 2 false x1 x2) fun c=>cdM c (K x0 h) (qbHZ x0 x1 x2 h K)
theorem qicZ {x0 x1 x2:Value}{h:Heap}(hd:qamZ x0 x1 x2 h K):callM P qakZ #[x0,x1,x2] h K :=
 call_of good mixed (fn:=Tryz.f269) (args:=[x0,x1,x2]) Tryz.func269 rfl (by kernel_rfl) (of_decide_eq_true rfl) (B:=qamZ x0 x1 x2 h K) (by kernel_rfl) hd
def qcnZ (a b c:Value)(d:Heap)(K:KTy):Prop:=ov (bdV (binf P qaZ) [(0,a),(1,b)]) fun e=>stM (some 2) c e d fun f=>ov (ldV (some (some 2)) c f) fun g=>K g f
def qcoZ (a:Value)(b:Heap)(c d e f g h:Value)(K:KTy):Prop:=ldV (some none) a b=some c∧callM P qbKZ #[d,e,f] b fun i j=>ldV (some none) a j=some c∧callM P qdZ #[c] j fun k l=>callM P qarZ #[k,e,g] l fun m n=>qcnZ i m h n K
def qcpZ (a:Value)(b:Heap)(c d:Value)(K:KTy):Prop:=ov (faV (some 0) a) fun e=>ov (ldV (some none) e b) fun f=>ov (binV BinOp.add 2 true c (Value.int IntKind.i64 1)) fun g=>ov (faV (some 1) a) fun h=>ov (ldV (some none) h b) fun i=>ov (binV BinOp.add 2 true c (Value.int IntKind.i64 1)) fun j=>callM P qvZ #[f] b fun k l=>qcoZ h l i k c g j d K
def qcqZ (a b:Value)(c:Heap)(d:Value)(K:KTy):Prop:=ov (exV a 0) fun e=>ov (exV a 1) fun f=>ov (unV UnOp.not f) fun g=>cdM g (ov (ldV (some (some 2)) b c) fun h=>stM (some 2) d h c fun i=>ov (ldV (some (some 2)) d i) fun j=>K j i) (qcpZ b c e d K)
def qaEZ (x0 x1:Value)(h:Heap)(K:KTy):Prop:=nwM (some x0.cells) qaZ h fun a b=>nwM (zc P qaZ) qaZ b fun c d=>ov (ldV (some (some 2)) a d) fun e=>callM P qDZ #[e,x1] d fun f g=>qcqZ f a g c K
theorem qjCZ {x0 x1:Value}{h:Heap}(hd:qaEZ x0 x1 h K):callM P qavZ #[x0,x1] h K :=
 call_of good mixed (fn:=Tryz.f270) (args:=[x0,x1]) Tryz.func270 rfl (by kernel_rfl) (of_decide_eq_true rfl) (B:=qaEZ x0 x1 h K) (by kernel_rfl) hd
def qdvZ (a:Value)(b:Heap)(c d:Value)(e:Post)(x0 x1 x2 f g h i j k l m n:Value):Prop:=ldV (some none) a b=some c∧ov (bdV (binf P qaZ) [(0,c),(1,d)]) fun o=>nwM (zc P qaZ) qaZ b fun p q=>ldV (some none) a q=some c∧stM (some 2) p o q fun r=>e .normal [] (puts (envOf [x0,x1,x2]) [(3,f),(5,g),(6,h),(11,i),(12,x1),(13,j),(10,j),(14,k),(15,l),(7,k),(8,l),(16,l),(17,a),(18,c),(19,m),(20,n),(21,d),(22,o),(9,p)]) r
def qdwZ (a:Value)(b:Heap)(c d:Value)(e:Post)(x0 x1 x2 f g h i j k l m:Value):Prop:=callM P qdZ #[a] b fun n o=>qdvZ c o d n e x0 x1 x2 f g h i j k l m a
def qdxZ (a:Heap)(b c d e:Value)(f:Post)(x0 x1 x2 g h i j k l m:Value):Prop:=nwM (zc P qaZ) qaZ a fun n o=>ldV (some none) b o=some c∧ldV (some none) d o=some e∧callM P qdZ #[e] o fun p q=>ldV (some none) b q=some c∧ov (bdV (binf P qaZ) [(0,c),(1,p)]) fun r=>stM (some 2) n r q fun s=>f .normal [] (puts (envOf [x0,x1,x2]) [(3,g),(5,h),(6,i),(11,j),(12,x1),(13,k),(10,k),(14,l),(15,m),(7,l),(8,m),(16,m),(17,b),(18,c),(19,d),(20,e),(9,n),(21,p),(22,r)]) s
def qdyZ (a:Value)(b:Heap)(c:Post)(x0 x1 x2 d e f g h i:Value):Prop:=ov (faV (some 0) a) fun j=>ov (ldV (some none) j b) fun k=>ov (faV (some 1) a) fun l=>ov (ldV (some none) l b) fun m=>(qdwZ m b j k c x0 x1 x2 a d e f g h i l)∧(qdxZ b j k l m c x0 x1 x2 a d e f g h i)
def qaMZ (a:Env)(b:Heap)(c:Post)(m:List Nat):Prop:=ov (faV (some 1) (a 9)) fun d=>ov (ldV (some none) d b) fun e=>ov (ldV (some (some 4)) (a 5) b) fun f=>ov (iaV (some (none,4)) e (a 7)) fun g=>stM (some 4) g f b fun h=>ov (ldV (some (some 2)) (a 9) h) fun i=>stM (some 2) (a 6) i h fun j=>c .ret m (puts a [(23,d),(24,e),(25,(a 7)),(26,f),(27,g),(28,i)]) j
def qdzZ (a:Value)(b:Heap)(x0 x1 x2 c d e f g h:Value)(i:Post):Prop:=seqM (fun j=>qdyZ a b j x0 x1 x2 c d e f g h) (fun m k l=>qaMZ k l i m) i
def qdAZ (a:Post)(x0 x1 x2 b c d e f g h:Value)(i:Heap):Prop:=a .normal [] (puts (envOf [x0,x1,x2]) [(3,b),(5,c),(6,d),(11,e),(12,x1),(13,f),(10,f),(14,g),(15,h),(7,g),(8,h),(16,h)]) i
def qdBZ (a b:Value)(c:Heap)(x0 x1 x2 d e f g h:Value)(i:Post):Prop:=cdM a (qdzZ b c x0 x1 x2 d e f g h a i) (qdAZ i x0 x1 x2 b d e f g h a c)
def qcXZ (a b:Value)(c:Env)(d:Heap)(e:Post)(m:List Nat)(f g h i j k l n o:Value):Prop:=ov (bdV (binf P qaZ) [(0,a),(1,b)]) fun p=>stM (some 2) (c 6) p d fun q=>e .normal m (puts c [(29,f),(30,g),(32,(c 7)),(33,(c 1)),(36,h),(37,i),(39,(c 7)),(40,j),(31,k),(34,l),(35,a),(38,n),(41,o),(42,b),(43,p)]) q
def qcYZ (a:Env)(b:Heap)(c d e:Value)(f:Post)(m:List Nat)(g h i j k l:Value):Prop:=ldV (some (some 4)) (a 5) b=some c∧bsM (bsI P qeZ) 1 [(0,c)] b fun n o=>callM P qgZ #[d,(a 7),n] o fun p q=>qcXZ e p a q f m g h i j c k l d n
def qcZZ (a b:Value)(c:Env)(d:Heap)(e:Post)(m:List Nat)(f g h i j k l n o:Value):Prop:=ov (bdV (binf P qaZ) [(0,a),(1,b)]) fun p=>stM (some 2) (c 6) p d fun q=>e .normal m (puts c [(29,f),(30,g),(32,(c 7)),(33,(c 1)),(36,h),(37,i),(39,(c 7)),(40,j),(31,k),(34,l),(35,a),(41,n),(38,o),(42,b),(43,p)]) q
def qdaZ (a:Value)(b:Heap)(c:Value)(d:Env)(e f:Value)(g:Post)(m:List Nat)(h i j k:Value):Prop:=ldV (some none) a b=some c∧ldV (some (some 4)) (d 5) b=some e∧(callM P qdZ #[c] b fun l n=>qcYZ d n e l f g m h i a c j k)∧(bsM (bsI P qeZ) 1 [(0,e)] b fun o p=>ldV (some none) a p=some c∧callM P qdZ #[c] p fun q r=>callM P qgZ #[q,(d 7),o] r fun s t=>qcZZ f s d t g m h i a c e j k o q)
def qdbZ (a b:Value)(c:Env)(d:Heap)(e:Post)(m:List Nat)(f g h i j k l n o:Value):Prop:=ov (bdV (binf P qaZ) [(0,a),(1,b)]) fun p=>stM (some 2) (c 6) p d fun q=>e .normal m (puts c [(29,f),(30,g),(32,(c 7)),(33,(c 1)),(36,h),(37,i),(39,(c 7)),(40,j),(31,k),(34,l),(41,n),(35,a),(38,o),(42,b),(43,p)]) q
def qdcZ (a b:Value)(c:Env)(d:Heap)(e:Post)(m:List Nat)(f g h i j k l n o:Value):Prop:=ov (bdV (binf P qaZ) [(0,a),(1,b)]) fun p=>stM (some 2) (c 6) p d fun q=>e .normal m (puts c [(29,f),(30,g),(32,(c 7)),(33,(c 1)),(36,h),(37,i),(39,(c 7)),(40,j),(31,k),(41,l),(34,n),(35,a),(38,o),(42,b),(43,p)]) q
def qddZ (a:Value)(b:Heap)(c:Value)(d:Env)(e f:Value)(g:Post)(m:List Nat)(h i:Value):Prop:=ldV (some none) a b=some c∧ldV (some (some 4)) (d 5) b=some e∧(bsM (bsI P qkZ) 1 [(0,(d 1))] b fun j k=>ldV (some none) a k=some c∧ldV (some (some 4)) (d 5) k=some e∧(callM P qnZ #[f,(d 7),j] k fun l n=>qdaZ a n c d e l g m h i f j)∧(bsM (bsI P qeZ) 1 [(0,e)] k fun o p=>ldV (some none) a p=some c∧callM P qnZ #[f,(d 7),j] p fun q r=>ldV (some none) a r=some c∧callM P qdZ #[c] r fun s t=>callM P qgZ #[s,(d 7),o] t fun u v=>qdbZ q u d v g m h i a c e f j o s))∧(bsM (bsI P qeZ) 1 [(0,e)] b fun w x=>ldV (some none) a x=some c∧bsM (bsI P qkZ) 1 [(0,(d 1))] x fun y z=>ldV (some none) a z=some c∧callM P qnZ #[f,(d 7),y] z fun aa ab=>ldV (some none) a ab=some c∧callM P qdZ #[c] ab fun ac ad=>callM P qgZ #[ac,(d 7),w] ad fun ae af=>qdcZ aa ae d af g m h i a c e f w y ac)
def qdeZ (a:Value)(b:Heap)(c d:Value)(e:Env)(f:Value)(g:Post)(m:List Nat)(h:Value):Prop:=callM P qvZ #[a] b fun i j=>qddZ c j d e f i g m h a
def qdfZ (a b:Value)(c:Env)(d:Heap)(e:Post)(m:List Nat)(f g h i j k l n o:Value):Prop:=ov (bdV (binf P qaZ) [(0,a),(1,b)]) fun p=>stM (some 2) (c 6) p d fun q=>e .normal m (puts c [(29,f),(30,g),(32,(c 7)),(33,(c 1)),(36,h),(37,i),(39,(c 7)),(40,j),(34,k),(31,l),(35,a),(38,n),(41,o),(42,b),(43,p)]) q
def qdgZ (a:Env)(b:Heap)(c d e:Value)(f:Post)(m:List Nat)(g h i j k l:Value):Prop:=ldV (some (some 4)) (a 5) b=some c∧bsM (bsI P qeZ) 1 [(0,c)] b fun n o=>callM P qgZ #[d,(a 7),n] o fun p q=>qdfZ e p a q f m g h i j c k l d n
def qdhZ (a b:Value)(c:Env)(d:Heap)(e:Post)(m:List Nat)(f g h i j k l n o:Value):Prop:=ov (bdV (binf P qaZ) [(0,a),(1,b)]) fun p=>stM (some 2) (c 6) p d fun q=>e .normal m (puts c [(29,f),(30,g),(32,(c 7)),(33,(c 1)),(36,h),(37,i),(39,(c 7)),(40,j),(34,k),(31,l),(35,a),(41,n),(38,o),(42,b),(43,p)]) q
def qdiZ (a:Value)(b:Heap)(c:Value)(d:Env)(e f:Value)(g:Post)(m:List Nat)(h i j k:Value):Prop:=ldV (some none) a b=some c∧ldV (some (some 4)) (d 5) b=some e∧(callM P qdZ #[c] b fun l n=>qdgZ d n e l f g m h i a c j k)∧(bsM (bsI P qeZ) 1 [(0,e)] b fun o p=>ldV (some none) a p=some c∧callM P qdZ #[c] p fun q r=>callM P qgZ #[q,(d 7),o] r fun s t=>qdhZ f s d t g m h i a c e j k o q)
def qdjZ (a b:Value)(c:Env)(d:Heap)(e:Post)(m:List Nat)(f g h i j k l n o:Value):Prop:=ov (bdV (binf P qaZ) [(0,a),(1,b)]) fun p=>stM (some 2) (c 6) p d fun q=>e .normal m (puts c [(29,f),(30,g),(32,(c 7)),(33,(c 1)),(36,h),(37,i),(39,(c 7)),(40,j),(34,k),(31,l),(41,n),(35,a),(38,o),(42,b),(43,p)]) q
def qdkZ (a:Value)(b:Heap)(c:Value)(d:Env)(e f g:Value)(h:Post)(m:List Nat)(i j:Value):Prop:=ldV (some none) a b=some c∧ldV (some (some 4)) (d 5) b=some e∧(callM P qnZ #[f,(d 7),g] b fun k l=>qdiZ a l c d e k h m i j g f)∧(bsM (bsI P qeZ) 1 [(0,e)] b fun n o=>ldV (some none) a o=some c∧callM P qnZ #[f,(d 7),g] o fun p q=>ldV (some none) a q=some c∧callM P qdZ #[c] q fun r s=>callM P qgZ #[r,(d 7),n] s fun t u=>qdjZ p t d u h m i j a c e g f n r)
def qdlZ (a b:Value)(c:Env)(d:Heap)(e:Post)(m:List Nat)(f g h i j k l n o:Value):Prop:=ov (bdV (binf P qaZ) [(0,a),(1,b)]) fun p=>stM (some 2) (c 6) p d fun q=>e .normal m (puts c [(29,f),(30,g),(32,(c 7)),(33,(c 1)),(36,h),(37,i),(39,(c 7)),(40,j),(34,k),(41,l),(31,n),(35,a),(38,o),(42,b),(43,p)]) q
def qdmZ (a:Env)(b:Heap)(c d e f g:Value)(h:Post)(m:List Nat):Prop:=bsM (bsI P qkZ) 1 [(0,(a 1))] b fun i j=>ldV (some none) c j=some d∧ldV (some none) e j=some f∧ldV (some (some 4)) (a 5) j=some g∧(callM P qvZ #[d] j fun k l=>qdkZ e l f a g k i h m c d)∧(bsM (bsI P qeZ) 1 [(0,g)] j fun n o=>ldV (some none) c o=some d∧ldV (some none) e o=some f∧callM P qvZ #[d] o fun p q=>ldV (some none) e q=some f∧callM P qnZ #[p,(a 7),i] q fun r s=>ldV (some none) e s=some f∧callM P qdZ #[f] s fun t u=>callM P qgZ #[t,(a 7),n] u fun v w=>qdlZ r v a w h m c d e f g i n p t)
def qdnZ (a b:Value)(c:Env)(d:Heap)(e:Post)(m:List Nat)(f g h i j k l n o:Value):Prop:=ov (bdV (binf P qaZ) [(0,a),(1,b)]) fun p=>stM (some 2) (c 6) p d fun q=>e .normal m (puts c [(29,f),(30,g),(32,(c 7)),(33,(c 1)),(36,h),(37,i),(39,(c 7)),(40,j),(41,k),(31,l),(34,n),(35,a),(38,o),(42,b),(43,p)]) q
def qdoZ (a:Value)(b:Heap)(c:Value)(d:Env)(e f:Value)(g:Post)(m:List Nat)(h i j:Value):Prop:=ldV (some none) a b=some c∧bsM (bsI P qkZ) 1 [(0,(d 1))] b fun k l=>ldV (some none) a l=some c∧callM P qnZ #[e,(d 7),k] l fun n o=>ldV (some none) a o=some c∧callM P qdZ #[c] o fun p q=>callM P qgZ #[p,(d 7),f] q fun r s=>qdnZ n r d s g m h i a c j f e k p
def qdpZ (a b:Value)(c:Env)(d:Heap)(e:Post)(m:List Nat)(f g h i j k l n o:Value):Prop:=ov (bdV (binf P qaZ) [(0,a),(1,b)]) fun p=>stM (some 2) (c 6) p d fun q=>e .normal m (puts c [(29,f),(30,g),(32,(c 7)),(33,(c 1)),(36,h),(37,i),(39,(c 7)),(40,j),(41,k),(34,l),(31,n),(35,a),(38,o),(42,b),(43,p)]) q
def qdqZ (a:Value)(b:Heap)(c d e f:Value)(g:Env)(h:Post)(m:List Nat):Prop:=bsM (bsI P qeZ) 1 [(0,a)] b fun i j=>ldV (some none) c j=some d∧ldV (some none) e j=some f∧(callM P qvZ #[d] j fun k l=>qdoZ e l f g k i h m c d a)∧(bsM (bsI P qkZ) 1 [(0,(g 1))] j fun n o=>ldV (some none) c o=some d∧ldV (some none) e o=some f∧callM P qvZ #[d] o fun p q=>ldV (some none) e q=some f∧callM P qnZ #[p,(g 7),n] q fun r s=>ldV (some none) e s=some f∧callM P qdZ #[f] s fun t u=>callM P qgZ #[t,(g 7),i] u fun v w=>qdpZ r v g w h m c d e f a i n p t)
def qaFZ (a:Env)(b:Heap)(c:Post)(m:List Nat):Prop:=ov (faV (some 0) (a 3)) fun d=>ov (ldV (some none) d b) fun e=>ov (faV (some 1) (a 3)) fun f=>ov (ldV (some none) f b) fun g=>ov (ldV (some (some 4)) (a 5) b) fun h=>(qdeZ e b f g a h c m d)∧(qdmZ a b d e f g h c m)∧(qdqZ h b d e f g a c m)
def qaGZ (a:Env)(b:Heap)(m:List Nat)(K:KTy):Prop:=seqM (fun c=>qaFZ a b c m) (fun m d e=>(retM P [.cell 6 49] K) .ret m d e) (retM P [.cell 6 49] K)
def qdCZ (a b:Value)(c:Heap)(x0 x1 x2 d e f:Value)(K:KTy):Prop:=ov (exV a 0) fun g=>ov (exV a 1) fun h=>seqM (fun i=>qdBZ h b c x0 x1 x2 d e f a g i) (fun m j k=>qaGZ j k m K) (retM P [.cell 6 49] K)
def qbgZ (x0 x1 x2:Value)(h:Heap)(K:KTy):Prop:=nwM (some x0.cells) qaZ h fun a b=>nwM (some x2.cells) qjZ b fun c d=>nwM (zc P qaZ) qaZ d fun e f=>ov (ldV (some (some 2)) a f) fun g=>callM P qDZ #[g,x1] f fun i j=>qdCZ i a j x0 x1 x2 c e g K
theorem qlpZ {x0 x1 x2:Value}{h:Heap}(hd:qbgZ x0 x1 x2 h K):callM P qaRZ #[x0,x1,x2] h K :=
 call_of good mixed (fn:=Tryz.f271) (args:=[x0,x1,x2]) Tryz.func271 rfl (by kernel_rfl) (of_decide_eq_true rfl) (B:=qbgZ x0 x1 x2 h K) (by kernel_rfl) hd
end Go.Proofs.YtmbningljbcpkaaGreat
namespace Go.Proofs.YtmbningljbcpkaaGreat
open Go Go.Den
set_option maxRecDepth 100000
set_option linter.unusedVariables false
def qcfZ (x0 x1:Value)(h:Heap)(K:KTy):Prop:=nwM (some x0.cells) qiIZ h fun a b=>ov (faV (some 0) a) fun c=>ov (ldV (some none) c b) fun d=>callM P qLZ #[d,x1] b fun e f=>ov (exV e 0) fun g=>ov (exV e 1) fun i=>K (.tuple #[g,i]) f
variable {K:KTy}
theorem qnwZ {x0 x1:Value}{h:Heap}(hd:qcfZ x0 x1 h K):callM P qbJZ #[x0,x1] h K :=
 call_of good mixed (fn:=Tryz.f273) (args:=[x0,x1]) Tryz.func273 rfl (by kernel_rfl) (of_decide_eq_true rfl) (B:=qcfZ x0 x1 h K) (by kernel_rfl) hd
def qewZ (x1 a b x0:Value)(c:Heap)(K:KTy):Prop:=ov (binV BinOp.add 2 false x1 a) fun d=>ov (slV (some (none,1)) b (some d) none) fun e=>ov (slV (some (none,1)) x0 (some x1) none) fun f=>vvM P (Builtin.copy_ #[qkZ,qkZ] qqZ #[e,f]) c fun g h=>K b h
def qexZ (a x1 x2:Value)(b:Heap)(c x0:Value)(K:KTy):Prop:=ov (slV (some (none,1)) a (some x1) none) fun d=>vvM P (Builtin.copy_ #[qkZ,qkZ] qqZ #[d,x2]) b fun e f=>qewZ x1 c a x0 f K
def qeyZ (x0 x1 a b:Value)(c:Heap)(x2:Value)(K:KTy):Prop:=ov (slV (some (none,1)) x0 none (some x1)) fun d=>ov (binV BinOp.add 2 false a b) fun e=>ov (binV BinOp.sub 2 false e x1) fun f=>vvM P (Builtin.append_ #[qkZ,qqZ] qkZ #[d,f]) c fun g h=>qexZ g x1 x2 h b x0 K
def qezZ (x1 a b:Value)(c:Heap)(x2:Value)(K:KTy):Prop:=ov (binV BinOp.add 2 false x1 a) fun d=>ov (slV (some (none,1)) b (some d) none) fun e=>ov (slV (some (none,1)) b (some x1) none) fun f=>vvM P (Builtin.copy_ #[qkZ,qkZ] qqZ #[e,f]) c fun g h=>ov (slV (some (none,1)) b (some x1) none) fun i=>vvM P (Builtin.copy_ #[qkZ,qkZ] qqZ #[i,x2]) h fun j k=>K b k
def qetZ (a b x2:Value)(c:Heap)(x1 d:Value)(K:KTy):Prop:=ov (slV (some (none,1)) a (some b) none) fun e=>vvM P (Builtin.copy_ #[qkZ,qkZ] qqZ #[e,x2]) c fun f g=>ov (slV (some (none,1)) a (some x1) none) fun h=>callM P qoDZ #[h,d] g fun i j=>K a j
def qeAZ (a x1 b c:Value)(d:Heap)(x2:Value)(K:KTy)(e:Value):Prop:=ov (unV UnOp.not a) fun f=>cdM f (qezZ x1 b c d x2 K) (qetZ c e x2 d x1 b K)
def qeBZ (a b x0 x1 x2:Value)(c:Heap)(K:KTy):Prop:=ov (binV BinOp.add 2 false a b) fun d=>ov (slV (some (none,1)) x0 none (some d)) fun e=>ov (binV BinOp.add 2 false x1 b) fun f=>ov (slV (some (none,1)) e (some f) none) fun g=>nxM P (callFunc qiHZ #[x2,g]) c fun h i=>qeAZ h x1 b e i x2 K a
def qeCZ (a b x0 x1 c d:Value)(e:Heap)(x2:Value)(K:KTy):Prop:=ov (binV BinOp.gtr 2 false a b) fun f=>cdM f (qeyZ x0 x1 c d e x2 K) (qeBZ c d x0 x1 x2 e K)
def qeDZ (a b x0:Value)(h:Heap)(x1 x2:Value)(K:KTy):Prop:=ov (binV BinOp.add 2 false a b) fun c=>vvM P (Builtin.cap_ #[qkZ] qqZ #[x0]) h fun d e=>qeCZ c d x0 x1 a b e x2 K
def qeEZ (x0 x1 x2:Value)(h:Heap)(K:KTy)(a:Value):Prop:=ov (lnV 7 x0) fun b=>ov (binV BinOp.eql 2 false x1 b) fun c=>cdM c (vvM P (Builtin.append_ #[qkZ,qkZ] qkZ #[x0,x2]) h fun d e=>K d e) (qeDZ b a x0 h x1 x2 K)
def qcgZ (x0 x1 x2:Value)(h:Heap)(K:KTy):Prop:=ov (slV (some (none,1)) x0 (some x1) none) fun a=>ov (lnV 7 x2) fun b=>ov (binV BinOp.eql 2 true b (Value.int IntKind.i64 0)) fun c=>cdM c (K x0 h) (qeEZ x0 x1 x2 h K b)
theorem qnxZ {x0 x1 x2:Value}{h:Heap}(hd:qcgZ x0 x1 x2 h K):callM P qnZ #[x0,x1,x2] h K :=
 call_of good mixed (fn:=Tryz.f275) (args:=[x0,x1,x2]) Tryz.func275 rfl (by kernel_rfl) (of_decide_eq_true rfl) (B:=qcgZ x0 x1 x2 h K) (by kernel_rfl) hd
def qcyZ (x0:Value)(h:Heap)(K:KTy):Prop:=ov (binV BinOp.eql 7 true x0 (Value.slice none 0 0)) fun a=>cdM a (K (Value.slice none 0 0) h) (bsM (bsI P qkZ) 0 [] h fun b c=>vvM P (Builtin.append_ #[qkZ,qkZ] qkZ #[b,x0]) c fun d e=>K d e)
theorem qoJZ {x0:Value}{h:Heap}(hd:qcyZ x0 h K):callM P qvZ #[x0] h K :=
 call_of good mixed (fn:=Tryz.f276) (args:=[x0]) Tryz.func276 rfl (by kernel_rfl) (of_decide_eq_true rfl) (B:=qcyZ x0 h K) (by kernel_rfl) hd
def qeFZ (a b:Value)(c:Heap)(K:KTy):Prop:=ov (lnV 7 a) fun d=>ov (slV (some (none,1)) a (some d) (some b)) fun e=>vvM P (Builtin.clear_ #[qkZ] qtuZ #[e]) c fun f g=>K a g
def qeGZ (x0 x1 x2:Value)(h:Heap)(K:KTy):Prop:=ov (lnV 7 x0) fun a=>ov (slV (some (none,1)) x0 none (some x1)) fun b=>ov (slV (some (none,1)) x0 (some x2) none) fun c=>vvM P (Builtin.append_ #[qkZ,qkZ] qkZ #[b,c]) h fun d e=>qeFZ d a e K
def qchZ (x0 x1 x2:Value)(h:Heap)(K:KTy):Prop:=ov (lnV 7 x0) fun a=>ov (sl3V (some (none,1)) x0 (some x1) x2 a) fun b=>ov (binV BinOp.eql 2 false x1 x2) fun c=>cdM c (K x0 h) (qeGZ x0 x1 x2 h K)
theorem qnyZ {x0 x1 x2:Value}{h:Heap}(hd:qchZ x0 x1 x2 h K):callM P qbKZ #[x0,x1,x2] h K :=
 call_of good mixed (fn:=Tryz.f278) (args:=[x0,x1,x2]) Tryz.func278 rfl (by kernel_rfl) (of_decide_eq_true rfl) (B:=qchZ x0 x1 x2 h K) (by kernel_rfl) hd
def qcGZ (a:Value)(b:Post)(m:List Nat)(c:Env)(d e f g h i j:Value)(k:Heap):Prop:=ov (binV BinOp.add 2 true a (Value.int IntKind.i64 1)) fun l=>b .normal m (puts c [(13,(c 7)),(14,(c 8)),(15,d),(16,(c 7)),(17,(c 8)),(18,e),(19,f),(20,g),(21,a),(9,a),(22,(c 0)),(23,a),(24,h),(25,i),(26,(c 1)),(27,j),(28,a),(29,l),(7,l)]) k
def qcHZ (a:Post)(m:List Nat)(b:Env)(c d e f g h i j:Value)(k:Heap):Prop:=a .normal m (puts b [(13,(b 7)),(14,(b 8)),(15,c),(16,(b 7)),(17,(b 8)),(18,d),(19,e),(20,f),(21,g),(9,g),(22,(b 0)),(23,g),(24,h),(25,i),(26,(b 1)),(27,j),(30,g),(8,g)]) k
def qcIZ (a b:Value)(c:Post)(m:List Nat)(d:Env)(e f g h i j:Value)(k:Heap):Prop:=cdM a (qcGZ b c m d e f g h i j a k) (qcHZ c m d e f g h b i j a k)
def qcJZ (a:Env)(b:Heap)(c:Post)(m:List Nat)(d:Value):Prop:=ov (binV BinOp.add 2 false (a 7) (a 8)) fun e=>ov (cvV (some .u64) e) fun f=>ov (binV BinOp.shr 2 true f (Value.int IntKind.u64 1)) fun g=>ov (cvV (some .i64) g) fun h=>ov (iaV (some (none,1)) (a 0) h) fun i=>ov (ldV (some none) i b) fun j=>callM P qjcZ #[j,(a 1)] b fun k l=>qcIZ k h c m a d e f g i j l
def qcKZ (a:Env)(b:Heap)(c:Post)(m:List Nat):Prop:=ov (binV BinOp.lss 2 false (a 7) (a 8)) fun d=>cdM d (qcJZ a b c m d) (c (.exit 0) m (puts a [(13,(a 7)),(14,(a 8)),(15,d)]) b)
def qcLZ (x0 x1 a:Value)(h:Heap)(b:Post):Prop:=loopM (fun m c d e=>qcKZ c d e m) [] (puts (envOf [x0,x1]) [(4,(Value.int IntKind.i64 0)),(5,(Value.bool false)),(10,x0),(11,a),(6,a),(12,a),(7,(Value.int IntKind.i64 0)),(8,a)]) h (blkM 0 b)
def qcMZ (a:Env)(b:Heap)(K:KTy)(m:List Nat):Prop:=ov (binV BinOp.lss 2 false (a 7) (a 6)) fun c=>gM (isB c true) (fun d=>d (a 0) b) b fun e f=>gM (isB c true) (fun g=>g (a 7) f) f fun h i=>gM (isB c true) (fun j=>ov (iaV (some (none,1)) e h) fun k=>j k i) i fun l n=>gM (isB c true) (fun o=>ov (ldV (some none) l n) fun p=>o p n) n fun q r=>gM (isB c true) (fun s=>s (a 1) r) r fun t u=>gM (isB c true) (fun v=>ov (binV BinOp.eql 3 false q t) fun w=>v w u) u fun x y=>gM (isB c true) (fun z=>z x y) y fun aa ab=>gM (isB aa false) (fun ac=>ac (a 0) ab) ab fun ad ae=>gM (isB aa false) (fun af=>af (a 7) ae) ae fun ag ah=>gM (isB aa false) (fun ai=>ov (iaV (some (none,1)) ad ag) fun aj=>ai aj ah) ah fun ak al=>gM (isB aa false) (fun am=>ov (ldV (some none) ak al) fun an=>am an al) al fun ao ap=>gM (isB aa false) (fun aq=>callM P qcOZ #[ao] ap fun ar au=>aq ar au) ap fun av aw=>gM (isB aa false) (fun ax=>ax av aw) aw fun ay az=>gM (isB ay true) (fun ba=>ba (a 1) az) az fun bb bc=>gM (isB ay true) (fun bd=>callM P qcOZ #[bb] bc fun be bf=>bd be bf) bc fun bg bh=>gM (isB aa false) (fun bi=>ov (pkV ay bg (Value.bool false)) fun bj=>bi bj bh) bh fun bk bl=>gM (isB c true) (fun bm=>ov (pkV aa (Value.bool true) bk) fun bn=>bm bn bl) bl fun bo bp=>ov (pkV c bo (Value.bool false)) fun bq=>(retM P [.tmp 4,.tmp 5] K) .ret m (puts a [(31,(a 7)),(32,(a 7)),(33,(a 6)),(34,c),(35,c),(36,e),(37,h),(38,l),(39,q),(40,t),(41,x),(42,aa),(43,ad),(44,ag),(45,ak),(46,ao),(47,av),(48,ay),(49,bb),(50,bg),(51,bk),(52,bo),(53,bq),(4,(a 7)),(5,bq)]) bp
def qaNZ (x0 x1:Value)(h:Heap)(K:KTy):Prop:=ov (lnV 7 x0) fun a=>seqM (fun b=>qcLZ x0 x1 a h b) (fun m c d=>qcMZ c d K m) (retM P [.tmp 4,.tmp 5] K)
theorem qjHZ {x0 x1:Value}{h:Heap}(hd:qaNZ x0 x1 h K):callM P qLZ #[x0,x1] h K :=
 call_of good mixed (fn:=Tryz.f281) (args:=[x0,x1]) Tryz.func281 rfl (by kernel_rfl) (of_decide_eq_true rfl) (B:=qaNZ x0 x1 h K) (by kernel_rfl) hd
def qqRZ (x0 x1:Value)(h:Heap)(K:KTy):Prop:=nwM (some x0.cells) qbZ h fun a b=>nwM (some x1.cells) qaoZ b fun c d=>ov ((some (.func (Fn.func qmlZ) #[] #[a,c]):Option Value)) fun e=>K e d
theorem quKZ {x0 x1:Value}{h:Heap}(hd:qqRZ x0 x1 h K):callM P qsDZ #[x0,x1] h K :=
 call_of good mixed (fn:=Tryz.f282) (args:=[x0,x1]) Tryz.func282 rfl (by kernel_rfl) (of_decide_eq_true rfl) (B:=qqRZ x0 x1 h K) (by kernel_rfl) hd
def qpwZ (x0 x1:Value)(h:Heap)(K:KTy):Prop:=nwM (some x0.cells) qcZ h fun a b=>nwM (some x1.cells) qcZ b fun c d=>ov (faV (some 2) a) fun e=>ov (ldV (some none) e d) fun f=>ov (faV (some 2) c) fun g=>ov (ldV (some none) g d) fun i=>ov (binV BinOp.gtr 2 false f i) fun j=>gM (isB j false) (fun k=>ov (faV (some 2) a) fun l=>k l d) d fun m n=>gM (isB j false) (fun o=>ov (ldV (some none) m n) fun p=>o p n) n fun q r=>gM (isB j false) (fun s=>ov (faV (some 2) c) fun t=>s t r) r fun u v=>gM (isB j false) (fun w=>ov (ldV (some none) u v) fun x=>w x v) v fun y z=>gM (isB j false) (fun aa=>ov (binV BinOp.eql 2 false q y) fun ab=>aa ab z) z fun ac ad=>gM (isB j false) (fun ae=>ae ac ad) ad fun af ag=>gM (isB af true) (fun ah=>ov (faV (some 0) a) fun ai=>ah ai ag) ag fun aj ak=>gM (isB af true) (fun al=>ov (ldV (some none) aj ak) fun am=>al am ak) ak fun an ao=>gM (isB af true) (fun ap=>ov (faV (some 0) c) fun aq=>ap aq ao) ao fun ar au=>gM (isB af true) (fun av=>ov (ldV (some none) ar au) fun aw=>av aw au) au fun ax ay=>gM (isB af true) (fun az=>ov (binV BinOp.lss 2 false an ax) fun ba=>az ba ay) ay fun bb bc=>gM (isB j false) (fun bd=>ov (pkV af bb (Value.bool false)) fun be=>bd be bc) bc fun bf bg=>ov (pkV j (Value.bool true) bf) fun bh=>K bh bg
theorem qurZ {x0 x1:Value}{h:Heap}(hd:qpwZ x0 x1 h K):callM P qoCZ #[x0,x1] h K :=
 call_of good mixed (fn:=Tryz.f283) (args:=[x0,x1]) Tryz.func283 rfl (by kernel_rfl) (of_decide_eq_true rfl) (B:=qpwZ x0 x1 h K) (by kernel_rfl) hd
def qbhZ (a:Post)(m:List Nat)(b:Env)(c d e f:Value)(g:Heap):Prop:=a .ret m (puts b [(9,c),(10,(b 8)),(5,(b 8)),(11,(b 1)),(12,(b 0)),(13,(b 8)),(14,d),(15,e),(16,f),(17,(b 8)),(4,(b 8))]) g
def qbiZ (a:Env)(b:Post)(m:List Nat)(c d e f:Value)(g:Heap):Prop:=ov (binV BinOp.add 2 true (a 8) (Value.int IntKind.i64 1)) fun h=>b .normal m (puts a [(9,c),(10,(a 8)),(5,(a 8)),(11,(a 1)),(12,(a 0)),(13,(a 8)),(14,d),(15,e),(16,f),(18,h),(8,h)]) g
def qbjZ (a:Value)(b:Post)(m:List Nat)(c:Env)(d e f:Value)(g:Heap):Prop:=cdM a (qbhZ b m c d e f a g) (qbiZ c b m d e f a g)
def qbkZ (a:Env)(b:Heap)(c:Post)(m:List Nat)(e:Value):Prop:=ov (iaV (some (none,4)) (a 0) (a 8)) fun f=>ov (ldV (some (some 4)) f b) fun g=>nxM P (do let d ← Deferred.ofValue (a 1) #[g] ; invoke d.target d.args) b fun h i=>qbjZ h c m a e f g i
def qblZ (a:Env)(b:Heap)(c:Post)(m:List Nat):Prop:=ov (binV BinOp.lss 2 false (a 8) (a 7)) fun d=>cdM d (qbkZ a b c m d) (c (.exit 0) m (puts a [(9,d)]) b)
def qbmZ (x0 x1:Value)(h:Heap)(a:Post):Prop:=ov (lnV 7 x0) fun b=>loopM (fun m c d e=>qblZ c d e m) [] (puts (envOf [x0,x1]) [(4,(Value.int IntKind.i64 0)),(6,x0),(7,b),(8,(Value.int IntKind.i64 0))]) h (blkM 0 a)
def qWZ (x0 x1:Value)(h:Heap)(K:KTy):Prop:=seqM (fun a=>qbmZ x0 x1 h a) (fun m b c=>(retM P [.tmp 4] K) .ret m (puts b [(4,(Value.int IntKind.i64 (-1)))]) c) (retM P [.tmp 4] K)
theorem qfKZ {x0 x1:Value}{h:Heap}(hd:qWZ x0 x1 h K):callM P qSZ #[x0,x1] h K :=
 call_of good mixed (fn:=Tryz.f284) (args:=[x0,x1]) Tryz.func284 rfl (by kernel_rfl) (of_decide_eq_true rfl) (B:=qWZ x0 x1 h K) (by kernel_rfl) hd
def qZZ (a:Value)(b:Post)(m:List Nat)(c:Env)(d e f g h i j k:Value)(l:Heap):Prop:=ov (binV BinOp.add 2 true a (Value.int IntKind.i64 1)) fun n=>b .normal m (puts c [(15,(c 9)),(16,(c 10)),(17,d),(18,(c 9)),(19,(c 10)),(20,e),(21,f),(22,g),(23,a),(11,a),(24,(c 2)),(25,(c 0)),(26,a),(27,h),(28,i),(29,(c 1)),(30,j),(31,k),(32,a),(33,n),(9,n)]) l
def qaaZ (a:Post)(m:List Nat)(b:Env)(c d e f g h i j k:Value)(l:Heap):Prop:=a .normal m (puts b [(15,(b 9)),(16,(b 10)),(17,c),(18,(b 9)),(19,(b 10)),(20,d),(21,e),(22,f),(23,g),(11,g),(24,(b 2)),(25,(b 0)),(26,g),(27,h),(28,i),(29,(b 1)),(30,j),(31,k),(34,g),(10,g)]) l
def qabZ (a b:Value)(c:Post)(m:List Nat)(d:Env)(e f g h i j:Value)(k:Heap):Prop:=ov (binV BinOp.lss 2 true a (Value.int IntKind.i64 0)) fun l=>cdM l (qZZ b c m d e f g h i j a l k) (qaaZ c m d e f g h b i j a l k)
def qacZ (a:Env)(b:Heap)(c:Post)(m:List Nat)(e:Value):Prop:=ov (binV BinOp.add 2 false (a 9) (a 10)) fun f=>ov (cvV (some .u64) f) fun g=>ov (binV BinOp.shr 2 true g (Value.int IntKind.u64 1)) fun h=>ov (cvV (some .i64) h) fun i=>ov (iaV (some (none,4)) (a 0) i) fun j=>ov (ldV (some (some 4)) j b) fun k=>nxM P (do let d ← Deferred.ofValue (a 2) #[k,(a 1)] ; invoke d.target d.args) b fun l n=>qabZ l i c m a e f g h j k n
def qadZ (a:Env)(b:Heap)(c:Post)(m:List Nat):Prop:=ov (binV BinOp.lss 2 false (a 9) (a 10)) fun d=>cdM d (qacZ a b c m d) (c (.exit 0) m (puts a [(15,(a 9)),(16,(a 10)),(17,d)]) b)
def qaeZ (x0 x1 x2 a:Value)(h:Heap)(b:Post):Prop:=loopM (fun m c d e=>qadZ c d e m) [] (puts (envOf [x0,x1,x2]) [(6,(Value.int IntKind.i64 0)),(7,(Value.bool false)),(12,x0),(13,a),(8,a),(14,a),(9,(Value.int IntKind.i64 0)),(10,a)]) h (blkM 0 b)
def qafZ (a:Env)(b:Heap)(K:KTy)(m:List Nat):Prop:=ov (binV BinOp.lss 2 false (a 9) (a 8)) fun c=>gM (isB c true) (fun e=>e (a 2) b) b fun f g=>gM (isB c true) (fun h=>h (a 0) g) g fun i j=>gM (isB c true) (fun k=>k (a 9) j) j fun l n=>gM (isB c true) (fun o=>ov (iaV (some (none,4)) i l) fun p=>o p n) n fun q r=>gM (isB c true) (fun s=>ov (ldV (some (some 4)) q r) fun t=>s t r) r fun u v=>gM (isB c true) (fun w=>w (a 1) v) v fun x y=>gM (isB c true) (fun z=>nxM P (do let d ← Deferred.ofValue f #[u,x] ; invoke d.target d.args) y fun aa ab=>z aa ab) y fun ac ad=>gM (isB c true) (fun ae=>ov (binV BinOp.eql 2 true ac (Value.int IntKind.i64 0)) fun af=>ae af ad) ad fun ag ah=>ov (pkV c ag (Value.bool false)) fun ai=>(retM P [.tmp 6,.tmp 7] K) .ret m (puts a [(35,(a 9)),(36,(a 9)),(37,(a 8)),(38,c),(39,c),(40,f),(41,i),(42,l),(43,q),(44,u),(45,x),(46,ac),(47,ag),(48,ai),(6,(a 9)),(7,ai)]) ah
def qBZ (x0 x1 x2:Value)(h:Heap)(K:KTy):Prop:=ov (lnV 7 x0) fun a=>seqM (fun b=>qaeZ x0 x1 x2 a h b) (fun m c d=>qafZ c d K m) (retM P [.tmp 6,.tmp 7] K)
theorem qdrZ {x0 x1 x2:Value}{h:Heap}(hd:qBZ x0 x1 x2 h K):callM P qagZ #[x0,x1,x2] h K :=
 call_of good mixed (fn:=Tryz.f285) (args:=[x0,x1,x2]) Tryz.func285 rfl (by kernel_rfl) (of_decide_eq_true rfl) (B:=qBZ x0 x1 x2 h K) (by kernel_rfl) hd
def qoKZ (x0 x1:Value)(h:Heap)(K:KTy):Prop:=nwM (some x0.cells) qcZ h fun a b=>ov (faV (some 0) a) fun c=>ov (ldV (some none) c b) fun d=>callM P qjbZ #[d,x1] b fun e f=>K e f
theorem qujZ {x0 x1:Value}{h:Heap}(hd:qoKZ x0 x1 h K):callM P qeRZ #[x0,x1] h K :=
 call_of good mixed (fn:=Tryz.f286) (args:=[x0,x1]) Tryz.func286 rfl (by kernel_rfl) (of_decide_eq_true rfl) (B:=qoKZ x0 x1 h K) (by kernel_rfl) hd
def qouZ (x0 x1:Value)(K:KTy)(a:Heap):Prop:=ov (binV BinOp.lss 2 false x0 x1) fun b=>cdM b (K (Value.int IntKind.i64 (-1)) a) (ov (binV BinOp.gtr 2 false x0 x1) fun c=>cdM c (K (Value.int IntKind.i64 1) a) (K (Value.int IntKind.i64 0) a))
def qovZ (a:Value)(K:KTy)(b:Heap)(x0 x1:Value):Prop:=cdM a (K (Value.int IntKind.i64 1) b) (qouZ x0 x1 K b)
def qowZ (a b:Value)(K:KTy)(c:Heap)(x0 x1:Value):Prop:=cdM a (cdM b (K (Value.int IntKind.i64 0) c) (K (Value.int IntKind.i64 (-1)) c)) (qovZ b K c x0 x1)
def qoxZ (x1:Value)(a:Heap)(b:Value)(K:KTy)(x0:Value):Prop:=callM P qhjZ #[x1] a fun c d=>qowZ b c K d x0 x1
def qksZ (x0 x1:Value)(h:Heap)(K:KTy):Prop:=callM P qhjZ #[x0] h fun a b=>qoxZ x1 b a K x0
theorem qtIZ {x0 x1:Value}{h:Heap}(hd:qksZ x0 x1 h K):callM P qjbZ #[x0,x1] h K :=
 call_of good mixed (fn:=Tryz.f287) (args:=[x0,x1]) Tryz.func287 rfl (by kernel_rfl) (of_decide_eq_true rfl) (B:=qksZ x0 x1 h K) (by kernel_rfl) hd
def qbSZ (a b:Value)(c:Heap)(K:KTy):Prop:=ov (lnV 7 a) fun d=>ov (slV (some (none,4)) a (some d) (some b)) fun e=>vvM P (Builtin.clear_ #[qeZ] qtuZ #[e]) c fun f g=>K a g
def qbTZ (x0 x1 x2:Value)(h:Heap)(K:KTy):Prop:=ov (lnV 7 x0) fun a=>ov (slV (some (none,4)) x0 none (some x1)) fun b=>ov (slV (some (none,4)) x0 (some x2) none) fun c=>vvM P (Builtin.append_ #[qeZ,qeZ] qeZ #[b,c]) h fun d e=>qbSZ d a e K
def qaxZ (x0 x1 x2:Value)(h:Heap)(K:KTy):Prop:=ov (lnV 7 x0) fun a=>ov (sl3V (some (none,4)) x0 (some x1) x2 a) fun b=>ov (binV BinOp.eql 2 false x1 x2) fun c=>cdM c (K x0 h) (qbTZ x0 x1 x2 h K)
theorem qiRZ {x0 x1 x2:Value}{h:Heap}(hd:qaxZ x0 x1 x2 h K):callM P qarZ #[x0,x1,x2] h K :=
 call_of good mixed (fn:=Tryz.f290) (args:=[x0,x1,x2]) Tryz.func290 rfl (by kernel_rfl) (of_decide_eq_true rfl) (B:=qaxZ x0 x1 x2 h K) (by kernel_rfl) hd
def qcrZ (h:Heap)(x0:Value)(K:KTy):Prop:=bsM (bsI P qeZ) 0 [] h fun a b=>vvM P (Builtin.append_ #[qeZ,qeZ] qeZ #[a,x0]) b fun c d=>K c d
def qaHZ (x0:Value)(h:Heap)(K:KTy):Prop:=ov (binV BinOp.eql 7 true x0 (Value.slice none 0 0)) fun a=>cdM a (K (Value.slice none 0 0) h) (qcrZ h x0 K)
theorem qjDZ {x0:Value}{h:Heap}(hd:qaHZ x0 h K):callM P qdZ #[x0] h K :=
 call_of good mixed (fn:=Tryz.f291) (args:=[x0]) Tryz.func291 rfl (by kernel_rfl) (of_decide_eq_true rfl) (B:=qaHZ x0 h K) (by kernel_rfl) hd
def qbUZ (x1 a b x0:Value)(c:Heap)(K:KTy):Prop:=ov (binV BinOp.add 2 false x1 a) fun d=>ov (slV (some (none,4)) b (some d) none) fun e=>ov (slV (some (none,4)) x0 (some x1) none) fun f=>vvM P (Builtin.copy_ #[qeZ,qeZ] qqZ #[e,f]) c fun g h=>K b h
def qbVZ (a x1 x2:Value)(b:Heap)(c x0:Value)(K:KTy):Prop:=ov (slV (some (none,4)) a (some x1) none) fun d=>vvM P (Builtin.copy_ #[qeZ,qeZ] qqZ #[d,x2]) b fun e f=>qbUZ x1 c a x0 f K
def qbWZ (x0 x1 a b:Value)(c:Heap)(x2:Value)(K:KTy):Prop:=ov (slV (some (none,4)) x0 none (some x1)) fun d=>ov (binV BinOp.add 2 false a b) fun e=>ov (binV BinOp.sub 2 false e x1) fun f=>vvM P (Builtin.append_ #[qeZ,qqZ] qeZ #[d,f]) c fun g h=>qbVZ g x1 x2 h b x0 K
def qbNZ (a x1 x2:Value)(b:Heap)(K:KTy):Prop:=ov (slV (some (none,4)) a (some x1) none) fun c=>vvM P (Builtin.copy_ #[qeZ,qeZ] qqZ #[c,x2]) b fun d e=>K a e
def qbXZ (x1 a b:Value)(c:Heap)(x2:Value)(K:KTy):Prop:=ov (binV BinOp.add 2 false x1 a) fun d=>ov (slV (some (none,4)) b (some d) none) fun e=>ov (slV (some (none,4)) b (some x1) none) fun f=>vvM P (Builtin.copy_ #[qeZ,qeZ] qqZ #[e,f]) c fun g h=>qbNZ b x1 x2 h K
def qhzZ (a b x2:Value)(c:Heap)(x1 d:Value)(K:KTy):Prop:=ov (slV (some (none,4)) a (some b) none) fun e=>vvM P (Builtin.copy_ #[qeZ,qeZ] qqZ #[e,x2]) c fun f g=>ov (slV (some (none,4)) a (some x1) none) fun h=>callM P qluZ #[h,d] g fun i j=>K a j
def qbYZ (a x1 b c:Value)(d:Heap)(x2:Value)(K:KTy)(e:Value):Prop:=ov (unV UnOp.not a) fun f=>cdM f (qbXZ x1 b c d x2 K) (qhzZ c e x2 d x1 b K)
def qbZZ (a b x0 x1 x2:Value)(c:Heap)(K:KTy):Prop:=ov (binV BinOp.add 2 false a b) fun d=>ov (slV (some (none,4)) x0 none (some d)) fun e=>ov (binV BinOp.add 2 false x1 b) fun f=>ov (slV (some (none,4)) e (some f) none) fun g=>nxM P (callFunc qfeZ #[x2,g]) c fun h i=>qbYZ h x1 b e i x2 K a
def qcaZ (a b x0 x1 c d:Value)(e:Heap)(x2:Value)(K:KTy):Prop:=ov (binV BinOp.gtr 2 false a b) fun f=>cdM f (qbWZ x0 x1 c d e x2 K) (qbZZ c d x0 x1 x2 e K)
def qcbZ (a b x0:Value)(h:Heap)(x1 x2:Value)(K:KTy):Prop:=ov (binV BinOp.add 2 false a b) fun c=>vvM P (Builtin.cap_ #[qeZ] qqZ #[x0]) h fun d e=>qcaZ c d x0 x1 a b e x2 K
def qccZ (x0 x1 x2:Value)(h:Heap)(K:KTy)(a:Value):Prop:=ov (lnV 7 x0) fun b=>ov (binV BinOp.eql 2 false x1 b) fun c=>cdM c (vvM P (Builtin.append_ #[qeZ,qeZ] qeZ #[x0,x2]) h fun d e=>K d e) (qcbZ b a x0 h x1 x2 K)
def qayZ (x0 x1 x2:Value)(h:Heap)(K:KTy):Prop:=ov (slV (some (none,4)) x0 (some x1) none) fun a=>ov (lnV 7 x2) fun b=>ov (binV BinOp.eql 2 true b (Value.int IntKind.i64 0)) fun c=>cdM c (K x0 h) (qccZ x0 x1 x2 h K b)
theorem qiSZ {x0 x1 x2:Value}{h:Heap}(hd:qayZ x0 x1 x2 h K):callM P qgZ #[x0,x1,x2] h K :=
 call_of good mixed (fn:=Tryz.f292) (args:=[x0,x1,x2]) Tryz.func292 rfl (by kernel_rfl) (of_decide_eq_true rfl) (B:=qayZ x0 x1 x2 h K) (by kernel_rfl) hd
def qoyZ (a x1:Value)(b:Heap)(x0:Value)(K:KTy):Prop:=gM (isB a true) (fun c=>c x1 b) b fun d e=>gM (isB a true) (fun f=>callM P qevZ #[d] e fun g h=>f g h) e fun i j=>gM (isB a true) (fun k=>ov (unV UnOp.not i) fun l=>k l j) j fun m n=>ov (pkV a m (Value.bool false)) fun o=>gM (isB o false) (fun p=>p x0 n) n fun q r=>gM (isB o false) (fun s=>s x1 r) r fun t u=>gM (isB o false) (fun v=>ov (binV BinOp.lss 3 false q t) fun w=>v w u) u fun x y=>ov (pkV o (Value.bool true) x) fun z=>K z y
def qktZ (x0 x1:Value)(h:Heap)(K:KTy):Prop:=callM P qevZ #[x0] h fun a b=>qoyZ a x1 b x0 K
theorem qtJZ {x0 x1:Value}{h:Heap}(hd:qktZ x0 x1 h K):callM P qjcZ #[x0,x1] h K :=
 call_of good mixed (fn:=Tryz.f298) (args:=[x0,x1]) Tryz.func298 rfl (by kernel_rfl) (of_decide_eq_true rfl) (B:=qktZ x0 x1 h K) (by kernel_rfl) hd
def qfLZ (x0:Value)(h:Heap)(K:KTy):Prop:=ov (binV BinOp.neq 3 false x0 x0) fun a=>K a h
theorem qrBZ {x0:Value}{h:Heap}(hd:qfLZ x0 h K):callM P qcOZ #[x0] h K :=
 call_of good mixed (fn:=Tryz.f299) (args:=[x0]) Tryz.func299 rfl (by kernel_rfl) (of_decide_eq_true rfl) (B:=qfLZ x0 h K) (by kernel_rfl) hd
def qqdZ (a:Post)(m:List Nat)(b:Env)(c d e f g h i j k l n o p q:Value)(r:Heap):Prop:=a .ret m (puts b [(9,c),(10,d),(11,e),(5,f),(12,g),(13,h),(14,i),(15,j),(16,k),(17,k),(18,l),(19,n),(20,o),(21,p),(22,q)]) r
def qlEZ (a:Env)(b:Post)(m:List Nat)(c d e f g h i j k l n o p q:Value)(r:Heap):Prop:=ov (binV BinOp.add 2 true (a 8) (Value.int IntKind.i64 1)) fun s=>b .normal m (puts a [(9,c),(10,d),(11,e),(5,f),(12,g),(13,h),(14,i),(15,j),(16,k),(17,k),(18,l),(19,n),(20,o),(21,p),(22,q),(23,s),(8,s)]) r
def qqeZ (a:Value)(b:Env)(c:Heap)(e:Value)(f:Post)(m:List Nat)(g h i j k l:Value):Prop:=ov (unV UnOp.not a) fun n=>gM (isB n true) (fun o=>o (b 0) c) c fun p q=>gM (isB n true) (fun r=>ov (ldV (some (some 4)) e q) fun s=>r s q) q fun t u=>gM (isB n true) (fun v=>nxM P (do let d ← Deferred.ofValue p #[t] ; invoke d.target d.args) u fun w x=>v w x) u fun y z=>gM (isB n true) (fun aa=>ov (unV UnOp.not y) fun ab=>aa ab z) z fun ac ad=>ov (pkV n ac (Value.bool false)) fun ae=>cdM ae (qqdZ f m b g h i e j k l a n p t y ac ae ad) (qlEZ b f m g h i e j k l a n p t y ac ae ad)
def qqfZ (a:Env)(b:Heap)(c:Post)(m:List Nat)(d:Value):Prop:=ov (iaV (some (none,4)) (a 6) (a 8)) fun e=>ov (ldV (some (some 4)) e b) fun f=>nwM (zc P qcZ) qcZ b fun g h=>stM (some 4) g f h fun i=>ov (ldV (some none) (a 2) i) fun j=>ov (faV (some 3) g) fun k=>ov (ldV (some none) k i) fun l=>callM P qmkZ #[j,l] i fun n o=>qqeZ n a o g c m d e f j k l
def qqgZ (a:Env)(b:Heap)(c:Post)(m:List Nat):Prop:=ov (binV BinOp.lss 2 false (a 8) (a 7)) fun d=>cdM d (qqfZ a b c m d) (c (.exit 0) m (puts a [(9,d)]) b)
def qoLZ (x0 x1 x2:Value)(h:Heap)(K:KTy):Prop:=ov (ldV (some none) x1 h) fun a=>ov (lnV 7 a) fun b=>loopM (fun m c d e=>qqgZ c d e m) [] (puts (envOf [x0,x1,x2]) [(6,a),(7,b),(8,(Value.int IntKind.i64 0))]) h (blkM 0 (retM P [] K))
theorem qukZ {x0 x1 x2:Value}{h:Heap}(hd:qoLZ x0 x1 x2 h K):callM P qmlZ #[x0,x1,x2] h K :=
 call_of good mixed (fn:=Tryz.f300) (args:=[x0,x1,x2]) Tryz.func300 rfl (by kernel_rfl) (of_decide_eq_true rfl) (B:=qoLZ x0 x1 x2 h K) (by kernel_rfl) hd
def qnvZ (x0:Value)(h:Heap)(K:KTy):Prop:=ov (binV BinOp.neq 2 false x0 x0) fun a=>K a h
theorem qufZ {x0:Value}{h:Heap}(hd:qnvZ x0 h K):callM P qhjZ #[x0] h K :=
 call_of good mixed (fn:=Tryz.f301) (args:=[x0]) Tryz.func301 rfl (by kernel_rfl) (of_decide_eq_true rfl) (B:=qnvZ x0 h K) (by kernel_rfl) hd
def qjEZ (x0:Value)(h:Heap)(K:KTy):Prop:=ov (binV BinOp.neq 3 false x0 x0) fun a=>K a h
theorem qttZ {x0:Value}{h:Heap}(hd:qjEZ x0 h K):callM P qevZ #[x0] h K :=
 call_of good mixed (fn:=Tryz.f307) (args:=[x0]) Tryz.func307 rfl (by kernel_rfl) (of_decide_eq_true rfl) (B:=qjEZ x0 h K) (by kernel_rfl) hd
end Go.Proofs.YtmbningljbcpkaaGreat
namespace Go.Proofs.YtmbningljbcpkaaGreat
open Go Go.Den Go.MapKept
set_option linter.unusedSimpArgs false
set_option linter.unusedVariables false
set_option maxRecDepth 20000
def ringC (r:Ring)(lv:Value):List Value:=[.int .i64 r.room,lv,.bool r.lost]
def RingR (T:Tags)(h:Heap)(g:Tag)(p:Nat)(r:Ring):Prop :=
 ∃ lv,h p=some (.cells (ringC r lv).toArray qNZ (0,0))∧T p=g++[0]∧Rw T h (g++[1]) 8 qyZ lv r.l.length (r.l.flatMap evC)
theorem RingR.kp {U:Tag→Prop}{T T':Tags}{h h':Heap}{g:Tag}{p:Nat}{r:Ring}(x:RingR T h g p r)(k:Kp U T h T' h')(o:Off U g):RingR T' h' g p r:=by
 obtain⟨lv,h1,h2,h3⟩:=x
 obtain⟨h4,h5⟩:=k.at h1 h2 (o.at _)
 exact⟨lv,h4,h5,h3.kp k (o.at _)⟩
def feedG (kv vv:Value)(q:Nat→Value):Nat→Value
 | 0=>kv
 | 1=>vv
 | k+2=>q k
def feedC (kv vv:Value)(q:Nat→Value):List Value:=(List.range 10).map (feedG kv vv q)
abbrev ptr (b:Nat):Value:=.pointer (some ⟨b,0,none⟩)
def FeedR (T:Tags)(h:Heap)(g:Tag)(p:Nat)(f:Feed):Prop :=
 ∃ (kv vv:Value) (q:Nat→Nat),h p=some (.cells (feedC kv vv fun j=>ptr (q j)).toArray qeiZ (0,0))∧T p=g++[0]∧Sl 1 StrR (fz T h) kv (f.ws.map (·.1))∧Sl 1 MaskR (fz T h) vv (f.ws.map (·.2)) ∧
  (∀ j,j<8→RingR T h (g++[1,j]) (q j) (f.qs j))∧Sn kv∧Sn vv
theorem FeedR.kp {U:Tag→Prop}{T T':Tags}{h h':Heap}{g:Tag}{p:Nat}{f:Feed}(x:FeedR T h g p f)(k:Kp U T h T' h')(o:Off U g)(n:¬ U []):FeedR T' h' g p f:=by
 obtain⟨kv,vv,q,h1,h2,h3,h4,h5,h5s⟩:=x
 obtain⟨h6,h7⟩:=k.at h1 h2 (o.at _)
 exact⟨kv,vv,q,h6,h7,h3.ext (@StrR.ext) (k.ext n),h4.ext (@MaskR.ext) (k.ext n),fun j hj=>(h5 j hj).kp k (o.app _),h5s⟩
structure SV where
 sk:Value
 sv:Value
 bk:Value
 bv:Value
 fp:Nat
def strC (x:Strp)(y:SV):List Value:=[.int .i64 x.who,.int .u64 x.v,.int .u64 x.bound,y.sk,y.sv,y.bk,y.bv,ptr y.fp]
def StrpR (T:Tags)(h:Heap)(g:Tag)(x:Strp)(y:SV):Prop:=BookR (fz T h) y.sk y.sv x.snap∧BookR (fz T h) y.bk y.bv x.book∧FeedR T h g y.fp x.feed
theorem StrpR.kp {U:Tag→Prop}{T T':Tags}{h h':Heap}{g:Tag}{x:Strp}{y:SV}(r:StrpR T h g x y)(k:Kp U T h T' h')(o:Off U g)(n:¬ U []):StrpR T' h' g x y :=
 ⟨r.1.ext (k.ext n),r.2.1.ext (k.ext n),r.2.2.kp k o n⟩
def hallC (H:Hall)(sv av:Value):List Value:=[.int .i64 H.c.stripes,.int .i64 H.c.sessions,.int .i64 H.c.queue,.int .i64 H.c.watches,.int .i64 H.c.retries,.int .u64 H.c.epochs,.int .u64 H.c.start,
 .int .u64 H.t.now,.int .u64 H.t.seq,.bool H.t.closed,sv,av]
structure HallX (T:Tags)(h:Heap)(g:Tag)(p:Nat)(H:Hall)(sv av:Value)(Y:Nat→SV):Prop where
 hp:h p=some (.cells (hallC H sv av).toArray qaDZ (0,0))
 tp:T p=g++[0]
 st:Rw T h (g++[1]) 8 qanZ sv H.n (seqF H.n fun i=>strC (H.ss i) (Y i))
 ac:Rw T h (g++[2]) 3 qbpZ av H.acts.length (H.acts.flatMap actC)
 sr:∀ i,i<H.n→StrpR T h (g++[3,i]) (H.ss i) (Y i)
def HallR (T:Tags)(h:Heap)(g:Tag)(p:Nat)(H:Hall):Prop:=∃ sv av Y,HallX T h g p H sv av Y
theorem HallR.kp {U:Tag→Prop}{T T':Tags}{h h':Heap}{g:Tag}{p:Nat}{H:Hall}(x:HallR T h g p H)(k:Kp U T h T' h')(o:Off U g)(n:¬ U []):HallR T' h' g p H:=by
 obtain⟨sv,av,Y,x⟩:=x
 obtain⟨h1,h2⟩:=k.at x.hp x.tp (o.at _)
 exact⟨sv,av,Y,h1,h2,x.st.kp k (o.at _),x.ac.kp k (o.at _),fun i hi=>(x.sr i hi).kp k (o.app _) n⟩
theorem bsAct:bsI P qGZ=some (qbpZ,3,#[.int .i64 0,.int .i64 0,.int .i64 0]):=by kernel_rfl
theorem unSlAct:P.underlying qGZ=some (.slice qbpZ):=by kernel_rfl
theorem apAct:apC P qbpZ=some (3,24,3):=by kernel_rfl
theorem bdAct (a b c:Int):bdV (binf P qbpZ) [(0,.int .i64 a),(1,.int .i64 b),(2,.int .i64 c)]=some (.agg #[.int .i64 a,.int .i64 b,.int .i64 c]):=by kernel_rfl
theorem zcTime:zc P qzZ=some #[.int .u64 0,.int .u64 0,.bool false]:=by kernel_rfl
theorem zcCfg:zc P qxZ=some #[.int .i64 0,.int .i64 0,.int .i64 0,.int .i64 0,.int .i64 0,.int .u64 0,.int .u64 0]:=by kernel_rfl
theorem bdTime (a:Int):bdV (binf P qzZ) [(0,.int .u64 a)]=some (.agg #[.int .u64 a,.int .u64 0,.bool false]):=by kernel_rfl
theorem bdHall (a b c d e f g t s:Int)(k:Bool):bdV (binf P qaDZ) [(0,.agg #[.int .i64 a,.int .i64 b,.int .i64 c,.int .i64 d,.int .i64 e,.int .u64 f,.int .u64 g]),(1,.agg #[.int .u64 t,.int .u64 s,.bool k])] =
 some (.agg #[.int .i64 a,.int .i64 b,.int .i64 c,.int .i64 d,.int .i64 e,.int .u64 f,.int .u64 g,.int .u64 t,.int .u64 s,.bool k,.slice none 0 0,.slice none 0 0]):=by kernel_rfl
theorem bdStripe (v b:Int)(fp:Option Addr):bdV (binf P qanZ) [(1,.agg #[.int .u64 v,.int .u64 b]),(4,.pointer fp)] =
 some (.agg #[.int .i64 0,.int .u64 v,.int .u64 b,.slice none 0 0,.slice none 0 0,.slice none 0 0,.slice none 0 0,.pointer fp]):=by kernel_rfl
theorem bsStripe:bsI P qbPZ=some (qanZ,8,#[.int .i64 0,.int .u64 0,.int .u64 0,.slice none 0 0,.slice none 0 0,.slice none 0 0,.slice none 0 0,.pointer none]):=by kernel_rfl
theorem unSlStripe:P.underlying qbPZ=some (.slice qanZ):=by kernel_rfl
theorem apStripe:apC P qanZ=some (8,128,8):=by kernel_rfl
theorem bdFeed:bdV (binf P qeiZ) []=some (.agg #[.slice none 0 0,.slice none 0 0,.pointer none,.pointer none,.pointer none,.pointer none,.pointer none,.pointer none,.pointer none,.pointer none]):=by kernel_rfl
theorem bdRing (n:Int):bdV (binf P qNZ) [(0,.int .i64 n)]=some (.agg #[.int .i64 n,.slice none 0 0,.bool false]):=by kernel_rfl
theorem bdCell (n:Int):bdV (binf P qMZ) [(1,.int .u64 n)]=some (.agg #[.int .u64 0,.int .u64 n]):=by kernel_rfl
theorem zcCell:zc P qMZ=some #[.int .u64 0,.int .u64 0]:=by kernel_rfl
theorem zcLatch:zc P qmZ=some #[.int .i64 0]:=by kernel_rfl
theorem bdLatch (n:Int):bdV (binf P qmZ) [(0,.int .i64 n)]=some (.agg #[.int .i64 n]):=by kernel_rfl
theorem bdLatch0:bdV (binf P qmZ) []=some (.agg #[.int .i64 0]):=by kernel_rfl
variable {K:KTy}
theorem within_ok (n lo hi:Int){h:Heap}(hk:K (.bool (decide (lo≤n∧n≤hi))) h):callM P qatZ #[.int .i64 n,.int .i64 lo,.int .i64 hi] h K:=by
 apply quiZ
 unfold qoGZ
 by_cases h1:lo≤n<;>simpa [h1] using hk
theorem place_ok (s w:Int){h:Heap}(hs:0≤s∧s<1000∧0≤w∧w<10)(hk:K (.int .i64 (4*s+w)) h):callM P qbnZ #[.int .i64 s,.int .i64 w] h K:=by
 apply qutZ
 unfold qpQZ
 simp only[bin_mul,bin_add,ov_s,wrap64_id (n:=4*s) (by omega) (by omega),wrap64_id (n:=4*s+w) (by omega) (by omega)]
 exact hk
end Go.Proofs.YtmbningljbcpkaaGreat
namespace Go.Proofs.YtmbningljbcpkaaGreat
open Go Go.Den Go.MapKept
set_option linter.unusedSimpArgs false
set_option linter.unusedVariables false
set_option maxRecDepth 20000
variable {K:KTy}
theorem hashRight_ok (s:ByteArray){h:Heap}(hk:K (.bool (nameB s)) h):callM P qeNZ #[.string s] h K:=by
 apply quwZ
 unfold qpYZ
 have:nameB s=(!decide (s=⟨#[]⟩) && decide ((s.size:Int)≤16)):=by
  unfold nameB; by_cases h0:s.size=0
  ·rw[(str_empty s).2 h0]; rfl
  ·have:¬ s=⟨#[]⟩:=fun e=>h0 ((str_empty s).1 e)
   rw[Bool.eq_iff_iff]; simp[this]; omega
 rw[this] at hk
 simp +contextual -implicitDefEqProofs[-Bool.decide_eq_true]
 exact hk
theorem refName_ok (s:ByteArray){h:Heap}(hk:K (.bool (nameB s)) h):callM P qaKZ #[.string s] h K:=by
 apply qszZ
 unfold qiCZ
 have:nameB s=(decide ((0:Int)<s.size) && decide ((s.size:Int)<17)):=by
  unfold nameB; rw[← Bool.decide_and]; congr 1; simp; omega
 rw[this] at hk
 simp +contextual -implicitDefEqProofs
 simpa using hk
theorem sessRight_ok (a b c:Int){h:Heap}(hk:K (.bool (decide (0≤a∧a≤255∧1≤b∧b≤9∧0≤c∧c≤9))) h):callM P qplZ #[.int .i64 a,.int .i64 b,.int .i64 c] h K:=by
 apply quxZ
 unfold qpZZ
 simp +contextual -implicitDefEqProofs
 simpa [Bool.decide_and,and_assoc,Bool.and_assoc] using hk
theorem modRight_ok (c:Cfg){h:Heap}(hk:∀ h',Ext h h'→K (.bool (rightB c)) h'):callM P qozZ #[.agg (cfgC c).toArray] h K:=by
 apply qulZ
 unfold qpoZ
 refine nw_agg fun v1 h2 n2 e2 c2=>?_
 simp only[cfgC] at c2
 simp only[faV_p,ov_s,ldV_c,cel_of c2,Nat.zero_add,List.getElem?_toArray,List.getElem?_cons_zero]
 refine within_ok _ _ _ ?_
 unfold qqlZ
 simp +contextual -implicitDefEqProofs[cel_of c2]
 refine gM_call0 (a:=.bool (decide (1≤c.sessions∧c.sessions≤8))) (fun hc K' hk'=>within_ok _ _ _ hk') ?_
 simp +contextual -implicitDefEqProofs[cel_of c2]
 refine gM_call0 (a:=.bool (decide (1≤c.queue∧c.queue≤16))) (fun hc K' hk'=>within_ok _ _ _ hk') ?_
 simp +contextual -implicitDefEqProofs[cel_of c2]
 refine gM_call0 (a:=.bool (decide (1≤c.watches∧c.watches≤8))) (fun hc K' hk'=>within_ok _ _ _ hk') ?_
 simp +contextual -implicitDefEqProofs[cel_of c2]
 refine gM_call0 (a:=.bool (decide (0≤c.retries∧c.retries≤4))) (fun hc K' hk'=>within_ok _ _ _ hk') ?_
 simp +contextual -implicitDefEqProofs[cel_of c2]
 refine kb (hk h2 e2) ?_
 rw[Bool.eq_iff_iff]; simp[rightB]; omega
theorem refRight_ok (c:Cfg){h:Heap}(hk:∀ h',Ext h h'→K (.bool (rightB c)) h'):callM P qfjZ #[.agg (cfgC c).toArray] h K:=by
 apply qrFZ
 unfold qhlZ
 refine nw_agg fun v1 h2 n2 e2 c2=>?_
 simp only[cfgC] at c2
 simp +contextual -implicitDefEqProofs[cel_of c2]
 have:=hk h2 e2
 refine kb this ?_
 rw[Bool.eq_iff_iff]; simp[rightB]; omega
end Go.Proofs.YtmbningljbcpkaaGreat
namespace Go.Den
open Go
set_option linter.unusedVariables false
def fnvX (h b:Int):Int:=IntKind.u64.wrap (BitVec.ofInt 64 h ^^^ BitVec.ofInt 64 b).toNat
def fnvStep (h b:Int):Int:=IntKind.u64.wrap (fnvX h b*1099511628211)
def byteAt (s:ByteArray)(i:Nat):Int:=match s[i]? with
 | some b=>b.toNat
 | none=>0
def fnvTo (s:ByteArray):Nat→Int
 | 0=>14695981039346656037
 | i+1=>fnvStep (fnvTo s i) (byteAt s i)
def fnv (s:ByteArray):Int:=fnvTo s s.size
theorem wrapU_rng (n:Int):0≤IntKind.u64.wrap n∧IntKind.u64.wrap n≤18446744073709551615:=by
 simp only[IntKind.wrap,IntKind.bits,IntKind.signed]
 simp
 omega
theorem wrapU_id {n:Int}(h0:0≤n)(h1:n≤18446744073709551615):IntKind.u64.wrap n=n:=by
 simp only[IntKind.wrap,IntKind.bits,IntKind.signed]
 simp
 omega
theorem andNot1 (b:Int)(hb:U64 b):IntKind.u64.wrap (BitVec.ofInt 64 b &&& ~~~BitVec.ofInt 64 1).toNat=evn b:=by
 obtain⟨n,rfl⟩:∃ n:Nat,b=n:=⟨b.toNat,by have:=hb.1; omega⟩
 have hn:n<18446744073709551616:=by have:=hb.2; omega
 have e:(BitVec.ofInt 64 n &&& ~~~BitVec.ofInt 64 1).toNat=n / 2*2:=by
  rw[BitVec.toNat_and]
  have h0:(BitVec.ofInt 64 (n:Int)).toNat=n:=by simp; omega
  have h1:(~~~BitVec.ofInt 64 1).toNat=(2 ^ 63-1)*2 ^ 1:=by rfl
  rw[h0,h1]
  apply Nat.eq_of_testBit_eq
  intro i
  rw[Nat.testBit_and,Nat.testBit_mul_two_pow,Nat.testBit_two_pow_sub_one,show n / 2*2=(n / 2)*2 ^ 1 by omega,Nat.testBit_mul_two_pow,Nat.testBit_div_two]
  by_cases h:1≤i
  ·rw[show i-1+1=i by omega]
   by_cases h2:i-1<63
   ·simp[h,h2]
   ·have:n.testBit i=false:=Nat.testBit_lt_two_pow (Nat.lt_of_lt_of_le hn (by rw[show 18446744073709551616=2 ^ 64 by rfl]; exact Nat.pow_le_pow_right (by omega) (by omega)))
    simp[this]
  ·simp[h]
 rw[e,wrapU_id (by omega) (by omega)]
 unfold evn; omega
theorem and1 (b:Int)(hb:U64 b):IntKind.u64.wrap (BitVec.ofInt 64 b &&& BitVec.ofInt 64 1).toNat=b % 2:=by
 obtain⟨n,rfl⟩:∃ n:Nat,b=n:=⟨b.toNat,by have:=hb.1; omega⟩
 have hn:n<18446744073709551616:=by have:=hb.2; omega
 have e:(BitVec.ofInt 64 n &&& BitVec.ofInt 64 1).toNat=n % 2:=by
  rw[BitVec.toNat_and]
  have:(BitVec.ofInt 64 (n:Int)).toNat=n:=by simp; omega
  rw[this]
  have:(BitVec.ofInt 64 1).toNat=1:=by rfl
  rw[this,Nat.and_one_is_mod]
 rw[e,wrapU_id (by omega) (by omega)]
 omega
theorem bin_and1 (t:Nat)(c:Bool){b:Int}(hb:U64 b):binV .and t c (.int .u64 b) (.int .u64 1)=some (.int .u64 (b % 2)):=by
 have:binV .and t c (.int .u64 b) (.int .u64 1)=some (.int .u64 (IntKind.u64.wrap (BitVec.ofInt 64 b &&& BitVec.ofInt 64 1).toNat)):=rfl
 rw[this,and1 b hb]
theorem bin_andNot1 (t:Nat)(c:Bool){b:Int}(hb:U64 b):binV .andNot t c (.int .u64 b) (.int .u64 1)=some (.int .u64 (evn b)):=by
 have:binV .andNot t c (.int .u64 b) (.int .u64 1)=some (.int .u64 (IntKind.u64.wrap (BitVec.ofInt 64 b &&& ~~~BitVec.ofInt 64 1).toNat)):=rfl
 rw[this,andNot1 b hb]
theorem bin_fnvX (t:Nat)(c:Bool)(a b:Int):binV .xor t c (.int .u64 a) (.int .u64 b)=some (.int .u64 (fnvX a b)):=rfl
theorem fnv_rng (s:ByteArray):0≤fnv s∧fnv s≤18446744073709551615:=by
 unfold fnv
 cases s.size with
 | zero=>simp[fnvTo]
 | succ n=>exact wrapU_rng _
def stripeOf (s:ByteArray)(n:Int):Int:=if n<1 then 0 else fnv s % n
def late (now until_:Int):Bool:=decide (until_≤now)
def better (a b:Sess):Bool:=decide (b.pr<a.pr) || (decide (a.pr=b.pr) && decide (a.id<b.id))
def ofStep (now:Int)(x:Sess × Nat)(s:Sess):Sess × Nat:=if late now s.un then x else (if x.2=0 || better s x.1 then s else x.1,x.2+1)
def ofAcc (l:List Sess)(now:Int):Sess × Nat:=l.foldl (ofStep now) (⟨0,0,0,0⟩,0)
def presOf (l:List Sess)(now:Int):Pres:=⟨(ofAcc l now).1.st,(ofAcc l now).1.pr,(ofAcc l now).2⟩
def ent0:Ent:=⟨[],⟨0,0,0⟩⟩
def entOf:Book→ByteArray→Ent
 | [],_=>ent0
 | (k,e)::r,u=>if k=u then e else entOf r u
def presB (b:Book)(u:ByteArray)(now:Int):Pres:=presOf (entOf b u).ss now
structure RP where
 who:Int
 users:List ByteArray
 of:Int
 ss:List Nat
 ph:Int
 at_:Nat
 tries:Int
 ep:Nat→Int
 valid:Bool
 spent:Bool
 seen:Int→Option Book
 t:Tm
 looked:Int
 placed:Int
 err:Int
 vals:List Pres
def RP.k (p:RP):Nat:=p.ss.length
def RP.s (p:RP):Nat:=p.ss.getD p.at_ 0
def RP.begin (p:RP):RP:={ p with ph:=0,at_:=0,ep:=fun _=>0,valid:=true,spent:=false,seen:=fun _=>none }
def RP.tell (p:RP)(u:ByteArray):Pres:=presB ((p.seen (stripeOf u p.of)).getD []) u p.t.now
def RP.answer (p:RP):RP:=if p.t.closed then { p with placed:=p.looked,err:=5,vals:=[] } else { p with placed:=p.looked,vals:=p.vals++p.users.map p.tell }
def RP.next (p:RP)(ph:Int):RP:=if p.at_+1<p.k then { p with at_:=p.at_+1 } else { p with ph:=ph,at_:=0 }
def RP.last (p:RP):Bool:=!decide (p.at_+1<p.k)
def RP.judge (p:RP):RP :=
 if p.t.closed || p.valid then { p.answer with ph:=8 }
 else if p.spent || decide (p.tries=0) then { p with ph:=4 }
 else RP.begin { p with tries:=p.tries-1 }
def RP.enabled (p:RP)(H:Hall):Bool:=!decide (p.ph=8) && (!decide (p.ph=4) || decide ((H.ss p.s).who=0))
def epset (f:Nat→Int)(i:Nat)(v:Int):Nat→Int:=fun k=>if k=i then v else f k
def seenset (f:Int→Option Book)(i:Int)(v:Book):Int→Option Book:=fun k=>if k=i then some v else f k
def validB (a b bound:Int):Bool:=decide (a=b) && (decide (a % 2=0) && decide (a<evn bound))
def RP.go (p:RP)(H:Hall)(n:Int):RP × Hall :=
 if p.ph=0 then (RP.next { p with ep:=epset p.ep p.at_ (H.ss p.s).v,spent:=p.spent || decide (evn H.c.epochs≤(H.ss p.s).v) } 1,H.epoch p.who p.s)
 else if p.ph=1 then (RP.next { p with seen:=seenset p.seen p.s (H.ss p.s).snap } 2,H.snap p.who p.s)
 else if p.ph=2 then ({ p with t:=H.t,looked:=n,ph:=3 },H.look p.who)
 else if p.ph=5 then ({ p with t:=H.t,looked:=n,ph:=6,placed:=n },H.look p.who)
 else if p.ph=3 then
  let q:RP:={ p with valid:=p.valid && validB (p.ep p.at_) (H.ss p.s).v H.c.epochs }
  (if q.last then (q.next 8).judge else q.next 8,H.epoch p.who p.s)
 else if p.ph=4 then (p.next 5,H.lock p.who p.s)
 else if p.ph=6 then (RP.next { p with seen:=seenset p.seen p.s (H.ss p.s).book } 7,H.read p.who p.s)
 else (if p.last then (p.next 8).answer else p.next 8,H.unlock p.who p.s)
def RP.step (p:RP)(H:Hall)(n:Int):RP × Hall :=
 if p.enabled H=false then (p,H) else if p.ss=[] then ({ p with err:=1,vals:=[],placed:=n,ph:=8 },H) else p.go H n
end Go.Den
namespace Go.Proofs.YtmbningljbcpkaaGreat
open Go Go.Den Go.MapKept
set_option linter.unusedSimpArgs false
set_option linter.unusedVariables false
set_option maxRecDepth 20000
theorem st_byte {s:ByteArray}{i:Nat}(hi:i<s.size){k:IntKind}:stV (.string s) (.int k i)=some (.int .u8 (byteAt s i)):=by
 have:s[i]?=some s[i]:=by simp[hi]
 simp -implicitDefEqProofs[stV,byteAt,this]
theorem byte_rng (s:ByteArray)(i:Nat):0≤byteAt s i∧byteAt s i≤255:=by
 unfold byteAt
 split
 ·rename_i b _; have:=b.toNat_lt; omega
 ·omega
variable {K:KTy}
theorem hashOf_ok (s : ByteArray) (hs : s.size ≤ maxLen) {h : Heap} (hk : K (.int .u64 (fnv s)) h) : callM P qrCZ #[.string s] h K := by
  apply quQZ
  unfold qtdZ
  rw [seqM_eq]
  unfold qtMZ
  simp -implicitDefEqProofs only [lnV_t, ov_s]
  refine loop_on [0, 5, 6] (fun t h' => h' = h ∧ ∃ i : Nat, i ≤ s.size ∧ t 7 = .int .i64 i ∧ t 3 = .int .u64 (fnvTo s i)) (fun t _ => (s.size - num (t 7)).toNat) ⟨rfl, 0, by omega, rfl, rfl⟩ ?_
  rintro t h1 hf ⟨rfl, i, hi, t7, t3⟩
  have t0 : t 0 = .string s := by simpa using hf 0 (by simp)
  have t5 : t 5 = .string s := by simpa using hf 5 (by simp)
  have t6 : t 6 = .int .i64 s.size := by simpa using hf 6 (by simp)
  unfold maxLen at hs
  unfold qtLZ
  simp -implicitDefEqProofs only [t7, t6, bin_lss, ov_s, cd_b]
  refine ⟨fun hc => ?_, fun hc => ?_⟩
  · have hlt : i < s.size := by have : ((i : Int) < s.size) := by simpa using hc
                                omega
    have hb := byte_rng s i
    unfold qtKZ
    have hw : IntKind.i64.wrap ((i : Int) + 1) = i + 1 := wrap64_id (by omega) (by omega)
    simp -implicitDefEqProofs [t0, t7, t3, st_byte hlt, wrapU_id (n := byteAt s i) (by omega) (by omega), bin_fnvX, hw, t5, t6]
    exact ⟨⟨i + 1, by omega, by simp, by simp [fnvTo, fnvStep]⟩, by omega⟩
  · have : i = s.size := by have : ¬ ((i : Int) < s.size) := by simpa using hc
                            omega
    subst this
    simp -implicitDefEqProofs [t3]
    exact hk
theorem stripe_ok (s:ByteArray)(n:Int)(hn:n≤1000)(hs:s.size≤maxLen){h:Heap}(hk:K (.int .i64 (stripeOf s n)) h):callM P qoAZ #[.string s,.int .i64 n] h K:=by
 apply qunZ
 unfold qprZ
 simp -implicitDefEqProofs only[bin_lss,ov_s,cd_b]
 refine⟨fun hc=>?_,fun hc=>?_⟩
 ·have:n<1:=by simpa using hc
  simpa [stripeOf,this] using hk
 ·have hn1:¬ n<1:=by simpa using hc
  unfold qqoZ
  refine hashOf_ok s hs ?_
  have hf:=fnv_rng s
  have hm:(fnv s).tmod n=fnv s % n:=Int.tmod_eq_emod_of_nonneg hf.1
  have hl:=Int.emod_nonneg (fnv s) (show n≠0 by omega)
  have hu:=Int.emod_lt_of_pos (fnv s) (show 0<n by omega)
  simp -implicitDefEqProofs[wrapU_id (n:=n) (by omega) (by omega),show n≠0 by omega,hm,wrap64_id (n:=fnv s % n) (by omega) (by omega)]
  simpa [stripeOf,hn1] using hk
theorem stripeOf_rng (s:ByteArray){n:Int}(hn:1≤n):0≤stripeOf s n∧stripeOf s n<n:=by
 unfold stripeOf
 rw[if_neg (by omega)]
 exact⟨Int.emod_nonneg _ (by omega),Int.emod_lt_of_pos _ (by omega)⟩
def cellC (v b:Int):List Value:=[.int .u64 v,.int .u64 b]
theorem cellNew_ok (b:Int)(hb:U64 b){h:Heap}(hk:∀ h',Ext h h'→K (.agg (cellC 0 (evn b)).toArray) h'):callM P qqEZ #[.int .u64 b] h K:=by
 apply quMZ
 unfold qrKZ
 simp -implicitDefEqProofs only[zcCell,nwM_s,bin_andNot1 _ _ hb,ov_s,bdCell]
 intro v1 n1
 simp -implicitDefEqProofs[stm_upd,ld_same,cel_same,over]
 exact hk _ (Ext.upd n1 _)
theorem spent_ok (v b:Int){h:Heap}(hk:∀ h',Ext h h'→K (.bool (decide (b≤v))) h'):callM P qiYZ #[.agg (cellC v b).toArray] h K:=by
 apply qtGZ
 unfold qkqZ
 simp -implicitDefEqProofs only[nwM_s,cells_agg,cellC]
 intro v1 n1
 simp -implicitDefEqProofs[cel_same]
 exact hk _ (Ext.upd n1 _)
theorem writing_ok (v b:Int)(hv:U64 v){h:Heap}(hk:∀ h',Ext h h'→K (.bool (wrt v)) h'):callM P qdWZ #[.agg (cellC v b).toArray] h K:=by
 apply qsvZ
 unfold qiyZ
 simp -implicitDefEqProofs only[nwM_s,cells_agg,cellC]
 intro v1 n1
 simp -implicitDefEqProofs[cel_same,bin_and1 _ _ hv]
 exact kb (hk _ (Ext.upd n1 _)) (by simp[wrt])
theorem tgCell:tagg P qMZ=some (some 2):=by kernel_rfl
theorem begin_ok (v b:Int)(hv:U64 v)(hb:U64 b){h:Heap}(hk:∀ h',Ext h h'→K (.agg (cellC (bgn v b) b).toArray) h'):callM P qiWZ #[.agg (cellC v b).toArray] h K:=by
 apply qtBZ
 unfold qklZ
 refine nw_agg fun v1 h1 n1 e1 c1=>?_
 rw[zcCell]
 refine nw_intro fun v3 h2 n3 e3 c3=>?_
 have hne:=ne_fresh c1 n3
 have c1:=e3 _ _ c1
 rw[seqM_eq]
 unfold qogZ
 simp -implicitDefEqProofs only[ld_box c1 (n:=2) rfl,ov_s]
 refine spent_ok v b fun h3 e4=>?_
 have c1:=e4 _ _ c1
 have c3:=e4 _ _ c3
 have e0:=(e1.trans e3).trans e4
 have n3:=fresh_of e1 n3
 unfold qofZ
 simp -implicitDefEqProofs only[cellC] at c1
 by_cases hbv:b≤v
 ·simp -implicitDefEqProofs[hbv,ld_at c1,cel_of c1,stm_at c1,ld_at c3,cel_of c3,stm_at c3,stm_upd,ld_same,cel_same,over,tgCell]
  exact kv (hk _ (ext_upd n3 e0)) (by simp[cellC,bgn,show ¬ v<b by omega])
 ·simp -implicitDefEqProofs[hbv,ld_at c1,cel_of c1,stm_at c1,stm_upd,ld_same,cel_same,over]
  refine writing_ok v b hv fun h4 e5=>?_
  have c1:=e5 _ _ c1
  have c3:=e5 _ _ c3
  have e0:=e0.trans e5
  unfold qoeZ
  cases hw:wrt v
  ·have:IntKind.u64.wrap (v+1)=v+1:=wrapU_id (by have:=hv.1; omega) (by have:=hb.2; omega)
   simp -implicitDefEqProofs[ld_at c1,cel_of c1,stm_at c1,ld_at c3,cel_of c3,stm_at c3,stm_skip hne,stm_skip (Ne.symm hne),ld_skip hne,ld_skip (Ne.symm hne),cel_skip hne,cel_skip (Ne.symm hne),stm_upd,ld_same,cel_same,over,this,tgCell]
   exact kv (hk _ (ext_upd n1 (ext_upd n3 e0))) (by simp[cellC,bgn,show v<b by omega,hw])
  ·simp -implicitDefEqProofs[ld_at c1,cel_of c1,stm_at c1,ld_at c3,cel_of c3,stm_at c3,stm_upd,ld_same,cel_same,over,tgCell]
   exact kv (hk _ (ext_upd n3 e0)) (by simp[cellC,bgn,hw])
theorem lfree_ok (w:Int){h:Heap}(hk:∀ h',Ext h h'→K (.bool (decide (w=0))) h'):callM P qckZ #[.agg #[.int .i64 w]] h K:=by
 apply qsXZ
 unfold qjmZ
 simp -implicitDefEqProofs only[nwM_s,cells_agg]
 intro v1 n1
 simp -implicitDefEqProofs[cel_same]
 exact hk _ (Ext.upd n1 _)
theorem lowner_ok (w:Int)(hw:-1000000≤w∧w≤1000000){h:Heap}(hk:∀ h',Ext h h'→K (.int .i64 (w-1)) h'):callM P qhgZ #[.agg #[.int .i64 w]] h K:=by
 apply qsAZ
 unfold qiDZ
 simp -implicitDefEqProofs only[nwM_s,cells_agg]
 intro v1 n1
 simp -implicitDefEqProofs[cel_same,wrap64_id (n:=w-1) (by omega) (by omega)]
 exact hk _ (Ext.upd n1 _)
theorem ltake_ok (w who:Int)(hw:-1000≤who∧who≤1000000){h:Heap}(hk:∀ h',Ext h h'→K (.tuple #[.agg #[.int .i64 (if canTake w who then who+1 else w)],.bool (canTake w who)]) h'):callM P qimZ #[.agg #[.int .i64 w],.int .i64 who] h K:=by
 apply qtaZ
 unfold qjpZ
 refine nw_agg fun v1 h1 n1 e1 c1=>?_
 rw[zcLatch]
 refine nw_intro fun v3 h2 n3 e3 c3=>?_
 have hne:=ne_fresh c1 n3
 have c1:=e3 _ _ c1
 have n3:=fresh_of e1 n3
 have e0:=e1.trans e3
 unfold qmXZ qmYZ
 by_cases hw0:who<0
 ·simp -implicitDefEqProofs[hw0,ld_at c1,cel_of c1,stm_at c1,ld_at c3,cel_of c3,stm_at c3,stm_upd,ld_same,cel_same,over]
  exact kv (hk _ (ext_upd n3 e0)) (by simp[canTake,show ¬ 0≤who by omega])
 ·simp -implicitDefEqProofs[hw0,ld_at c1,cel_of c1,stm_at c1,stm_upd,ld_same,cel_same,over]
  refine lfree_ok w fun h4 e5=>?_
  have c1:=e5 _ _ c1
  have c3:=e5 _ _ c3
  have e0:=e0.trans e5
  by_cases hw:w=0
  ·simp -implicitDefEqProofs[hw,ld_at c3,cel_of c3,stm_at c3,stm_upd,ld_same,cel_same,over,bdLatch,wrap64_id (n:=who+1) (by omega) (by omega)]
   exact kv (hk _ (ext_upd n3 e0)) (by simp[canTake,hw,show 0≤who by omega])
  ·simp -implicitDefEqProofs[hw,ld_at c1,cel_of c1,stm_at c1,ld_at c3,cel_of c3,stm_at c3,stm_upd,ld_same,cel_same,over]
   exact kv (hk _ (ext_upd n3 e0)) (by simp[canTake,hw])
theorem lgive_ok (w who:Int)(hw:-1000000≤w∧w≤1000000){h:Heap}(hk:∀ h',Ext h h'→K (.tuple #[.agg #[.int .i64 (if canGive w who then 0 else w)],.bool (canGive w who)]) h'):callM P qinZ #[.agg #[.int .i64 w],.int .i64 who] h K:=by
 apply qtbZ
 unfold qjqZ
 refine nw_agg fun v1 h1 n1 e1 c1=>?_
 rw[zcLatch]
 refine nw_intro fun v3 h2 n3 e3 c3=>?_
 have hne:=ne_fresh c1 n3
 have c1:=e3 _ _ c1
 have n3:=fresh_of e1 n3
 have e0:=e1.trans e3
 simp -implicitDefEqProofs[ld_at c1,cel_of c1,stm_at c1,stm_upd,ld_same,cel_same,over]
 refine lfree_ok w fun h4 e5=>?_
 have c1:=e5 _ _ c1
 have c3:=e5 _ _ c3
 have e0:=e0.trans e5
 unfold qnbZ qmZZ qnaZ
 by_cases hw0:w=0
 ·simp -implicitDefEqProofs[hw0,ld_at c1,cel_of c1,stm_at c1,ld_at c3,cel_of c3,stm_at c3,stm_upd,ld_same,cel_same,over]
  exact kv (hk _ (ext_upd n3 e0)) (by simp[canGive,hw0])
 ·simp -implicitDefEqProofs[hw0,ld_at c1,cel_of c1,stm_at c1,stm_upd,ld_same,cel_same,over]
  refine lowner_ok w hw fun h4 e5=>?_
  have c1:=e5 _ _ c1
  have c3:=e5 _ _ c3
  have e0:=e0.trans e5
  by_cases hg:w-1=who
  ·simp -implicitDefEqProofs[hg,ld_at c3,cel_of c3,stm_at c3,stm_upd,ld_same,cel_same,over,bdLatch0]
   exact kv (hk _ (ext_upd n3 e0)) (by simp[canGive,hw0,hg])
  ·simp -implicitDefEqProofs[hg,ld_at c1,cel_of c1,stm_at c1,ld_at c3,cel_of c3,stm_at c3,stm_upd,ld_same,cel_same,over]
   exact kv (hk _ (ext_upd n3 e0)) (by simp[canGive,hg])
end Go.Proofs.YtmbningljbcpkaaGreat
namespace Go.Proofs.YtmbningljbcpkaaGreat
open Go Go.Den Go.MapKept
set_option linter.unusedSimpArgs false
set_option linter.unusedVariables false
set_option maxRecDepth 20000
variable {K:KTy}
theorem ringNew_ok (room:Int){T:Tags}{h:Heap}(w:Wf T h){g:Tag}(gg:Gd g)(hk:∀ T' h' p,Only (pre g) T h T' h'→RingR T' h' g p (ring0 room)→K (ptr p) h'):callM P qfnZ #[.int .i64 room] h K:=by
 apply qrMZ
 unfold qhqZ
 refine vv_max ?_
 simp -implicitDefEqProofs only[bdRing,ov_s,nwM_s]
 intro p n
 exact hk (tset T p (g++[0])) _ p (Only.new _ w n) ⟨_,upd_same' _ _ _,tset_same _ _ _,Rw.nil _ _ _ _ _⟩
theorem ia_arr {n p o i:Nat}{k:IntKind}(hi:i<n):iaV (some (some n,1)) (.pointer (some ⟨p,o,none⟩)) (.int k i)=some (.pointer (some ⟨p,o+i,none⟩)):=by
 have h1:(0:Int)≤i∧(i:Int)<n:=by omega
 simp -implicitDefEqProofs[iaV,h1]
theorem feed_over {kv vv : Value} {q : Nat → Value} {j : Nat} {x : Value} (hj : j < 8) : over (feedC kv vv q).toArray (2 + j) [x] = (feedC kv vv fun k => if k = j then x else q k).toArray := by
  unfold feedC
  rw [over_map1 (by omega)]
  congr 1
  apply List.map_congr_left
  intro k _
  match k with
  | 0 => simp [feedG]; omega
  | 1 => simp [feedG]; omega
  | k + 2 => simp only [feedG]; by_cases h : k = j
             · subst h; rw [if_pos (by omega), if_pos rfl]
             · rw [if_neg (by omega), if_neg h]
theorem feedC_len (kv vv:Value)(q:Nat→Value):(feedC kv vv q).length=10:=by simp[feedC]
theorem feedC_congr {kv vv:Value}{q q':Nat→Value}(h:∀ k,k<8→q k=q' k):feedC kv vv q=feedC kv vv q':=by
 unfold feedC
 apply List.map_congr_left
 intro k hk
 match k with
 | 0=>rfl
 | 1=>rfl
 | k+2=>simp only[feedG]; exact h k (by have:=List.mem_range.1 hk; omega)
def FeedNewI (T : Tags) (h : Heap) (g : Tag) (p : Nat) (room : Int) (v : Value) (h' : Heap) : Prop := ∃ (T' : Tags) (j : Nat) (q : Nat → Nat), Only (pre g) T h T' h' ∧ h' p = some (.cells (feedC (.slice none 0 0) (.slice none 0 0) fun k => if k < j then ptr (q k) else .pointer none).toArray qeiZ (0, 0)) ∧ T' p = g ++ [0] ∧
      (∀ k, k < j → RingR T' h' (g ++ [1, k]) (q k) (ring0 room)) ∧ j ≤ 8 ∧ v = .int .i64 j
theorem feedNew_ok (room : Int) {T : Tags} {h : Heap} (w : Wf T h) {g : Tag} (gg : Gd g) (hk : ∀ T' h' p, Only (pre g) T h T' h' → FeedR T' h' g p (feed0 room) → K (ptr p) h') : callM P qqFZ #[.int .i64 room] h K := by
  apply quNZ
  unfold qrLZ
  simp -implicitDefEqProofs only [bdFeed, ov_s, nwM_s]
  intro p n
  rw [seqM_eq]
  unfold qsVZ
  refine loop_on [0, 3] (fun s h' => FeedNewI T h g p room (s 7) h') (fun s _ => (8 - num (s 7)).toNat)
    ⟨tset T p (g ++ [0]), 0, fun _ => 0, Only.new _ w n, upd_same' _ _ _, tset_same _ _ _, fun k hk => by omega, by omega, rfl⟩ ?_
  rintro s h1 hf ⟨T1, j, q, o1, hp, tp, hr, hj, s7⟩
  have s0 : s 0 = .int .i64 room := by simpa using hf 0 (by simp)
  have s3 : s 3 = ptr p := by simpa using hf 3 (by simp)
  unfold qsUZ
  simp -implicitDefEqProofs only [s7, bin_lss, ov_s, cd_b]
  refine ⟨fun hc => ?_, fun hc => ?_⟩
  · have hlt : j < 8 := by have : ((j : Int) < 8) := by simpa using hc
                           omega
    unfold qsTZ
    simp -implicitDefEqProofs only [s0, s3, ptr, ncV_p, ov_s, faV_p]
    refine ringNew_ok room o1.wf (gg.app [1, j]) fun T2 h2 p2 o2 r2 => ?_
    unfold qsSZ
    have hp2 := o2.k.at hp tp (not_pre (by simp))
    simp -implicitDefEqProofs only [s7, Nat.zero_add, ia_arr hlt, ov_s, ptr]
    rw [stm_at hp2.1 (by simp) (by simp [feedC_len]; omega) (by simp)]
    simp -implicitDefEqProofs only [cells_p, feed_over hlt]
    have hw : IntKind.i64.wrap ((j : Int) + 1) = j + 1 := wrap64_id (by omega) (by omega)
    simp -implicitDefEqProofs [s7, s0, s3, hw]
    have o3 : Only (fun t => t = g ++ [0]) T2 h2 T2 (upd h2 p (.cells (feedC (.slice none 0 0) (.slice none 0 0) fun k => if k = j then ptr p2 else if k < j then ptr (q k) else .pointer none).toArray qeiZ (0, 0))) := Only.upd o2.wf hp2.1 hp2.2
    refine ⟨?_, by omega⟩
    refine ⟨T2, j + 1, fun k => if k = j then p2 else q k, (o1.trans (o2.mono fun t => pre_trans)).st hp2.1 (by rw [hp2.2]; exact pre_app g _), ?_, hp2.2, fun k hk => ?_, by omega, by simp⟩
    · rw [upd_same']
      congr 3
      apply feedC_congr
      intro k hk
      by_cases e : k = j
      · subst e; simp [ptr]
      · simp -implicitDefEqProofs only [if_neg e, ptr]; by_cases hkj : k < j
        · rw [if_pos hkj, if_pos (by omega)]
        · rw [if_neg hkj, if_neg (by omega)]
    · by_cases e : k = j
      · subst e; simp only [if_true]
        exact r2.kp o3.k (off_eq (by simp))
      · simp -implicitDefEqProofs only [if_neg e]
        exact ((hr k (by omega)).kp o2.k (off_pre (by simp; omega) (by simp; omega))).kp o3.k (off_eq (by simp))
  · have : j = 8 := by have : ¬ ((j : Int) < 8) := by simpa using hc
                       omega
    subst this
    simp -implicitDefEqProofs [s3]
    refine hk T1 h1 p o1 ⟨.slice none 0 0, .slice none 0 0, q, ?_, tp, .inl ⟨rfl, _, _, rfl⟩, .inl ⟨rfl, _, _, rfl⟩, fun k hk => hr k hk, Sn.nil, Sn.nil⟩
    rw [hp]
    congr 3
end Go.Proofs.YtmbningljbcpkaaGreat
namespace Go.Proofs.YtmbningljbcpkaaGreat
open Go Go.Den Go.MapKept
set_option linter.unusedSimpArgs false
set_option linter.unusedVariables false
set_option maxRecDepth 20000
def U02 (g t:Tag):Prop:=t=g++[0]∨t=g++[2]
def U012 (g t:Tag):Prop:=t=g++[0]∨t=g++[1]∨t=g++[2]
theorem U02.up {g t:Tag}(h:U02 g t):U012 g t:=h.elim .inl fun h=>.inr (.inr h)
theorem U012.pre {g t:Tag}(h:U012 g t):Den.pre g t:=by rcases h with rfl | rfl | rfl<;>exact pre_app _ _
theorem U02.one (g:Tag):¬ U02 g (g++[1]):=by rintro (h | h)<;>exact ne_tag (by simp) h
theorem U012.nil (g:Tag):¬ U012 g []:=by rintro (h | h | h)<;>simp at h
theorem U012.off (g:Tag)(i:Nat):Off (U012 g) (g++[3,i]):=fun t ht=>by
 rintro (h | h | h)
 ·exact off_eq (by simp) t ht h
 ·exact off_eq (by simp) t ht h
 ·exact off_eq (by simp) t ht h
variable {K:KTy}
theorem did_ok (who kind place:Int){T:Tags}{h:Heap}{g:Tag}{p:Nat}{H:Hall}(w:Wf T h)(gg:Gd g){sv av:Value}{Y:Nat→SV}(x:HallX T h g p H sv av Y)(hl:H.acts.length<1000000)
  (hk:∀ T' h' av',Only (U02 g) T h T' h'→HallX T' h' g p (H.did who kind place) sv av' Y→K (.tuple #[]) h'):callM P qHZ #[ptr p,.int .i64 who,.int .i64 kind,.int .i64 place] h K:=by
 apply qtZZ
 unfold qmLZ
 have hp:=x.hp
 simp -implicitDefEqProofs only[hallC] at hp
 simp -implicitDefEqProofs[cel_of hp,bdAct]
 refine Rw.app bsAct unSlAct apAct (by omega) (by simp) (by simp) w x.ac (by unfold maxLen; omega) (by omega) (by omega) (app_ne _ _) fun a av' T1 h1 o1 r1=>?_
 have hp1:=o1.k.at x.hp x.tp (ne_tag (by simp))
 have ho:=r1.one
 rw[stm_at hp1.1 (by simp[ho.2]) (by simp[hallC]) (by simp[ho.1,ho.2])]
 have o2:Only (U02 g) T h T1 (upd h1 p (.cells (over (hallC H sv av).toArray 11 av'.cells.toList) qaDZ (0,0))) :=
  (o1.mono fun t e=>.inr e).trans (Only.upd o1.wf hp1.1 (.inl hp1.2))
 refine hk T1 _ av' o2 ⟨?_,hp1.2,x.st.kp o2.k (U02.one g),?_,fun i hi=>(x.sr i hi).kp (o2.mono fun t=>U02.up).k (U012.off g i) (U012.nil g)⟩
 ·rw[upd_same']; simp[ho.2,hallC,over,Hall.did]
 ·have o3:Only (fun t=>t=g++[0]) T1 h1 T1 (upd h1 p (.cells (over (hallC H sv av).toArray 11 av'.cells.toList) qaDZ (0,0))):=Only.upd o1.wf hp1.1 hp1.2
  have:=r1.kp o3.k (ne_tag (by simp))
  simpa [Hall.did,actC] using this
def HallNewI (T:Tags)(h:Heap)(g:Tag)(p:Nat)(c:Cfg)(v:Value)(h':Heap):Prop :=
 ∃ (T':Tags) (i:Nat),Only (pre g) T h T' h'∧HallR T' h' g p (hall0 c i)∧i≤c.stripes.toNat∧v = .int .i64 i
theorem hallNew_ok (c : Cfg) (cw : CfgW c) {T : Tags} {h : Heap} (w : Wf T h) {g : Tag} (gg : Gd g)
    (hk1 : rightB c = true → ∀ T' h' p, Only (pre g) T h T' h' → HallR T' h' g p (hall0 c c.stripes.toNat) → K (.tuple #[ptr p, .int .i64 0]) h')
    (hk2 : rightB c = false → ∀ h', Ext h h' → K (.tuple #[.pointer none, .int .i64 1]) h') : callM P qoOZ #[.agg (cfgC c).toArray] h K := by
  apply quLZ
  unfold qrEZ
  refine nw_agg fun v1 h1 n1 e1 c1 => ?_
  have c1' := c1
  simp -implicitDefEqProofs only [cfgC] at c1
  simp -implicitDefEqProofs [ld_at c1, cel_of c1, stm_at c1, stm_upd, ld_same, cel_same, over]
  have ec : Value.agg #[.int .i64 c.stripes, .int .i64 c.sessions, .int .i64 c.queue, .int .i64 c.watches, .int .i64 c.retries, .int .u64 c.epochs, .int .u64 c.start] = .agg (cfgC c).toArray := rfl
  rw [ec]
  refine modRight_ok c fun h2 e2 => ?_
  have c1 := e2 _ _ c1
  have e0 := e1.trans e2
  unfold qsJZ
  simp -implicitDefEqProofs only [unV_n, ov_s, cd_b]
  refine ⟨fun hr => hk2 (by simpa using hr) _ e0, fun hr => ?_⟩
  have hr : rightB c = true := by simpa using hr
  have hn : 1 ≤ c.stripes ∧ c.stripes ≤ 8 := by simp [rightB] at hr; omega
  unfold qsIZ
  simp -implicitDefEqProofs [ld_at c1, cel_of c1, stm_at c1, stm_upd, ld_same, cel_same, over, bdTime, bdHall]
  have w2 := w.ext e0
  refine nw_tag w2 (g ++ [0]) fun p T3 h3 n3 o3 t3 c3 => ?_
  rw [seqM_eq]
  unfold qsHZ
  have b1 : h2 v1 = _ ∧ T v1 = [] := ⟨c1, w v1 n1⟩
  have b1 := o3.see b1 (not_non _)
  have c1 := b1.1
  simp -implicitDefEqProofs [ld_at c1, cel_of c1, stm_at c1, stm_upd, ld_same, cel_same, over]
  have o0 : Only (pre g) T h T3 h3 := (Only.of_ext w e0).up o3 non_up
  have x0 : HallR T3 h3 g p (hall0 c 0) := ⟨.slice none 0 0, .slice none 0 0, fun _ => ⟨.slice none 0 0, .slice none 0 0, .slice none 0 0, .slice none 0 0, 0⟩, c3, t3, Rw.nil _ _ _ _ _, Rw.nil _ _ _ _ _, fun i hi => by simp [hall0] at hi⟩
  refine loop_on [1, 4, 15] (fun s h' => HallNewI T3 h3 g p c (s 16) h') (fun s _ => (c.stripes.toNat - num (s 16)).toNat) ⟨T3, 0, Only.refl o3.wf, x0, by omega, rfl⟩ ?_
  rintro s h4 hf ⟨T4, i, o4, x4, hi, s16⟩
  have s1 : s 1 = ptr v1 := by simpa using hf 1 (by simp)
  have s4 : s 4 = ptr p := by simpa using hf 4 (by simp)
  have s15 : s 15 = .int .i64 c.stripes := by simpa using hf 15 (by simp)
  have b1 := o4.see b1 gg.nil
  have c1 := b1.1
  unfold qsGZ
  simp -implicitDefEqProofs only [s16, s15, bin_lss, ov_s, cd_b]
  refine ⟨fun hc => ?_, fun hc => ?_⟩
  rotate_left
  · have : i = c.stripes.toNat := by have : ¬ ((i : Int) < c.stripes) := by simpa using hc
                                     omega
    subst this
    simp -implicitDefEqProofs [s4]
    exact hk1 hr T4 h4 p (o0.trans o4) x4
  have hlt : i < c.stripes.toNat := by have : ((i : Int) < c.stripes) := by simpa using hc
                                       omega
  obtain ⟨sv, av, Y, x⟩ := x4
  have bp : h4 p = _ ∧ T4 p = _ := ⟨x.hp, x.tp⟩
  simp -implicitDefEqProofs only [hallC] at bp
  have cp := bp.1
  unfold qsFZ
  simp -implicitDefEqProofs [s1, s4, ld_at c1, cel_of c1, stm_at c1, ld_at cp, cel_of cp, stm_at cp, stm_upd, ld_same, cel_same, over]
  refine cellNew_ok _ cw.u1 fun h5 e5 => ?_
  have w4 := o4.wf
  have o5 : Only non T4 h4 T4 h5 := Only.of_ext w4 e5
  have c1 := e5 _ _ c1
  have bp := o5.see bp (not_non _)
  have cp := bp.1
  unfold qsEZ
  simp -implicitDefEqProofs [s1, s4, ld_at c1, cel_of c1, stm_at c1, ld_at cp, cel_of cp, stm_at cp, stm_upd, ld_same, cel_same, over]
  refine feedNew_ok _ o5.wf (gg.app [3, i]) fun T6 h6 fp o6 r6 => ?_
  have bp := o6.see bp (not_pre (by simp))
  have cp := bp.1
  simp -implicitDefEqProofs [ld_at cp, cel_of cp, stm_at cp, stm_upd, ld_same, cel_same, over, cellC, bdStripe]
  refine bs_one bsStripe (by simp) (by omega) fun sb h7 n7 e7 c7 => ?_
  have o7 : Only non T6 h6 T6 h7 := Only.of_ext o6.wf e7
  have bp := o7.see bp (not_non _)
  have cp := bp.1
  have r7 := r6.kp o7.k (Off.non _) (not_non _)
  refine ⟨by simp [ld_at cp, cel_of cp, stm_at cp, stm_upd, ld_same, cel_same, over], ?_⟩
  have st4 : Rw T6 h6 (g ++ [1]) 8 qanZ sv i _ := (x.st.kp o5.k (not_non _)).kp o6.k (not_pre (by simp))
  have st7 := st4.kp o7.k (not_non _)
  refine Rw.app1 (m := 1) (news := _) unSlStripe apStripe (by omega) o7.wf st7 (cels_one c7 (by simp)) (by simp) (by unfold maxLen; omega) (by omega) fun sv' T8 h8 o8 st8 => ?_
  have bp := o8.see bp (ne_tag (by simp))
  have cp := bp.1
  have ho := st8.one
  have hw : IntKind.i64.wrap ((i : Int) + 1) = i + 1 := wrap64_id (by omega) (by omega)
  simp -implicitDefEqProofs [ld_at cp, cel_of cp, stm_at cp, stm_upd, ld_same, cel_same, over, ho.1, ho.2, s16, s15, s1, s4, hw]
  refine ⟨?_, by omega⟩
  have o9 := fun o' => Only.upd (U := fun t => t = g ++ [0]) (o' := o') o8.wf bp.1 bp.2
  refine ⟨T8, i + 1, ((((o4.up o5 non_up).up o6 fun t => pre_trans).up o7 non_up).up o8 fun t e => e ▸ pre_app _ _).up (o9 _) fun t e => e ▸ pre_app _ _,
    ⟨sv', av, fun k => if k = i then ⟨.slice none 0 0, .slice none 0 0, .slice none 0 0, .slice none 0 0, fp⟩ else Y k, upd_same' _ _ _, bp.2, ?_, ?_, fun k hk => ?_⟩, by omega, by simp⟩
  · have := st8.kp (o9 (.cells #[.int .i64 c.stripes, .int .i64 c.sessions, .int .i64 c.queue, .int .i64 c.watches, .int .i64 c.retries, .int .u64 c.epochs, .int .u64 c.start, .int .u64 c.start, .int .u64 0, .bool false, sv', av] qaDZ (0, 0))).k (ne_tag (by simp))
    simp -implicitDefEqProofs only [hall0]
    rw [seqF_succ]
    have e1 : seqF i (fun k => strC (strp0 c) (if k = i then ⟨.slice none 0 0, .slice none 0 0, .slice none 0 0, .slice none 0 0, fp⟩ else Y k)) = seqF i fun k => strC (strp0 c) (Y k) := seqF_congr fun k hk => by rw [if_neg (by omega)]
    rw [e1]
    simpa [hall0, strC, strp0] using this
  · exact ((((x.ac.kp o5.k (not_non _)).kp o6.k (not_pre (by simp))).kp o7.k (not_non _)).kp o8.k (ne_tag (by simp))).kp (o9 _).k (ne_tag (by simp))
  · have f9 := (o9 (.cells #[.int .i64 c.stripes, .int .i64 c.sessions, .int .i64 c.queue, .int .i64 c.watches, .int .i64 c.retries, .int .u64 c.epochs, .int .u64 c.start, .int .u64 c.start, .int .u64 0, .bool false, sv', av] qaDZ (0, 0))).k
    have a8 : ∀ k, Off (fun t => t = g ++ [1]) (g ++ [3, k]) := fun k => off_eq (by simp)
    have a9 : ∀ k, Off (fun t => t = g ++ [0]) (g ++ [3, k]) := fun k => off_eq (by simp)
    by_cases hki : k = i
    · subst hki
      simp -implicitDefEqProofs only [if_true]
      have := (r7.kp o8.k (a8 _) (by simp)).kp f9 (a9 _) (by simp)
      exact ⟨BookR.nil _, BookR.nil _, this⟩
    · simp -implicitDefEqProofs only [if_neg hki]
      have hki' : k < i := by simp [hall0] at hk; omega
      exact ((((((x.sr k hki').kp o5.k (Off.non _) (not_non _))).kp o6.k (off_pre (by simp; omega) (by simp; omega)) ((gg.app _).nil)).kp o7.k (Off.non _) (not_non _)).kp o8.k (a8 _) (by simp)).kp f9 (a9 _) (by simp)
end Go.Proofs.YtmbningljbcpkaaGreat
namespace Go.Proofs.YtmbningljbcpkaaGreat
open Go Go.Den Go.MapKept
set_option linter.unusedSimpArgs false
set_option linter.unusedVariables false
set_option maxRecDepth 20000
theorem HallR.up {T T':Tags}{h h':Heap}{g:Tag}{p:Nat}{H:Hall}{U:Tag→Prop}(x:HallR T h g p H)(o:Only U T h T' h')(f:Off U g)(n:¬ U []):HallR T' h' g p H:=x.kp o.k f n
theorem strC_len (X:Strp)(y:SV):(strC X y).length=8:=rfl
theorem HallX.lds {T:Tags}{h:Heap}{g:Tag}{p:Nat}{H:Hall}{sv av:Value}{Y:Nat→SV}(x:HallX T h g p H sv av Y){s:Nat}(hs:s<H.n){k:IntKind}:∃ b o,rowOf sv=some b∧h b=some o∧T b=g++[1] ∧
  iaV (some (none,8)) sv (.int k s)=some (.pointer (some ⟨b,s*8,none⟩)) ∧
  ldV (some (some 1)) (.pointer (some ⟨b,s*8,none⟩)) h=some (.agg #[.int .i64 (H.ss s).who]) ∧
  ldV (some (some 2)) (.pointer (some ⟨b,s*8+1,none⟩)) h=some (.agg (cellC (H.ss s).v (H.ss s).bound).toArray) ∧
  ldV (some (some 2)) (.pointer (some ⟨b,s*8+3,none⟩)) h=some (.agg #[(Y s).sk,(Y s).sv]) ∧
  ldV (some (some 2)) (.pointer (some ⟨b,s*8+5,none⟩)) h=some (.agg #[(Y s).bk,(Y s).bv]) ∧
  cel h b (s*8+7)=some (ptr (Y s).fp) ∧
  ldV (some (some 8)) (.pointer (some ⟨b,s*8,none⟩)) h=some (.agg (strC (H.ss s) (Y s)).toArray):=by
 obtain⟨b,h1,h2⟩:=x.st.1.ia (k:=k) hs
 obtain⟨o,ho⟩:=x.st.1.lt b h1
 have hc:∀ off m,off+m≤8→cels h b (s*8+off) m=some (((strC (H.ss s) (Y s)).drop off).take m):=fun off m hm=>by
  rw[x.st.1.cels h1 (o:=s*8+off) (m:=m) (by have:(s+1)*8≤H.n*8:=Nat.mul_le_mul_right _ hs; omega)]
  have:=seqF_at (F:=fun i=>strC (H.ss i) (Y i)) (sz:=8) (fun i _=>strC_len _ _) hs
  rw[← this,List.drop_take,List.take_take,List.drop_drop,Nat.min_eq_left (by omega)]
 refine⟨b,o,h1,ho,x.st.2 b h1,h2,?_,?_,?_,?_,?_,?_⟩
 ·have:=hc 0 1 (by omega); rw[Nat.add_zero] at this; simp[ldV,this,strC]
 ·simp -implicitDefEqProofs[ldV,hc 1 2 (by omega),strC,cellC]
 ·simp -implicitDefEqProofs[ldV,hc 3 2 (by omega),strC]
 ·simp -implicitDefEqProofs[ldV,hc 5 2 (by omega),strC]
 ·have:=hc 7 1 (by omega)
  obtain⟨h3,h4⟩:=cels_get this
  have:=h4 0 (by simp[strC])
  simpa [strC] using this
 ·have:=hc 0 8 (by omega); rw[Nat.add_zero] at this; simp[ldV,this,strC]
theorem HallX.stw {T:Tags}{h:Heap}{g:Tag}{p:Nat}{H:Hall}{sv av:Value}{Y:Nat→SV}(x:HallX T h g p H sv av Y)(w:Wf T h){s b:Nat}(hs:s<H.n)(hb:rowOf sv=some b){off m o:Nat}{v:Value}{X':Strp}{y':SV}
  (eo:o=s*8+off) (hm:v.cells.size=m) (ho:off+m≤8) (h1:v.cells.toList.all (fun u=>u.oneCell')=true) (hc:spl (strC (H.ss s) (Y s)) off v.cells.toList=strC X' y') (hr:StrpR T h (g++[3,s]) X' y') {K:Heap→Prop}
  (hk:∀ h',Only (fun t=>t=g++[1]) T h T h'→HallX T h' g p (H.put s X') sv av (fun k=>if k=s then y' else Y k)→K h'):stM (some m) (.pointer (some ⟨b,o,none⟩)) v h K:=by
 subst eo
 have tb:=x.st.2 b hb
 refine x.st.1.st hb hm (by have:(s+1)*8≤H.n*8:=Nat.mul_le_mul_right _ hs; omega) (List.all_eq_true.1 h1) fun h' hk' hrow=>?_
 obtain⟨ob,hob⟩:=x.st.1.lt b hb
 obtain⟨ob',hob'⟩:=hrow.lt b hb
 have e:h'=upd h b ob':=upd_of hk' hob'
 have o1:Only (fun t=>t=g++[1]) T h T h':=by rw[e]; exact Only.upd w hob tb
 have off3:∀ i,Off (fun t=>t=g++[1]) (g++[3,i]):=fun i=>off_eq (by simp)
 refine hk h' o1 ⟨(o1.k.at x.hp x.tp (ne_tag (by simp))).1,x.tp,⟨?_,x.st.2⟩,x.ac.kp o1.k (ne_tag (by simp)),fun i hi=>?_⟩
 ·rw[seqF_spl (fun i _=>strC_len _ _) hs (by rw[Array.length_toList]; omega)] at hrow
  have:seqF H.n (fset (fun i=>strC (H.ss i) (Y i)) s (spl (strC (H.ss s) (Y s)) off v.cells.toList))=seqF (H.put s X').n fun i=>strC ((H.put s X').ss i) (if i=s then y' else Y i):=by
   refine seqF_congr fun i hi=>?_
   simp -implicitDefEqProofs only[fset,Hall.put,sput]
   by_cases his:i=s
   ·subst his; simp only[if_true]; exact hc
   ·simp -implicitDefEqProofs only[if_neg his]
  rw[this] at hrow
  exact hrow
 ·simp -implicitDefEqProofs only[Hall.put,sput]
  by_cases his:i=s
  ·subst his; simp only[if_true]; exact hr.kp o1.k (off3 _) (by simp)
  ·simp -implicitDefEqProofs only[if_neg his]; exact (x.sr i hi).kp o1.k (off3 _) (by simp)
theorem lc_ne (g:Tag)(gg:Gd g)(s:Tag):¬ (lc=g++s):=by obtain⟨k,r,rfl⟩:=gg; simp
theorem lc_U02 {g:Tag}(gg:Gd g):¬ U02 g lc:=by rintro (h | h)<;>exact lc_ne g gg _ h
theorem U02.pre {g t:Tag}(h:U02 g t):Den.pre g t:=h.up.pre
theorem Only.lst {T:Tags}{h:Heap}{b:Nat}{o o':Obj}(w:Wf T h)(e:h b=some o∧T b=lc):Only (fun t=>t=lc) T h T (upd h b o'):=Only.upd w e.1 e.2
theorem HallR.lst {T:Tags}{h:Heap}{g:Tag}{p:Nat}{H:Hall}(x:HallR T h g p H)(gg:Gd g){b:Nat}{o o':Obj}(w:Wf T h)(e:h b=some o∧T b=lc):HallR T (upd h b o') g p H :=
 x.kp (Only.lst w e).k gg.off (by simp)
end Go.Proofs.YtmbningljbcpkaaGreat
namespace Go.Proofs.YtmbningljbcpkaaGreat
open Go Go.Den Go.MapKept
set_option linter.unusedSimpArgs false
set_option linter.unusedVariables false
set_option maxRecDepth 20000
theorem zcMap:zc P qaZ=some #[.slice none 0 0,.slice none 0 0]:=by kernel_rfl
theorem eq_pre {g s t:Tag}(h:t=g++s):pre g t:=h▸pre_app _ _
variable {K:KTy}
theorem begin2_ok (who:Int){s:Nat}{T:Tags}{h:Heap}{g:Tag}{p:Nat}{H:Hall}(w:Wf T h)(gg:Gd g)(x:HallR T h g p H)(hs:s<H.n)(h8:H.n≤8)(hl:H.acts.length<1000000)(hv:U64 (H.ss s).v)(hb:U64 (H.ss s).bound)
  (hk:∀ T' h',Only (pre g) T h T' h'→HallR T' h' g p (H.begin who s)→K (.tuple #[]) h'):callM P qiTZ #[ptr p,.int .i64 who,.int .i64 s] h K:=by
 apply qtyZ
 unfold qkiZ
 refine place_ok s 2 (by omega) ?_
 unfold qnQZ
 obtain⟨sv,av,Y,x⟩:=x
 refine did_ok who 4 _ w gg x hl fun T2 h2 av2 o2 x2=>?_
 have bp:h2 p=_∧T2 p=_:=⟨x2.hp,x2.tp⟩
 simp -implicitDefEqProofs only[hallC] at bp
 have cp:=bp.1
 obtain⟨b,ob,rb,hb1,tb,ia,l1,l2,l3,l4,l5,l6⟩:=x2.lds (s:=s) (k:=.i64) hs
 unfold qnPZ
 simp -implicitDefEqProofs[ld_at cp,cel_of cp,stm_at cp,stm_upd,ld_same,cel_same,over,ia,l2]
 refine begin_ok _ _ hv hb fun h3 e3=>?_
 have o3:Only non T2 h2 T2 h3:=Only.of_ext o2.wf e3
 have bp:=o3.see bp (not_non _)
 have cp:=bp.1
 have x3:HallX T2 h3 g p (H.did who 4 (4*s+2)) sv av2 Y:=⟨e3 _ _ x2.hp,x2.tp,x2.st.kp o3.k (not_non _),x2.ac.kp o3.k (not_non _),fun i hi=>(x2.sr i hi).kp o3.k (Off.non _) (not_non _)⟩
 unfold qnOZ
 simp -implicitDefEqProofs[ld_at cp,cel_of cp,stm_at cp,stm_upd,ld_same,cel_same,over,ia]
 refine x3.stw o3.wf (off:=1) (X':={ H.ss s with v:=bgn (H.ss s).v (H.ss s).bound }) (y':=Y s) hs rb rfl (by rfl) (by omega) (by simp[cellC,Hall.did]) (by simp[spl,strC,cellC,Hall.did]) (x3.sr s hs) fun h4 o4 x4=>?_
 exact hk T2 h4 (((o2.mono fun _=>U02.pre).up o3 non_up).up o4 fun t=>eq_pre) ⟨sv,av2,_,x4⟩
theorem free_ok {s:Nat}{T:Tags}{h:Heap}{g:Tag}{p:Nat}{H:Hall}(x:HallR T h g p H)(hs:s<H.n)
  (hk:∀ h',Ext h h'→K (.bool (decide ((H.ss s).who=0))) h'):callM P qkbZ #[ptr p,.int .i64 s] h K:=by
 apply qtQZ
 unfold qlwZ
 obtain⟨sv,av,Y,x2⟩:=x
 have cp:=x2.hp
 simp -implicitDefEqProofs only[hallC] at cp
 obtain⟨b,ob,rb,hb1,tb,ia,l1,l2,l3,l4,l5,l6⟩:=x2.lds (s:=s) (k:=.i64) hs
 simp -implicitDefEqProofs[ld_at cp,cel_of cp,stm_at cp,stm_upd,ld_same,cel_same,over,ia,l1]
 exact lfree_ok _ hk
theorem hstripe_ok (u:ByteArray)(hu:u.size≤maxLen){T:Tags}{h:Heap}{g:Tag}{p:Nat}{H:Hall}(x:HallR T h g p H)(hc:H.c.stripes≤8)
  (hk:K (.int .i64 (stripeOf u H.c.stripes)) h):callM P qigZ #[ptr p,.string u] h K:=by
 apply qsNZ
 unfold qjgZ
 obtain⟨sv,av,Y,x2⟩:=x
 have cp:=x2.hp
 simp -implicitDefEqProofs only[hallC] at cp
 simp -implicitDefEqProofs[ld_at cp,cel_of cp,stm_at cp,stm_upd,ld_same,cel_same,over]
 exact stripe_ok u _ (by omega) hu hk
theorem config_ok {T:Tags}{h:Heap}{g:Tag}{p:Nat}{H:Hall}(x:HallR T h g p H)
  (hk:∀ h',Ext h h'→K (.agg (cfgC H.c).toArray) h'):callM P qifZ #[ptr p] h K:=by
 apply qsMZ
 unfold qjfZ
 obtain⟨sv,av,Y,x2⟩:=x
 rw[zcCfg]
 simp -implicitDefEqProofs only[nwM_s]
 intro v1 n1
 have hne:=ne_fresh x2.hp n1
 have cp:=x2.hp
 simp -implicitDefEqProofs only[hallC] at cp
 simp -implicitDefEqProofs[ld_at cp,cel_of cp,stm_at cp,stm_skip hne,stm_skip (Ne.symm hne),ld_skip hne,ld_skip (Ne.symm hne),cel_skip hne,cel_skip (Ne.symm hne),stm_upd,ld_same,cel_same,over]
 exact kv (hk _ (Ext.upd n1 _)) rfl
theorem lock_ok (who:Int){s:Nat}{T:Tags}{h:Heap}{g:Tag}{p:Nat}{H:Hall}(w:Wf T h)(gg:Gd g)(x:HallR T h g p H)(hs:s<H.n)(h8:H.n≤8)(hl:H.acts.length<1000000)(hw:-1000≤who∧who≤1000000)
  (hk:∀ T' h',Only (pre g) T h T' h'→HallR T' h' g p (H.lock who s)→K (.bool (canTake (H.ss s).who who)) h'):callM P qkeZ #[ptr p,.int .i64 who,.int .i64 s] h K:=by
 apply qtTZ
 unfold qlzZ
 obtain⟨sv,av,Y,x⟩:=x
 have cp:=x.hp
 simp -implicitDefEqProofs only[hallC] at cp
 obtain⟨b,ob,rb,hb1,tb,ia,l1,l2,l3,l4,l5,l6⟩:=x.lds (s:=s) (k:=.i64) hs
 simp -implicitDefEqProofs[ld_at cp,cel_of cp,stm_at cp,stm_upd,ld_same,cel_same,over,ia,l1]
 refine ltake_ok _ _ hw fun h1 e1=>?_
 have o1:Only non T h T h1:=Only.of_ext w e1
 unfold qoZZ
 simp -implicitDefEqProofs only[exV_0,exV_1,ov_s,zcLatch]
 refine nw_tag o1.wf lc fun v1 T2 h2 n2 o2 t2 c2=>?_
 simp -implicitDefEqProofs[ld_at c2,cel_of c2,stm_at c2,stm_upd,ld_same,cel_same,over]
 have n0:h v1=none:=o1.fresh n2
 have o0:=(o1.trans o2).own (o':=.cells #[.int .i64 (if canTake (H.ss s).who who then who+1 else (H.ss s).who)] qmZ (0,0)) n0 c2
 have x2:HallX T2 (upd h2 v1 (.cells #[.int .i64 (if canTake (H.ss s).who who then who+1 else (H.ss s).who)] qmZ (0,0))) g p H sv av Y :=
  ⟨(o0.k.at x.hp x.tp (not_non _)).1,(o0.k.at x.hp x.tp (not_non _)).2,x.st.kp o0.k (not_non _),x.ac.kp o0.k (not_non _),fun i hi=>(x.sr i hi).kp o0.k (Off.non _) (not_non _)⟩
 rw[seqM_eq]
 unfold qoYZ
 cases hc:canTake (H.ss s).who who with
 | false =>
  simp -implicitDefEqProofs only[hc] at x2 o0
  unfold qoXZ
  simp -implicitDefEqProofs
  exact kb (hk T2 _ (o0.mono non_up) (by simp only[Hall.lock,hc]; exact⟨sv,av,Y,x2⟩)) hc
 | true =>
  simp -implicitDefEqProofs only[hc,if_true] at x2 o0 ⊢
  have b1:(upd h2 v1 (.cells #[.int .i64 (who+1)] qmZ (0,0))) v1=_∧T2 v1=lc:=⟨upd_same' _ _ _,t2⟩
  simp -implicitDefEqProofs only[cd_b,true_implies]
  refine⟨?_,fun hx=>by cases hx⟩
  unfold qoWZ
  refine place_ok s 1 (by omega) ?_
  unfold qoVZ
  refine did_ok who 5 _ o0.wf gg x2 hl fun T3 h3 av3 o3 x3=>?_
  have b1:=o3.see b1 (lc_U02 gg)
  have c1:=b1.1
  have cp:=x3.hp
  simp -implicitDefEqProofs only[hallC] at cp
  obtain⟨b,ob,rb,hb1,tb,ia,l1,l2,l3,l4,l5,l6⟩:=x3.lds (s:=s) (k:=.i64) hs
  unfold qoUZ
  simp -implicitDefEqProofs[ld_at cp,cel_of cp,stm_at cp,ld_at c1,cel_of c1,stm_at c1,stm_upd,ld_same,cel_same,over,ia]
  refine x3.stw o3.wf (off:=0) (X':={ H.ss s with who:=who+1 }) (y':=Y s) hs rb rfl (by rfl) (by omega) (by simp) (by simp[spl,strC,Hall.did]) (x3.sr s hs) fun h4 o4 x4=>?_
  exact kb (hk T3 h4 (((o0.mono non_up).up o3 fun _=>U02.pre).up o4 fun t=>eq_pre) (by simp only[Hall.lock,hc]; exact⟨sv,av3,_,x4⟩)) hc
theorem unlock_ok (who:Int){s:Nat}{T:Tags}{h:Heap}{g:Tag}{p:Nat}{H:Hall}(w:Wf T h)(gg:Gd g)(x:HallR T h g p H)(hs:s<H.n)(h8:H.n≤8)(hl:H.acts.length<1000000)(hw:-1000000≤(H.ss s).who∧(H.ss s).who≤1000000)
  (hk:∀ T' h',Only (pre g) T h T' h'→HallR T' h' g p (H.unlock who s)→K (.bool (canGive (H.ss s).who who)) h'):callM P qikZ #[ptr p,.int .i64 who,.int .i64 s] h K:=by
 apply qsWZ
 unfold qjlZ
 obtain⟨sv,av,Y,x⟩:=x
 have cp:=x.hp
 simp -implicitDefEqProofs only[hallC] at cp
 obtain⟨b,ob,rb,hb1,tb,ia,l1,l2,l3,l4,l5,l6⟩:=x.lds (s:=s) (k:=.i64) hs
 simp -implicitDefEqProofs[ld_at cp,cel_of cp,stm_at cp,stm_upd,ld_same,cel_same,over,ia,l1]
 refine lgive_ok _ _ hw fun h1 e1=>?_
 have o1:Only non T h T h1:=Only.of_ext w e1
 unfold qmJZ
 simp -implicitDefEqProofs only[exV_0,exV_1,ov_s,zcLatch]
 refine nw_tag o1.wf lc fun v1 T2 h2 n2 o2 t2 c2=>?_
 simp -implicitDefEqProofs[ld_at c2,cel_of c2,stm_at c2,stm_upd,ld_same,cel_same,over]
 have n0:h v1=none:=o1.fresh n2
 have o0:=(o1.trans o2).own (o':=.cells #[.int .i64 (if canGive (H.ss s).who who then 0 else (H.ss s).who)] qmZ (0,0)) n0 c2
 have x2:HallX T2 (upd h2 v1 (.cells #[.int .i64 (if canGive (H.ss s).who who then 0 else (H.ss s).who)] qmZ (0,0))) g p H sv av Y :=
  ⟨(o0.k.at x.hp x.tp (not_non _)).1,(o0.k.at x.hp x.tp (not_non _)).2,x.st.kp o0.k (not_non _),x.ac.kp o0.k (not_non _),fun i hi=>(x.sr i hi).kp o0.k (Off.non _) (not_non _)⟩
 rw[seqM_eq]
 unfold qmIZ
 cases hc:canGive (H.ss s).who who with
 | false =>
  simp -implicitDefEqProofs only[hc] at x2 o0
  unfold qmHZ
  simp -implicitDefEqProofs
  exact kb (hk T2 _ (o0.mono non_up) (by simp only[Hall.unlock,hc]; exact⟨sv,av,Y,x2⟩)) hc
 | true =>
  simp -implicitDefEqProofs only[hc,if_true] at x2 o0 ⊢
  have b1:(upd h2 v1 (.cells #[.int .i64 0] qmZ (0,0))) v1=_∧T2 v1=lc:=⟨upd_same' _ _ _,t2⟩
  simp -implicitDefEqProofs only[cd_b,true_implies]
  refine⟨?_,fun hx=>by cases hx⟩
  unfold qmGZ
  refine place_ok s 1 (by omega) ?_
  unfold qmFZ
  refine did_ok who 6 _ o0.wf gg x2 hl fun T3 h3 av3 o3 x3=>?_
  have b1:=o3.see b1 (lc_U02 gg)
  have c1:=b1.1
  have cp:=x3.hp
  simp -implicitDefEqProofs only[hallC] at cp
  obtain⟨b,ob,rb,hb1,tb,ia,l1,l2,l3,l4,l5,l6⟩:=x3.lds (s:=s) (k:=.i64) hs
  unfold qmEZ
  simp -implicitDefEqProofs[ld_at cp,cel_of cp,stm_at cp,ld_at c1,cel_of c1,stm_at c1,stm_upd,ld_same,cel_same,over,ia]
  refine x3.stw o3.wf (off:=0) (X':={ H.ss s with who:=0 }) (y':=Y s) hs rb rfl (by rfl) (by omega) (by simp) (by simp[spl,strC,Hall.did]) (x3.sr s hs) fun h4 o4 x4=>?_
  exact kb (hk T3 h4 (((o0.mono non_up).up o3 fun _=>U02.pre).up o4 fun t=>eq_pre) (by simp only[Hall.unlock,hc]; exact⟨sv,av3,_,x4⟩)) hc
theorem acts_ok {T:Tags}{h:Heap}{g:Tag}{p:Nat}{H:Hall}(w:Wf T h)(x:HallR T h g p H)(hl:H.acts.length<1000000)
  (hk':∀ v h',Ext h h'→Sl 3 ActR (fz T h') v H.acts→K v h'):callM P qkaZ #[ptr p] h K:=by
 apply qtPZ
 unfold qlvZ
 obtain⟨sv,av,Y,x⟩:=x
 refine bs_none bsAct fun v h1 e1 r1 _ f1=>?_
 have o1:Only non T h T h1:=Only.of_ext w e1
 have cp:=e1 _ _ x.hp
 simp -implicitDefEqProofs only[hallC] at cp
 simp -implicitDefEqProofs[ld_at cp,cel_of cp,stm_at cp,stm_upd,ld_same,cel_same,over]
 have ra:=(x.ac.kp o1.k (not_non _)).1
 have sa:Sl 3 ActR h1 av H.acts:=Row.slE (enc:=actC) (fun _=>rfl) (fun _=>rfl) ra
 exact copy_intro (enc:=actC) (R:=ActR) unSlAct apAct (by omega) w e1 r1 f1 id (fun _ _=>rfl) (fun _=>rfl) sa (by simp[actC]) (by unfold maxLen; omega) (by omega) hk'
end Go.Proofs.YtmbningljbcpkaaGreat
namespace Go.Den
open Go
set_option linter.unusedVariables false
variable {P:Program}{g:Nat→Bool}
def It (P:Program)(gf:FuncId)(lb:Array Value)(xs:List (Array Value))(hA:Heap):Prop :=
 ∀ (yv:Value) (I:Nat→Heap→Prop) (S:Heap→Prop) (h:Heap) (K:KTy),(∀ i h',I i h'→Ext hA h')→(∀ i h' h'',I i h'→Ext h' h''→I i h'')→I 0 h →
  (∀ i (hi:i<xs.length) h' (K':KTy),I i h'→(∀ h'',I (i+1) h''→K' (.bool true) h'')→(∀ h'',S h''→K' (.bool false) h'') →
   nxM P (do let d ← Deferred.ofValue yv xs[i]; invoke d.target d.args) h' K') →
  (∀ v h',I xs.length h'→K v h')→(∀ v h',S h'→K v h')→callM P gf (#[yv]++lb) h K
theorem getD_fold {ps:List Tmp}:∀ {xs:List Value} {tmps:Array Value} {s:Env},(∀ i,tmps.getD i undef=s i)→(ps.all fun t=>Nat.blt t tmps.size)=true →
  (∀ i,((ps.zip xs).foldl (fun tmps (x:Tmp × Value)=>tmps.setIfInBounds x.1 x.2) tmps).getD i undef=puts s (ps.zip xs) i)∧((ps.zip xs).foldl (fun tmps (x:Tmp × Value)=>tmps.setIfInBounds x.1 x.2) tmps).size=tmps.size:=by
 induction ps with
 | nil=>intro xs tmps s hs _; exact⟨by simpa using hs,by simp⟩
 | cons p ps ih =>
  intro xs tmps s hs hp
  cases xs with
  | nil=>exact⟨by simpa using hs,by simp⟩
  | cons x xs =>
   simp only[List.all_cons,Bool.and_eq_true,Nat.blt_eq] at hp
   simp only[List.zip_cons_cons,List.foldl_cons,puts]
   have h1:∀ i,(tmps.setIfInBounds p x).getD i undef=put s p x i:=fun i=>by
    by_cases hi:i=p
    ·subst hi
     simp[put,hp.1]
    ·have:=hs i
     simp only[Array.getD_eq_getD_getElem?] at this ⊢
     rw[Array.getElem?_setIfInBounds_ne (Ne.symm hi),this]
     have:Nat.beq i p=false:=by cases hh:Nat.beq i p with
      | false=>rfl
      | true=>exact absurd (Nat.eq_of_beq_eq_true hh) hi
     simp[put,this]
   obtain⟨h2,h3⟩:=ih (xs:=xs) h1 (by simpa using hp.2)
   exact⟨h2,by rw[h3]; simp⟩
theorem keep_upd {h:Heap}{l:Nat}{o:Obj}:Keep (some l) h (upd h l o):=fun b x e n=>by rw[upd_ne (fun hb=>n (by rw[hb]))]; exact e
variable {K:KTy}
theorem round_of_den2 (hg:GoodP P g)(hm:P.follows .mixedOrders=true){l:Nat}{fn:FuncId}{tmps:Array Value}{zas bd:Code}{s:Env}{h:Heap}
  (hs:∀ i,tmps.getD i undef=s i) (hf:(fits tmps.size zas && fits tmps.size bd && nrf zas && nrf bd)=true) {QA:Post} (hd:den P g zas [] s h QA)
  (hQA:∀ m2 s2 h2,QA .normal m2 s2 h2→∃ r:Loop,h2 l=some (.loop r)∧r.state = .ready∧∃ QB:Post,den P g bd m2 s2 (upd h2 l (.loop { r with state:=.busy })) QB∧∀ e m4 s4 h4,QB e m4 s4 h4→endM l K e m4 s4 h4)
  (hQN:∀ e m2 s2 h2,e≠.normal→¬ QA e m2 s2 h2):roundM P l fn tmps zas bd h K:=by
 intro w hw
 subst hw
 simp only[Bool.and_eq_true] at hf
 obtain⟨⟨⟨f1,f2⟩,f3⟩,f4⟩:=hf
 refine roundIn_of_wpIn (F:=Fence.wide) trivial (wpIn_mono (den_sound hg hm (n:=tmps.size) (r:=some l) zas [] s _ _ w (.inr f3) f1 ⟨rfl,hs,rfl⟩ hd) ?_)
 intro e a' w' hq
 cases e with
 | normal =>
  obtain⟨m',s',hR',ho,hq⟩:=hq
  obtain⟨r,hl,hst,QB,hb,hQB⟩:=hQA _ _ _ hq
  have hl':w'.heap[l]?=some (.loop r):=hl
  refine⟨_,run_beginRound hl' hst,?_⟩
  rw[← abs_putObj hl'] at hb
  have ho2:Okw w (w'.putObj l (.loop { r with state:=.busy })):=ho.trans ⟨rfl,rfl,rfl,by simp[World.putObj]⟩
  refine wpIn_mono (den_sound hg hm (n:=tmps.size) (r:=some l) bd m' s' _ _ _ (.inr f4) f2 hR' hb) ?_
  intro e2 a2 w2 hq2
  cases e2 with
  | normal =>
   obtain⟨m2,s2,hR2,ho3,hq2⟩:=hq2
   obtain⟨r2,hl2,hk⟩:=hQB _ _ _ _ hq2
   have hl2':w2.heap[l]?=some (.loop r2):=hl2
   refine⟨_,_,run_endRound none hl2',_,rfl,(ho2.trans ho3).trans ⟨rfl,rfl,rfl,by simp[World.putObj]⟩,?_⟩
   rw[abs_putObj hl2']; exact hk
  | ret =>
   obtain⟨m2,s2,hR2,ho3,hq2⟩:=hq2
   obtain⟨r2,hl2,hk⟩:=hQB _ _ _ _ hq2
   have hl2':w2.heap[l]?=some (.loop r2):=hl2
   refine⟨_,_,run_endRound (some .ret) hl2',_,rfl,(ho2.trans ho3).trans ⟨rfl,rfl,rfl,by simp[World.putObj]⟩,?_⟩
   rw[abs_putObj hl2']; exact hk
  | exit id =>
   obtain⟨m2,s2,hR2,ho3,hq2⟩:=hq2
   obtain⟨r2,hl2,hk⟩:=hQB _ _ _ _ hq2
   have hl2':w2.heap[l]?=some (.loop r2):=hl2
   refine⟨_,_,run_endRound (some (.exit id)) hl2',_,rfl,(ho2.trans ho3).trans ⟨rfl,rfl,rfl,by simp[World.putObj]⟩,?_⟩
   rw[abs_putObj hl2']; exact hk
  | goto t=>obtain⟨m2,s2,hR2,ho3,hq2⟩:=hq2; obtain⟨r2,hl2,hk⟩:=hQB _ _ _ _ hq2; exact hk.elim
  | panic c=>exact hq2.elim
  | outgrown=>exact hq2.elim
 | goto t=>obtain⟨_,_,_,_,hk⟩:=hq; exact (hQN _ _ _ _ (by simp) hk).elim
 | ret=>obtain⟨_,_,_,_,hk⟩:=hq; exact (hQN _ _ _ _ (by simp) hk).elim
 | exit id=>obtain⟨_,_,_,_,hk⟩:=hq; exact (hQN _ _ _ _ (by simp) hk).elim
 | panic c=>exact hq.elim
 | outgrown=>exact hq.elim
theorem rf_it (hg:GoodP P g)(hm:P.follows .mixedOrders=true){gv:Value}{gf:FuncId}{lb:Array Value}{xs:List (Array Value)}{hA:Heap}(hgv:gv = .func (.func gf) #[] lb)(hgf:g gf=true)(it:It P gf lb xs hA)
  {ps:Array Tmp} {zas bd:Code} {m:List Nat} {s:Env} {h:Heap} {Q:Post} (J:Nat→Heap→Prop) (S:Exit→Heap→Prop)
  (h0:J 0 h) (hx:∀ i h',J i h'→Ext hA h') (hk:∀ l,h l=none→∀ i h' h'',J i h'→Keep (some l) h' h''→J i h'') (hkS:∀ l,h l=none→∀ e h' h'',S e h'→Keep (some l) h' h''→S e h'')
  (hsz:∀ i (hi:i<xs.length),xs[i].size=ps.size)
  (round:∀ i (hi:i<xs.length) l b h' h2,h l=none→h b=none→J i h'→Keep (some l) h' h2→(∃ o,h2 l=some o)→(∃ o,h2 b=some o) →
   ∃ A:List Nat→Env→Heap→Prop,(∀ m2 s2 h3 h4,A m2 s2 h3→Keep (some l) h3 h4→A m2 s2 h4) ∧
    den P g zas [] (puts s (ps.toList.zip xs[i].toList)) h2 (fun e m2 s2 h3=>e = .normal∧A m2 s2 h3∧h3 l=h2 l∧h3 b=h2 b) ∧
    ∀ m2 s2 h3,A m2 s2 h3→(∃ o,h3 l=some o)→(∃ o,h3 b=some o) →
     den P g bd m2 s2 h3 (fun e _ _ h4=>h4 l=h3 l∧h4 b=h3 b∧match e with
      | .normal=>J (i+1) h4
      | .ret=>S .ret h4
      | .exit id=>S (.exit id) h4
      | _=>False))
  (hend:∀ b h',h b=none→h' b=some (.deferred (some []))→J xs.length h'→Q .normal (b::m) s h')
  (hret:∀ b h',h b=none→h' b=some (.deferred (some []))→S .ret h'→Q .ret (b::m) s h')
  (hexit:∀ id b h',h b=none→h' b=some (.deferred (some []))→S (.exit id) h'→Q (.exit id) (b::m) s h'):rfM P g gv ps zas bd m s h Q:=by
 refine⟨gf,lb,hgv,hgf,fun fn tmps b l hs hf hb hl hlb=>?_⟩
 obtain⟨R,hR⟩:∃ R:Loop,R={ state:=.ready,pending:=none,fn,tmps,params:=ps,assign:=zas,body:=bd,defers:=b }:=⟨_,rfl⟩
 rw[← hR]
 have hfb:fz (fun _=>[]) h=h:=fz_nil h
 let I:Nat→Heap→Prop:=fun i h'=>J i h'∧h' b=some (.deferred (some []))∧h' l=some (.loop R)
 let St:Heap→Prop:=fun h'=>h' b=some (.deferred (some []))∧((∃ r:Loop,h' l=some (.loop r)∧r.state = .done∧r.pending=some .ret∧S .ret h')∨(∃ id,∃ r:Loop,h' l=some (.loop r)∧r.state = .done∧r.pending=some (.exit id)∧S (.exit id) h'))
 have e1:Ext h (upd (upd h b (.deferred (some []))) l (.loop R)):=ext_upd hl (Ext.upd hb _)
 have start:I 0 (upd (upd h b (.deferred (some []))) l (.loop R)):=by
  refine⟨hk l hl 0 h _ h0 fun k o e _=>e1 k o e,?_,upd_same' _ _ _⟩
  rw[upd_ne (Ne.symm hlb),upd_same']
 refine it (.func (.yield l) #[] #[]) I St _ _ (fun i h' hi=>hx i h' hi.1) (fun i h' h'' hi e=>⟨hk l hl i h' h'' hi.1 fun k o ek _=>e k o ek,e _ _ hi.2.1,e _ _ hi.2.2⟩) start ?_ ?_ ?_
 ·intro i hi h' K' hI hK1 hK2
  obtain⟨hJ,hb',hl'⟩:=hI
  have hps:ps=R.params:=by rw[hR]
  refine nx_yield hl' (by rw[hsz i hi,hps]) ?_
  simp only[Bool.and_eq_true] at hf
  obtain⟨⟨⟨⟨f1,f2⟩,f3⟩,f4⟩,f5⟩:=hf
  have hR1:R.params=ps:=hps.symm
  have hR2:R.tmps=tmps:=by rw[hR]
  have hR3:R.assign=zas:=by rw[hR]
  have hR4:R.body=bd:=by rw[hR]
  have hR5:R.state = .ready:=by rw[hR]
  rw[hR1,hR2,hR3,hR4]
  have hfold:(ps.zip xs[i]).foldl (fun tmps (t,a)=>tmps.setIfInBounds t a) tmps=(ps.toList.zip xs[i].toList).foldl (fun tmps (x:Tmp × Value)=>tmps.setIfInBounds x.1 x.2) tmps:=by
   rw[← Array.foldl_toList,Array.toList_zip]
  rw[hfold]
  obtain⟨g1,g2⟩:=getD_fold (ps:=ps.toList) (xs:=xs[i].toList) hs f1
  obtain⟨A,a1,a2,a3⟩:=round i hi l b h' h' hl hb hJ (fun k o e _=>e) ⟨_,hl'⟩ ⟨_,hb'⟩
  refine round_of_den2 hg hm g1 (by rw[g2]; simp[f2,f3,f4,f5]) a2 (fun m2 s2 h2 hq=>?_) (fun e m2 s2 h2 he hq=>he hq.1)
  obtain⟨_,hA2,hl2,hb2⟩:=hq
  have hl2':h2 l=some (.loop R):=by rw[hl2]; exact hl'
  have hb2':h2 b=some (.deferred (some [])):=by rw[hb2]; exact hb'
  refine⟨R,hl2',hR5,_,a3 m2 s2 _ (a1 _ _ _ _ hA2 keep_upd) ⟨_,upd_same' _ _ _⟩ ⟨_,by rw[upd_ne (Ne.symm hlb)]; exact hb2'⟩,fun e m4 s4 h4 hq=>?_⟩
  obtain⟨hl4,hb4,hq⟩:=hq
  rw[upd_same'] at hl4
  rw[upd_ne (Ne.symm hlb)] at hb4
  have hb4':h4 b=some (.deferred (some [])):=by rw[hb4]; exact hb2'
  refine⟨_,hl4,?_⟩
  cases e with
  | normal =>
   refine hK1 _ ⟨hk l hl _ _ _ hq keep_upd,by rw[upd_ne (Ne.symm hlb)]; exact hb4',?_⟩
   rw[upd_same',hR]
  | ret =>
   refine hK2 _ ⟨by rw[upd_ne (Ne.symm hlb)]; exact hb4',.inl ⟨_,upd_same' _ _ _,rfl,rfl,hkS l hl _ _ _ hq keep_upd⟩⟩
  | exit id =>
   refine hK2 _ ⟨by rw[upd_ne (Ne.symm hlb)]; exact hb4',.inr ⟨id,_,upd_same' _ _ _,rfl,rfl,hkS l hl _ _ _ hq keep_upd⟩⟩
  | _=>exact hq.elim
 ·intro v h' hI
  refine⟨R,hI.2.2,by rw[hR]; simp,?_⟩
  have:R.pending=none:=by rw[hR]
  rw[this]
  exact hend b _ hb (by rw[upd_ne (Ne.symm hlb)]; exact hI.2.1) (hk l hl _ _ _ hI.1 keep_upd)
 ·intro v h' hS
  obtain⟨hb',hS⟩:=hS
  rcases hS with ⟨r,hl',hst,hp,hs'⟩ | ⟨id,r,hl',hst,hp,hs'⟩
  ·refine⟨r,hl',by rw[hst]; simp,?_⟩
   rw[hp]
   exact hret b _ hb (by rw[upd_ne (Ne.symm hlb)]; exact hb') (hkS l hl _ _ _ hs' keep_upd)
  ·refine⟨r,hl',by rw[hst]; simp,?_⟩
   rw[hp]
   exact hexit id b _ hb (by rw[upd_ne (Ne.symm hlb)]; exact hb') (hkS l hl _ _ _ hs' keep_upd)
@[simp] theorem retM_1 {P:Program}{rs:List ResultVar}{R:KTy}{b:Nat}{s:Env}{h:Heap}:retM P rs R .ret [b] s h=(h b=some (.deferred (some []))∧resL P s (upd h b (.deferred none)) rs (fun l=>R (tupV l) (upd h b (.deferred none)))):=rfl
end Go.Den
namespace Go.Proofs.YtmbningljbcpkaaGreat
open Go Go.Den Go.MapKept
set_option linter.unusedSimpArgs false
set_option linter.unusedVariables false
set_option maxRecDepth 20000
variable {K:KTy}
theorem late_ok (a b:Int){h:Heap}(hk:K (.bool (late a b)) h):callM P qmkZ #[.int .u64 a,.int .u64 b] h K:=by
 apply quIZ
 unfold qqPZ
 simpa [late] using hk
theorem better_ok (a b:Sess){h:Heap}(hk:∀ h',Ext h h'→K (.bool (better a b)) h'):callM P qoCZ #[.agg (sessC a).toArray,.agg (sessC b).toArray] h K:=by
 apply qurZ
 unfold qpwZ
 refine nw_agg fun v1 h1 n1 e1 c1=>?_
 refine nw_agg fun v3 h2 n3 e3 c3=>?_
 have c1:=e3 _ _ c1
 simp -implicitDefEqProofs only[sessC] at c1 c3
 simp +contextual -implicitDefEqProofs[ld_at c1,cel_of c1,stm_at c1,ld_at c3,cel_of c3,stm_at c3,stm_upd,ld_same,cel_same,over]
 exact kb (hk _ (e1.trans e3)) (by simp[better])
theorem zcSess:zc P qcZ=some #[.int .i64 0,.int .i64 0,.int .i64 0,.int .u64 0]:=by kernel_rfl
theorem zcPres:zc P qiZ=some #[.int .i64 0,.int .i64 0,.int .i64 0]:=by kernel_rfl
theorem zcInt:zc P qqZ=some #[.int .i64 0]:=by kernel_rfl
def liveS (l:List Sess)(now:Int):List Sess:=l.filter fun s=>!late now s.un
def liveX (l:List Sess)(now:Int):List (Array Value):=(liveS l now).map fun s=>#[.agg (sessC s).toArray]
theorem filter_at {α:Type}(p:α→Bool):∀ (l:List α) (k:Nat) (hk:k<l.length),p l[k]=true→(l.filter p)[((l.take k).filter p).length]?=some l[k]
 | x::l,0,_,h=>by simp only[List.getElem_cons_zero] at h; simp[List.filter_cons,h]
 | x::l,k+1,hk,h=>by
  simp -implicitDefEqProofs only[List.getElem_cons_succ] at h ⊢
  have:=filter_at p l k (by simpa using hk) h
  rw[List.take_succ_cons,List.filter_cons,List.filter_cons]
  split
  ·simpa using this
  ·exact this
theorem filter_take {α:Type}(p:α→Bool)(l:List α)(k:Nat)(hk:k<l.length):((l.take (k+1)).filter p).length=((l.take k).filter p).length+if p l[k] then 1 else 0:=by
 rw[List.take_succ_eq_append_getElem hk,List.filter_append,List.length_append]
 congr 1
 simp -implicitDefEqProofs[List.filter_cons]
 split<;>simp
theorem live_it {hA : Heap} {a b : Nat} {v : Value} {now : Int} {l : List Sess} (ca : hA a = some (.cells #[v] qbZ (0, 0))) (cb : hA b = some (.cells #[.int .u64 now] qaoZ (0, 0))) (x : Sl 4 SessR hA v l) :
    It P qmlZ #[ptr a, ptr b] (liveX l now) hA := by
  intro yv I S h K hx hs h0 hround hK1 hK2
  apply qukZ
  unfold qoLZ
  have ca0 := hx _ _ h0 _ _ ca
  have hlen := x.len
  simp -implicitDefEqProofs [ld_at ca0, cel_of ca0, stm_at ca0, stm_upd, ld_same, cel_same, over, hlen]
  refine loop_on [0, 2, 6, 7] (fun s h' => ∃ k : Nat, k ≤ l.length ∧ s 8 = .int .i64 k ∧ I ((l.take k).filter fun s => !late now s.un).length h') (fun s _ => (l.length - num (s 8)).toNat) ⟨0, by omega, rfl, by simpa using h0⟩ ?_
  rintro s h1 hf ⟨k, hk, s8, hI⟩
  have s0 : s 0 = yv := by simpa using hf 0 (by simp)
  have s2 : s 2 = ptr b := by simpa using hf 2 (by simp)
  have s6 : s 6 = v := by simpa using hf 6 (by simp)
  have s7 : s 7 = .int .i64 l.length := by simpa using hf 7 (by simp)
  unfold qqgZ
  simp -implicitDefEqProofs only [s8, s7, bin_lss, ov_s, cd_b]
  refine ⟨fun hc => ?_, fun hc => ?_⟩
  rotate_left
  · have : k = l.length := by have : ¬ ((k : Int) < l.length) := by simpa using hc
                              omega
    subst this
    simp -implicitDefEqProofs
    rw [List.take_length] at hI
    exact hK1 _ _ (by simpa [liveX, liveS] using hI)
  have hlt : k < l.length := by have : ((k : Int) < l.length) := by simpa using hc
                                omega
  have x1 := x.ext (R := SessR) (@SessR.ext) (hx _ _ hI)
  obtain ⟨eb, eo, c, i1, i2, i3⟩ := x1.at (k := .i64) (i := k) (by omega) (by omega)
  simp -implicitDefEqProofs only [Int.toNat_natCast] at i3
  have hmx := x.max
  have hw : IntKind.i64.wrap ((k : Int) + 1) = k + 1 := wrap64_id (by omega) (by omega)
  unfold qqfZ
  simp -implicitDefEqProofs only [s6, s8, i1, ov_s, ldV_n i2, zcSess]
  rw [show c = sessC l[k] from i3]
  refine nw_st rfl rfl (by simp [sessC]) fun v9 h2 n2 e2 c2 => ?_
  simp -implicitDefEqProofs only [sessC, cells_agg] at c2
  have hI2 := hs _ _ _ hI e2
  have cb2 := hx _ _ hI2 _ _ cb
  simp -implicitDefEqProofs [s2, ld_at c2, cel_of c2, stm_at c2, ld_at cb2, cel_of cb2, stm_at cb2, stm_upd, ld_same, cel_same, over]
  refine late_ok _ _ ?_
  unfold qqeZ
  cases hl : late now l[k].un with
  | true =>
    simp -implicitDefEqProofs
    unfold qlEZ
    simp -implicitDefEqProofs [s8, hw, s0, s2, s6, s7]
    refine ⟨⟨k + 1, by omega, by simp, ?_⟩, by omega⟩
    rw [filter_take _ _ _ hlt]
    simpa [hl] using hI2
  | false =>
    have hat := filter_at (fun s => !late now s.un) l k hlt (by simp [hl])
    obtain ⟨hj, hat⟩ := List.getElem?_eq_some_iff.1 hat
    have hj' : ((l.take k).filter fun s => !late now s.un).length < (liveX l now).length := by simpa [liveX, liveS] using hj
    have hx' : (liveX l now)[((l.take k).filter fun s => !late now s.un).length] = #[.agg (sessC l[k]).toArray] := by simp [liveX, liveS, hat]
    simp -implicitDefEqProofs [s0, ld_at c2, cel_of c2, stm_at c2, stm_upd, ld_same, cel_same, over]
    have hr := hround _ hj' h2
    rw [hx'] at hr
    refine hr _ hI2 (fun h3 hI3 => ?_) (fun h3 hS => ?_)
    · simp -implicitDefEqProofs
      unfold qlEZ
      simp -implicitDefEqProofs [s8, hw, s0, s2, s6, s7]
      refine ⟨⟨k + 1, by omega, by simp, ?_⟩, by omega⟩
      rw [filter_take _ _ _ hlt]
      simpa [hl] using hI3
    · simp -implicitDefEqProofs
      unfold qqdZ
      simp -implicitDefEqProofs
      exact hK2 _ _ hS
end Go.Proofs.YtmbningljbcpkaaGreat
namespace Go.Proofs.YtmbningljbcpkaaGreat
open Go Go.Den Go.MapKept
set_option linter.unusedSimpArgs false
set_option linter.unusedVariables false
set_option maxRecDepth 20000
theorem tgPres:tagg P qiZ=some (some 3):=by kernel_rfl
def stepL (x:Sess × Nat)(s:Sess):Sess × Nat:=(if x.2=0 || better s x.1 then s else x.1,x.2+1)
def accL (l:List Sess)(now:Int)(i:Nat):Sess × Nat:=((liveS l now).take i).foldl stepL (⟨0,0,0,0⟩,0)
theorem accL_s {l:List Sess}{now:Int}{i:Nat}(hi:i<(liveS l now).length):accL l now (i+1)=stepL (accL l now i) (liveS l now)[i]:=by
 unfold accL
 rw[List.take_succ_eq_append_getElem hi,List.foldl_append]; rfl
theorem accL_all (l:List Sess)(now:Int):accL l now (liveS l now).length=ofAcc l now:=by
 unfold accL ofAcc liveS
 rw[List.take_length,List.foldl_filter]
 congr 1
 funext x s
 simp -implicitDefEqProofs only[ofStep,stepL]
 cases late now s.un<;>simp
theorem accL_n (l:List Sess)(now:Int):∀ i,i≤(liveS l now).length→(accL l now i).2=i
 | 0,_=>rfl
 | i+1,h=>by rw[accL_s (by omega)]; simp only[stepL]; rw[accL_n l now i (by omega)]
def OfJ (hA h:Heap)(v1 v3 v5:Nat)(l:List Sess)(now:Int)(i:Nat)(h':Heap):Prop:=Ext hA h'∧Ext h h'∧h' v1=some (.cells #[.int .i64 0,.int .i64 0,.int .i64 0] qiZ (0,0)) ∧
 h' v3=some (.cells (sessC (accL l now i).1).toArray qcZ (0,0))∧h' v5=some (.cells #[.int .i64 i] qqZ (0,0))
def OfA (hA h:Heap)(v1 v3 v5:Nat)(l:List Sess)(now:Int)(i:Nat)(s:Sess)(l' b':Nat)(m2:List Nat)(s2:Env)(h3:Heap):Prop :=
 m2=[]∧∃ sb,s2 7=ptr sb∧s2 5=ptr v3∧s2 6=ptr v5∧sb≠l'∧sb≠b'∧h3 sb=some (.cells (sessC s).toArray qcZ (0,0))∧sb≠v3∧sb≠v5∧OfJ hA h v1 v3 v5 l now i h3
variable {K:KTy}
theorem aggOf_ok (l:List Sess)(now:Int){h:Heap}{v:Value}(x:Sl 4 SessR h v l)(hl:l.length<1000000)(hk:∀ h',Ext h h'→K (.agg (presC (presOf l now)).toArray) h'):callM P qhiZ #[v,.int .u64 now] h K:=by
 apply quRZ
 unfold qtqZ
 rw[zcPres,zcSess,zcInt]
 refine nw_tag (wf_nil h) lc fun v1 T1 h1 n1 o1 t1 c1=>?_
 refine nw_tag o1.wf lc fun v3 T3 h3 n3 o3 t3 c3=>?_
 refine nw_tag o3.wf lc fun v5 T5 h5 n5 o5 t5 c5=>?_
 have b1:=o5.see (o3.see ⟨c1,t1⟩ (not_non _)) (not_non _)
 have b3:=o5.see ⟨c3,t3⟩ (not_non _)
 have ne13:v1≠v3:=ne_fresh c1 n3
 have ne15:v1≠v5:=ne_fresh (o3.see ⟨c1,t1⟩ (not_non _)).1 n5
 have ne35:v3≠v5:=ne_fresh c3 n5
 have o0:Only non (fun _=>[]) h T5 h5:=(o1.trans o3).trans o5
 have e0:Ext h h5:=fun b o e=>o0.kp b o e (not_non _)
 have xF:Sl 4 SessR (fz T5 h5) v l:=x.ext (R:=SessR) (@SessR.ext) (by have:=o0.ext (not_non _); rwa [fz_nil] at this)
 simp -implicitDefEqProofs[ld_at c5,cel_of c5,stm_at c5,stm_upd,ld_same,cel_same,over]
 have ec5:upd h5 v5 (.cells #[.int .i64 0] qqZ (0,0))=h5:=(upd_of (fun _ _=>rfl) c5).symm
 rw[ec5,seqM_eq]
 unfold qtNZ
 apply quKZ
 unfold qqRZ
 simp -implicitDefEqProofs only[xF.one.2]
 refine nw_tag o5.wf [] fun a T6 h6 n6 o6 t6 c6=>?_
 refine nw_tag o6.wf [] fun b T7 h7 n7 o7 t7 c7=>?_
 simp -implicitDefEqProofs only[ov_s]
 have b1:=o7.see (o6.see b1 (not_non _)) (not_non _)
 have b3:=o7.see (o6.see b3 (not_non _)) (not_non _)
 have b5:=o7.see (o6.see ⟨c5,t5⟩ (not_non _)) (not_non _)
 have ba:=o7.see ⟨c6,t6⟩ (not_non _)
 have o9:Only non T5 h5 T7 h7:=o6.trans o7
 have xA:Sl 4 SessR (fz T7 h7) v l:=xF.ext (R:=SessR) (@SessR.ext) (o9.ext (not_non _))
 have e7:Ext h h7:=e0.trans fun b o e=>o9.kp b o e (not_non _)
 have n1':h v1=none:=n1
 have n3':h v3=none:=o1.fresh n3
 have n5':h v5=none:=(o1.trans o3).fresh n5
 refine rf_it good mixed rfl (by kernel_rfl) (live_it (hA:=fz T7 h7) (fz_at ba.1 ba.2) (fz_at c7 t7) xA) (OfJ (fz T7 h7) h v1 v3 v5 l now) (fun _ _=>False)
  ⟨fz_ext _ _,e7,b1.1,b3.1,b5.1⟩ (fun i h' hJ=>hJ.1) ?_ (fun _ _ _ _ _ h _=>h) ?_ ?_ ?_ (fun _ _ _ _ h=>h.elim) (fun _ _ _ _ _ h=>h.elim)
 ·intro l' hl' i h' h'' hJ k
  have nl:∀ c o,h7 c=some o→some c≠some l':=fun c o e he=>by cases he; rw[hl'] at e; cases e
  exact⟨fun c o e=>k c o (hJ.1 c o e) (nl c o (fz_ext _ _ c o e)),fun c o e=>k c o (hJ.2.1 c o e) (nl c o (e7 c o e)),k _ _ hJ.2.2.1 (nl _ _ b1.1),k _ _ hJ.2.2.2.1 (nl _ _ b3.1),k _ _ hJ.2.2.2.2 (nl _ _ b5.1)⟩
 ·intro i hi; simp[liveX]
 ·intro i hi l' b' h' h2 hl' hb' hJ k ⟨ol,hol⟩ ⟨ob,hob⟩
  have nl:∀ c o,h7 c=some o→some c≠some l':=fun c o e he=>by cases he; rw[hl'] at e; cases e
  have nb:∀ c o,h7 c=some o→c≠b':=fun c o e he=>by cases he; rw[hb'] at e; cases e
  have hJ2:OfJ (fz T7 h7) h v1 v3 v5 l now i h2:=⟨fun c o e=>k c o (hJ.1 c o e) (nl c o (fz_ext _ _ c o e)),fun c o e=>k c o (hJ.2.1 c o e) (nl c o (e7 c o e)),k _ _ hJ.2.2.1 (nl _ _ b1.1),k _ _ hJ.2.2.2.1 (nl _ _ b3.1),k _ _ hJ.2.2.2.2 (nl _ _ b5.1)⟩
  have hi':i<(liveS l now).length:=by simpa [liveX] using hi
  have hxi:(liveX l now)[i]=#[.agg (sessC (liveS l now)[i]).toArray]:=by simp[liveX]
  rw[hxi]
  refine⟨OfA (fz T7 h7) h v1 v3 v5 l now i (liveS l now)[i] l' b',?_,?_,?_⟩
  ·rintro m2 s2 h3 h4 ⟨rfl,sb,q1,q2,q3,q4,q4',q5,q6,q7,q8⟩ k4
   exact⟨rfl,sb,q1,q2,q3,q4,q4',k4 _ _ q5 (by simpa using q4),q6,q7,⟨fun c o e=>k4 c o (q8.1 c o e) (nl c o (fz_ext _ _ c o e)),fun c o e=>k4 c o (q8.2.1 c o e) (nl c o (e7 c o e)),k4 _ _ q8.2.2.1 (nl _ _ b1.1),k4 _ _ q8.2.2.2.1 (nl _ _ b3.1),k4 _ _ q8.2.2.2.2 (nl _ _ b5.1)⟩⟩
  ·rw[quAZ]
   unfold qtrZ
   rw[zcSess]
   simp -implicitDefEqProofs
   refine nw_st rfl rfl (by simp[sessC]) fun sb h4 n4 e4 c4=>?_
   refine⟨⟨rfl,sb,by simp,by simp,by simp,fun e=>(by subst e; rw[hol] at n4; cases n4),fun e=>(by subst e; rw[hob] at n4; cases n4),c4,fun e=>(by subst e; rw[hJ2.2.2.2.1] at n4; cases n4),fun e=>(by subst e; rw[hJ2.2.2.2.2] at n4; cases n4),?_⟩,by rw[hol,e4 _ _ hol],by rw[hob,e4 _ _ hob]⟩
   exact⟨hJ2.1.trans e4,hJ2.2.1.trans e4,e4 _ _ hJ2.2.2.1,e4 _ _ hJ2.2.2.2.1,e4 _ _ hJ2.2.2.2.2⟩
  ·rintro m2 s2 h3 ⟨rfl,sb,q1,q2,q3,q4,q4',q5,q6,q7,q8⟩ ⟨ol3,hol3⟩ ⟨ob3,hob3⟩
   obtain⟨r1,r2,r3,r4,r5⟩:=q8
   rw[quBZ]
   unfold qtsZ
   have hn:=accL_n l now i (by omega)
   have hlen:(liveS l now).length≤l.length:=List.length_filter_le _ _
   have hw:IntKind.i64.wrap ((i:Int)+1)=i+1:=wrap64_id (by omega) (by omega)
   have hb5:=nb _ _ b5.1
   have hb3:=nb _ _ b3.1
   have hl5:v5≠l':=fun e=>nl _ _ b5.1 (by rw[e])
   have hl3:v3≠l':=fun e=>nl _ _ b3.1 (by rw[e])
   have hst:=accL_s hi'
   rw[show accL l now i=((accL l now i).1,i) from Prod.ext rfl hn] at hst
   have hne:sb≠v3:=q6
   have ax:∀ h4,Ext h3 h4→h4 l'=h3 l'∧h4 b'=h3 b':=fun h4 e=>⟨by rw[hol3,e _ _ hol3],by rw[hob3,e _ _ hob3]⟩
   have finT:∀ h4,Ext h3 h4→(accL l now (i+1)).1=(liveS l now)[i]→∀ h5,h5=upd (upd h4 v3 (.cells (sessC (liveS l now)[i]).toArray qcZ (0,0))) v5 (.cells #[.int .i64 (i+1:Nat)] qqZ (0,0)) →
     h5 l'=h3 l'∧h5 b'=h3 b'∧OfJ (fz T7 h7) h v1 v3 v5 l now (i+1) h5:=fun h4 e hacc h5 e5=>by
    subst e5
    have:=ax h4 e
    refine⟨by rw[upd_ne (Ne.symm hl5),upd_ne (Ne.symm hl3)]; exact this.1,by rw[upd_ne (Ne.symm hb5),upd_ne (Ne.symm hb3)]; exact this.2,fun c o ec=>?_,fun c o ec=>?_,?_,?_,upd_same' _ _ _⟩
    ·have h1:c≠v5:=fun hc=>by
      subst hc
      have:fz T7 h7 c=none:=by unfold fz; rw[if_neg]; rw[b5.2]; simp
      rw[this] at ec; cases ec
     have h2:c≠v3:=fun hc=>by
      subst hc
      have:fz T7 h7 c=none:=by unfold fz; rw[if_neg]; rw[b3.2]; simp
      rw[this] at ec; cases ec
     rw[upd_ne h1,upd_ne h2]; exact e _ _ (r1 _ _ ec)
    ·rw[upd_ne (fun hc=>by subst hc; rw[n5'] at ec; cases ec),upd_ne (fun hc=>by subst hc; rw[n3'] at ec; cases ec)]; exact e _ _ (r2 _ _ ec)
    ·rw[upd_ne ne15,upd_ne ne13]; exact e _ _ r3
    ·rw[upd_ne ne35,upd_same',hacc]
   have finF:∀ h4,Ext h3 h4→(accL l now (i+1)).1=(accL l now i).1→∀ h5,h5=upd h4 v5 (.cells #[.int .i64 (i+1:Nat)] qqZ (0,0)) →
     h5 l'=h3 l'∧h5 b'=h3 b'∧OfJ (fz T7 h7) h v1 v3 v5 l now (i+1) h5:=fun h4 e hacc h5 e5=>by
    subst e5
    have:=ax h4 e
    refine⟨by rw[upd_ne (Ne.symm hl5)]; exact this.1,by rw[upd_ne (Ne.symm hb5)]; exact this.2,fun c o ec=>?_,fun c o ec=>?_,?_,?_,upd_same' _ _ _⟩
    ·have h1:c≠v5:=fun hc=>by
      subst hc
      have:fz T7 h7 c=none:=by unfold fz; rw[if_neg]; rw[b5.2]; simp
      rw[this] at ec; cases ec
     rw[upd_ne h1]; exact e _ _ (r1 _ _ ec)
    ·rw[upd_ne (fun hc=>by subst hc; rw[n5'] at ec; cases ec)]; exact e _ _ (r2 _ _ ec)
    ·rw[upd_ne ne15]; exact e _ _ r3
    ·rw[upd_ne ne35,hacc]; exact e _ _ r4
   rw[seqM_eq]
   have hw5:(↑(i+1:Nat):Int)=i+1:=by omega
   simp -implicitDefEqProofs only[sessC] at q5 r4
   by_cases hi0:i=0
   ·subst hi0
    simp -implicitDefEqProofs[q1,q2,q3,ld_at q5,cel_of q5,stm_at q5,ld_at r4,cel_of r4,stm_at r4,ld_at r5,cel_of r5,stm_at r5,stm_skip ne35,stm_skip (Ne.symm ne35),ld_skip ne35,ld_skip (Ne.symm ne35),cel_skip ne35,cel_skip (Ne.symm ne35),stm_upd,ld_same,cel_same,over,sessC,cel_skip (Ne.symm ne35),stm_skip (Ne.symm ne35),cel_of r5,stm_at r5]
    refine finT h3 (Ext.refl _) (by rw[hst]; simp[stepL]) _ ?_
    rw[upd_comm (Ne.symm ne35)]
    rfl
   ·have hi0':¬ ((i:Int)=0):=by omega
    simp -implicitDefEqProofs[q1,q2,q3,ld_at q5,cel_of q5,stm_at q5,ld_at r4,cel_of r4,stm_at r4,ld_at r5,cel_of r5,stm_at r5,stm_upd,ld_same,cel_same,over,hi0',hi0]
    refine better_ok (liveS l now)[i] (accL l now i).1 fun h4 e4=>?_
    have q5:=e4 _ _ q5
    have r4':=e4 _ _ r4
    have r5':=e4 _ _ r5
    cases hb:better (liveS l now)[i] (accL l now i).1 with
    | true =>
     simp -implicitDefEqProofs[ld_at q5,cel_of q5,stm_at q5,ld_at r4',cel_of r4',stm_at r4',ld_at r5',cel_of r5',stm_at r5',stm_skip ne35,stm_skip (Ne.symm ne35),ld_skip ne35,ld_skip (Ne.symm ne35),cel_skip ne35,cel_skip (Ne.symm ne35),stm_upd,ld_same,cel_same,over,hw]
     refine finT h4 e4 (by rw[hst]; simp[stepL,hb]) _ ?_
     rw[upd_comm (Ne.symm ne35)]
     rfl
    | false =>
     simp -implicitDefEqProofs[ld_at q5,cel_of q5,stm_at q5,ld_at r4',cel_of r4',stm_at r4',ld_at r5',cel_of r5',stm_at r5',stm_upd,ld_same,cel_same,over,hw]
     exact finF h4 e4 (by rw[hst]; simp[stepL,hb,hi0]) _ rfl
 ·intro b' h' hb' hd hJ
  simp -implicitDefEqProofs only[blkM_n,thenM_n]
  obtain⟨r1,r2,r3,r4,r5⟩:=hJ
  have hlx:(liveX l now).length=(liveS l now).length:=by simp[liveX]
  rw[hlx] at r4 r5
  simp -implicitDefEqProofs only[sessC] at r4
  unfold qtOZ
  have nb1:v1≠b':=fun e=>by subst e; rw[b1.1] at hb'; cases hb'
  have bdP:∀ a b c:Int,bdV (binf P qiZ) [(0,.int .i64 a),(1,.int .i64 b),(2,.int .i64 c)]=some (.agg #[.int .i64 a,.int .i64 b,.int .i64 c]):=fun a b c=>by kernel_rfl
  simp -implicitDefEqProofs[ld_at r3,cel_of r3,stm_at r3,ld_at r4,cel_of r4,stm_at r4,ld_at r5,cel_of r5,stm_at r5,stm_upd,ld_same,cel_same,over,bdP,upd_ne (Ne.symm nb1),hd,tgPres,ld_skip nb1]
  refine kv (hk _ ?_) (by rw[presOf,← accL_all,accL_n _ _ _ (Nat.le_refl _)]; rfl)
  intro c o ec
  rw[upd_ne (fun hc=>by subst hc; rw[e7 _ _ ec] at hb'; cases hb'),upd_ne (fun hc=>by subst hc; rw[n1'] at ec; cases ec)]
  exact r2 _ _ ec
end Go.Proofs.YtmbningljbcpkaaGreat
namespace Go.Den
open Go
set_option linter.unusedVariables false
set_option linter.unusedSimpArgs false
def ltS (a b:ByteArray):Bool:=Op.bytesLess a.toList b.toList
theorem bl_irrefl:∀ x:List UInt8,Op.bytesLess x x=false
 | []=>rfl
 | a::x=>by
  have:¬ a<a:=UInt8.lt_irrefl a
  simp[Op.bytesLess,this,bl_irrefl x]
theorem bl_trans:∀ {x y z:List UInt8},Op.bytesLess x y=true→Op.bytesLess y z=true→Op.bytesLess x z=true
 | _,_,[],_,h=>by simp[Op.bytesLess] at h
 | [],_,_::_,_,_=>rfl
 | _::_,[],_,h,_=>by simp[Op.bytesLess] at h
 | a::x,b::y,c::z,h1,h2=>by
  simp only[Op.bytesLess,Bool.or_eq_true,decide_eq_true_eq,Bool.and_eq_true,beq_iff_eq] at *
  rcases h1 with h1 | ⟨rfl,h1⟩
  ·rcases h2 with h2 | ⟨rfl,h2⟩
   ·exact .inl (UInt8.lt_trans h1 h2)
   ·exact .inl h1
  ·rcases h2 with h2 | ⟨rfl,h2⟩
   ·exact .inl h2
   ·exact .inr ⟨rfl,bl_trans h1 h2⟩
theorem bl_total:∀ x y:List UInt8,Op.bytesLess x y=false→Op.bytesLess y x=false→x=y
 | [],[],_,_=>rfl
 | [],_::_,h,_=>by simp[Op.bytesLess] at h
 | _::_,[],_,h=>by simp[Op.bytesLess] at h
 | a::x,b::y,h1,h2=>by
  simp only[Op.bytesLess,Bool.or_eq_false_iff,decide_eq_false_iff_not,Bool.and_eq_false_iff,beq_eq_false_iff_ne] at *
  have hab:a=b:=by
   have h3:=h1.1
   have h4:=h2.1
   rw[UInt8.lt_iff_toNat_lt] at h3 h4
   exact UInt8.toNat_inj.1 (by omega)
  subst hab
  congr 1
  exact bl_total x y (by rcases h1.2 with h | h; exact absurd rfl h; exact h) (by rcases h2.2 with h | h; exact absurd rfl h; exact h)
theorem ltS_irrefl (a:ByteArray):ltS a a=false:=bl_irrefl _
theorem ltS_trans {a b c:ByteArray}(h:ltS a b=true)(k:ltS b c=true):ltS a c=true:=bl_trans h k
theorem ltS_total {a b:ByteArray}(h:ltS a b=false)(k:ltS b a=false):a=b:=str_inj (bl_total _ _ h k)
theorem ltS_asymm {a b:ByteArray}(h:ltS a b=true):ltS b a=false:=by
 cases k:ltS b a with
 | false=>rfl
 | true=>have:=ltS_trans h k; rw[ltS_irrefl] at this; cases this
def SrtK (l:List ByteArray):Prop:=l.Pairwise fun a b=>ltS a b=true
def pos (l:List ByteArray)(u:ByteArray):Nat:=(l.takeWhile fun k=>ltS k u).length
theorem SrtK.at {l:List ByteArray}(s:SrtK l){i j:Nat}(hi:i<j)(hj:j<l.length):ltS (l[i]'(by omega)) l[j]=true:=List.pairwise_iff_getElem.1 s i j (by omega) hj hi
theorem pos_of {l:List ByteArray}(u:ByteArray){i:Nat}(hi:i≤l.length)(h1:∀ k (hk:k<l.length),k<i→ltS l[k] u=true)(h2:∀ (hk:i<l.length),ltS l[i] u=false):pos l u=i:=by
 induction l generalizing i with
 | nil=>simp at hi; subst hi; rfl
 | cons a l ih =>
  unfold pos
  cases i with
  | zero =>
   have:=h2 (by simp)
   simp only[List.getElem_cons_zero] at this
   simp[List.takeWhile_cons,this]
  | succ i =>
   have h0:=h1 0 (by simp) (by omega)
   simp only[List.getElem_cons_zero] at h0
   have:=ih (i:=i) (by simpa using hi) (fun k hk hki=>by have:=h1 (k+1) (by simpa using hk) (by omega); rwa [List.getElem_cons_succ] at this) (fun hk=>by have:=h2 (by simpa using hk); rwa [List.getElem_cons_succ] at this)
   unfold pos at this
   simp[List.takeWhile_cons,h0,this]
theorem pos_spec {l:List ByteArray}(s:SrtK l)(u:ByteArray):pos l u≤l.length∧(∀ k (hk:k<l.length),k<pos l u→ltS l[k] u=true)∧(∀ k (hk:k<l.length),pos l u≤k→ltS l[k] u=false):=by
 induction l with
 | nil=>simp[pos]
 | cons a l ih =>
  have s':SrtK l:=(List.pairwise_cons.1 s).2
  obtain⟨h1,h2,h3⟩:=ih s'
  cases ha:ltS a u with
  | true =>
   have e:pos (a::l) u=pos l u+1:=by simp[pos,List.takeWhile_cons,ha]
   rw[e]
   refine⟨by simpa using h1,fun k hk hkp=>?_,fun k hk hkp=>?_⟩
   ·cases k with
    | zero=>simpa using ha
    | succ k=>rw[List.getElem_cons_succ]; exact h2 k (by simpa using hk) (by omega)
   ·cases k with
    | zero=>omega
    | succ k=>rw[List.getElem_cons_succ]; exact h3 k (by simpa using hk) (by omega)
  | false =>
   have e:pos (a::l) u=0:=by simp[pos,List.takeWhile_cons,ha]
   rw[e]
   refine⟨by omega,fun k hk hkp=>by omega,fun k hk _=>?_⟩
   cases k with
   | zero=>simpa using ha
   | succ k =>
    have hk':k<l.length:=by simpa using hk
    have:=(List.pairwise_cons.1 s).1 l[k] (List.getElem_mem _)
    rw[List.getElem_cons_succ]
    cases hk2:ltS l[k] u with
    | false=>rfl
    | true=>rw[ltS_trans this hk2] at ha; cases ha
theorem mem_pos {l:List ByteArray}(s:SrtK l)(u:ByteArray):u∈l↔∃ h:pos l u<l.length,l[pos l u]=u:=by
 obtain⟨h1,h2,h3⟩:=pos_spec s u
 constructor
 ·intro h
  obtain⟨i,hi,rfl⟩:=List.getElem_of_mem h
  have hip:pos l l[i]=i:=by
   refine pos_of _ (by omega) (fun k hk hki=>s.at hki hi) (fun hk=>ltS_irrefl _)
  exact⟨by rw[hip]; exact hi,by simp only[hip]⟩
 ·rintro⟨h,e⟩; rw[← e]; exact List.getElem_mem _
def keysB (b:Book):List ByteArray:=b.map (·.1)
def hasB (b:Book)(u:ByteArray):Bool:=(keysB b).any fun k=>decide (k=u)
theorem hasB_iff {b:Book}{u:ByteArray}:hasB b u=true↔u∈keysB b:=by simp[hasB]
theorem entOf_mem {b:Book}(s:SrtK (keysB b)){i:Nat}(hi:i<b.length):entOf b b[i].1=b[i].2:=by
 induction b generalizing i with
 | nil=>simp at hi
 | cons x b ih =>
  obtain⟨k,e⟩:=x
  have s':SrtK (keysB b):=(List.pairwise_cons.1 s).2
  cases i with
  | zero=>simp[entOf]
  | succ i =>
   have hi':i<b.length:=by simpa using hi
   have hne:¬ k=b[i].1:=fun h=>by
    have:=(List.pairwise_cons.1 s).1 b[i].1 (List.mem_map_of_mem (List.getElem_mem _))
    rw[h,ltS_irrefl] at this; cases this
   simp only[List.getElem_cons_succ,entOf,if_neg hne]
   exact ih s' hi'
theorem entOf_none {b:Book}{u:ByteArray}(h:u ∉ keysB b):entOf b u=ent0:=by
 induction b with
 | nil=>rfl
 | cons x b ih =>
  obtain⟨k,e⟩:=x
  simp only[keysB,List.map_cons,List.mem_cons,not_or] at h
  simp only[entOf,if_neg (Ne.symm h.1)]
  exact ih h.2
end Go.Den
namespace Go.Proofs.YtmbningljbcpkaaGreat
open Go Go.Den Go.MapKept
set_option linter.unusedSimpArgs false
set_option linter.unusedVariables false
set_option maxRecDepth 20000
variable {K:KTy}
theorem isNaN_ok (a:ByteArray){h:Heap}(hk:K (.bool false) h):callM P qevZ #[.string a] h K:=by
 apply qttZ
 unfold qjEZ
 simpa using hk
theorem sisNaN_ok (a:ByteArray){h:Heap}(hk:K (.bool false) h):callM P qcOZ #[.string a] h K:=by
 apply qrBZ
 unfold qfLZ
 simpa using hk
theorem cmpLess_ok (a b:ByteArray){h:Heap}(hk:K (.bool (ltS a b)) h):callM P qjcZ #[.string a,.string b] h K:=by
 apply qtJZ
 unfold qktZ
 refine isNaN_ok a ?_
 unfold qoyZ
 have e:binV .lss 3 false (.string a) (.string b)=some (.bool (ltS a b)):=rfl
 simp -implicitDefEqProofs[e]
 exact hk
theorem str_at {F:Heap}{v:Value}{l:List ByteArray}(x:Sl 1 StrR F v l){i:Nat}(hi:i<l.length){k:IntKind}:∃ b p,iaV (some (none,1)) v (.int k i)=some (.pointer (some ⟨b,p,none⟩))∧∀ h',Ext F h'→cel h' b p=some (.string l[i]):=by
 obtain⟨b,p,c,h1,h2,h3⟩:=x.at (k:=k) (i:=i) (by omega) (by omega)
 refine⟨b,p,h1,fun h' e=>?_⟩
 have hc:c=[.string l[i]]:=h3.1
 subst hc
 have:=(cels_get (cels_ext e h2)).2 0 (by simp)
 simpa using this
set_option maxHeartbeats 1000000 in
theorem bs_ok (l : List ByteArray) (so : SrtK l) (u : ByteArray) {h : Heap} {v : Value} (x : Sl 1 StrR h v l) (hl : l.length < 1000000) (hk : K (.tuple #[.int .i64 (pos l u), .bool (l.any fun k => decide (k = u))]) h) :
    callM P qLZ #[v, .string u] h K := by
  apply qjHZ
  unfold qaNZ
  have hlen := x.len
  simp -implicitDefEqProofs only [hlen, ov_s]
  rw [seqM_eq]
  unfold qcLZ
  refine loop_on [0, 1, 6] (fun s h' => h' = h ∧ ∃ i j : Nat, i ≤ j ∧ j ≤ l.length ∧ s 7 = .int .i64 i ∧ s 8 = .int .i64 j ∧ (∀ k (hk : k < l.length), k < i → ltS l[k] u = true) ∧ ∀ k (hk : k < l.length), j ≤ k → ltS l[k] u = false)
    (fun s _ => (num (s 8) - num (s 7)).toNat) ⟨rfl, 0, l.length, by omega, by omega, rfl, by simp, fun k _ h => by omega, fun k hk h => by omega⟩ ?_
  rintro s h1 hf ⟨rfl, i, j, hij, hj, s7, s8, hlo, hhi⟩
  have s0 : s 0 = v := by simpa using hf 0 (by simp)
  have s1 : s 1 = .string u := by simpa using hf 1 (by simp)
  have s6 : s 6 = .int .i64 l.length := by simpa using hf 6 (by simp)
  unfold qcKZ
  simp -implicitDefEqProofs only [s7, s8, bin_lss, ov_s, cd_b]
  refine ⟨fun hc => ?_, fun hc => ?_⟩
  · have hlt : i < j := by have : ((i : Int) < j) := by simpa using hc
                           omega
    obtain ⟨m, hm⟩ : ∃ m : Nat, m = (i + j) / 2 := ⟨_, rfl⟩
    have hm1 : i ≤ m ∧ m < j := by omega
    have w1 : IntKind.i64.wrap ((i : Int) + j) = (i + j : Nat) := by rw [wrap64_id (by omega) (by omega)]; omega
    have w2 : IntKind.u64.wrap ((i + j : Nat) : Int) = (i + j : Nat) := wrapU_id (by omega) (by omega)
    have w3 : binV .shr 2 true (.int .u64 ((i + j : Nat) : Int)) (.int .u64 1) = some (.int .u64 m) := by
      have : ((i + j : Nat) : Int).fdiv 2 = m := by rw [Int.fdiv_eq_ediv_of_nonneg _ (by omega)]; omega
      simp -implicitDefEqProofs [binV, intV, IntKind.bits]
      rw [← this]; rfl
    have w4 : IntKind.i64.wrap (m : Int) = m := wrap64_id (by omega) (by omega)
    have w5 : IntKind.i64.wrap ((m : Int) + 1) = m + 1 := wrap64_id (by omega) (by omega)
    obtain ⟨b, p, i1, i2⟩ := str_at x (k := .i64) (i := m) (by omega)
    unfold qcJZ
    simp -implicitDefEqProofs only [s0, s1, s7, s8, bin_add, ov_s, w1, cvV_i, w2, w3, w4, i1, ldV_c, i2 _ (Ext.refl _)]
    refine cmpLess_ok _ _ ?_
    unfold qcIZ qcGZ qcHZ
    cases hlm : ltS l[m] u with
    | true =>
      simp -implicitDefEqProofs [w5, s0, s1, s6, s7, s8]
      refine ⟨⟨m + 1, j, by omega, by omega, by simp, rfl, fun k hk hkm => ?_, hhi⟩, by omega⟩
      by_cases e : k = m
      · subst e; exact hlm
      · exact ltS_trans (so.at (show k < m by omega) (by omega)) hlm
    | false =>
      simp -implicitDefEqProofs [s0, s1, s6, s7, s8]
      refine ⟨⟨i, m, by omega, by omega, rfl, rfl, hlo, fun k hk hkm => ?_⟩, by omega⟩
      by_cases e : k = m
      · subst e; exact hlm
      · cases hh : ltS l[k] u with
        | false => rfl
        | true => rw [ltS_trans (so.at (show m < k by omega) hk) hh] at hlm; cases hlm
  · have : i = j := by have : ¬ ((i : Int) < j) := by simpa using hc
                       omega
    subst this
    have hp : pos l u = i := pos_of u hj (fun k hk hki => hlo k hk hki) (fun hk => hhi i hk (by omega))
    have hany : (l.any fun k => decide (k = u)) = true ↔ u ∈ l := by simp
    have hmem := mem_pos so u
    rw [hp] at hk
    simp -implicitDefEqProofs only [lpM_e, blkM_e, if_true, thenM_n]
    unfold qcMZ
    by_cases hil : i < l.length
    · obtain ⟨b, p, i1, i2⟩ := str_at x (k := .i64) (i := i) hil
      have hil' : (i : Int) < l.length := by omega
      by_cases heq : l[i] = u
      · have : (l.any fun k => decide (k = u)) = true := hany.2 (heq ▸ List.getElem_mem hil)
        simp -implicitDefEqProofs [s0, s1, s6, s7, s8, hil', hil, i1, i2 _ (Ext.refl _), heq]
        rw [this] at hk; exact hk
      · have : (l.any fun k => decide (k = u)) = false := by
          cases hh : (l.any fun k => decide (k = u)) with
          | false => rfl
          | true => obtain ⟨h3, h4⟩ := hmem.1 (hany.1 hh); simp only [hp] at h4; exact absurd h4 heq
        simp -implicitDefEqProofs [s0, s1, s6, s7, s8, hil', hil, i1, i2 _ (Ext.refl _), heq]
        refine sisNaN_ok _ ?_
        rw [this] at hk; exact hk
    · have hil' : ¬ ((i : Int) < l.length) := by omega
      have : (l.any fun k => decide (k = u)) = false := by
        cases hh : (l.any fun k => decide (k = u)) with
        | false => rfl
        | true => obtain ⟨h3, h4⟩ := hmem.1 (hany.1 hh); rw [hp] at h3; exact absurd h3 hil
      simp -implicitDefEqProofs [s0, s1, s6, s7, s8, hil', hil]
      rw [this] at hk; exact hk
theorem zcEnt:zc P qjZ=some #[.slice none 0 0,.int .i64 0,.int .i64 0,.int .i64 0]:=by kernel_rfl
theorem find_ok (l:List ByteArray)(so:SrtK l)(u:ByteArray){h:Heap}{kw vw:Value}(ov_:vw.cells=#[vw])(x:Sl 1 StrR h kw l)(hl:l.length<1000000)(hk:∀ h',Ext h h'→K (.tuple #[.int .i64 (pos l u),.bool (l.any fun k=>decide (k=u))]) h') :
  callM P qDZ #[.agg #[kw,vw],.string u] h K:=by
 apply qloZ
 unfold qbfZ
 refine nw_agg fun v1 h1 n1 e1 c1=>?_
 simp -implicitDefEqProofs[ld_at c1,cel_of c1,stm_at c1,stm_upd,ld_same,cel_same,over]
 refine bs_ok l so u (x.ext (@StrR.ext) e1) hl ?_
 simp -implicitDefEqProofs
 exact hk _ e1
theorem get_ok (b:Book)(so:SrtK (keysB b))(u:ByteArray){F h:Heap}(eF:Ext F h){kw vw:Value}(x:BookR F kw vw b)(hl:b.length<1000000)
  (hk:∀ h' sv,Ext h h'→Sl 4 SessR F sv (entOf b u).ss→Sn sv→K (.tuple #[.agg (sv::presC (entOf b u).told).toArray,.bool (hasB b u)]) h'):callM P qYZ #[.agg #[kw,vw],.string u] h K:=by
 apply qlCZ
 unfold qbsZ
 rw[zcEnt]
 refine nw_agg fun v1 h1 n1 e1 c1=>?_
 refine nw_intro fun v3 h3 n3 e3 c3=>?_
 refine nw_intro fun v5 h5 n5 e5 c5=>?_
 have c1:=e5 _ _ (e3 _ _ c1)
 have ne35:=ne_fresh c3 n5
 have c3:=e5 _ _ c3
 have e0:=(e1.trans e3).trans e5
 have n3:=fresh_of e1 n3
 simp -implicitDefEqProofs[ld_at c1,cel_of c1,stm_at c1,stm_upd,ld_same,cel_same,over]
 refine find_ok (keysB b) so u x.2.1.one.2 (x.1.ext (@StrR.ext) (eF.trans e0)) (by simpa [keysB] using hl) fun h6 e6=>?_
 have c1:=e6 _ _ c1
 have c3:=e6 _ _ c3
 have c5:=e6 _ _ c5
 have e0:=e0.trans e6
 unfold qdPZ
 simp -implicitDefEqProofs only[exV_0,exV_1,ov_s,unV_n,cd_b]
 refine⟨fun hn=>?_,fun hy=>?_⟩
 ·have hno:u ∉ keysB b:=fun hh=>by
   have:=hasB_iff.2 hh
   unfold hasB at this
   rw[this] at hn; cases hn
  unfold qdNZ
  simp -implicitDefEqProofs[ld_at c3,cel_of c3,stm_at c3,ld_at c5,cel_of c5,stm_at c5,stm_upd,ld_same,cel_same,over]
  have he:=entOf_none hno
  refine kv (hk _ (.slice none 0 0) (ext_upd n3 e0) (by rw[he]; exact .inl ⟨rfl,_,_,rfl⟩) Sn.nil) ?_
  have:hasB b u=false:=by
   cases hh:hasB b u with
   | false=>rfl
   | true=>exact absurd (hasB_iff.1 hh) hno
  rw[he,this]; rfl
 ·have hyes:hasB b u=true:=by
   unfold hasB
   simpa using hy
  obtain⟨h1,h2⟩:=(mem_pos so u).1 (hasB_iff.1 hyes)
  have hlen:(keysB b).length=b.length:=by simp[keysB]
  have hp:pos (keysB b) u<b.length:=by omega
  have hu:b[pos (keysB b) u].1=u:=by simpa [keysB] using h2
  have he:entOf b u=b[pos (keysB b) u].2:=by
   have:=entOf_mem so hp
   rw[hu] at this; exact this
  obtain⟨eb,eo,c,i1,i2,sv,i3,i4,i5⟩:=x.2.1.at (k:=.i64) (i:=pos (keysB b) u) (by omega) (by simpa using hp)
  simp -implicitDefEqProofs only[Int.toNat_natCast,List.getElem_map] at i3 i4
  have i2:=cels_ext (eF.trans e0) i2
  rw[← he] at i3 i4
  subst i3
  unfold qdOZ
  simp -implicitDefEqProofs only[presC] at i2
  simp -implicitDefEqProofs[ld_at c1,cel_of c1,stm_at c1,ld_at c3,cel_of c3,stm_at c3,stm_upd,ld_same,cel_same,over,i1,ldV_n i2,i4.one.1,i4.one.2]
  refine kv (hk _ sv (ext_upd n3 e0) i4 i5) ?_
  rw[hyes]; rfl
end Go.Proofs.YtmbningljbcpkaaGreat
namespace Go.Proofs.YtmbningljbcpkaaGreat
open Go Go.Den Go.MapKept
set_option linter.unusedSimpArgs false
set_option linter.unusedVariables false
set_option maxRecDepth 20000
theorem all_succ {α:Type}{p:α→Bool}{l:List α}{i:Nat}(h:i<l.length)(ha:(l.take i).all p=true)(hn:p l[i]=true):(l.take (i+1)).all p=true:=by
 rw[List.take_succ_eq_append_getElem h,List.all_append,ha]; simp[hn]
variable {K:KTy}
set_option maxHeartbeats 1000000 in
theorem modBad_ok (x : OpD) (xw : OpW x) {h : Heap} {v : Value} (hv : Sl 1 StrR h v x.users) (hl : x.users.length < 1000000)
    (hk : ∀ h', Ext h h' → K (.bool (badB x)) h') : callM P qpIZ #[.agg (opC x v).toArray] h K := by
  apply quEZ
  unfold qqLZ
  refine nw_agg fun v1 h1 n1 e1 c1 => ?_
  simp -implicitDefEqProofs only [opC] at c1
  have hk1 := hk h1 e1
  rw [seqM_eq]
  unfold qsjZ
  by_cases k1 : x.kind = 1
  · unfold qsdZ
    simp -implicitDefEqProofs [ld_at c1, cel_of c1, stm_at c1, stm_upd, ld_same, cel_same, over, k1]
    refine hashRight_ok _ ?_
    unfold qscZ
    simp +contextual -implicitDefEqProofs [ld_at c1, cel_of c1, stm_at c1, stm_upd, ld_same, cel_same, over]
    refine gM_call0 (a := .bool (decide (0 ≤ x.id ∧ x.id ≤ 255 ∧ 1 ≤ x.status ∧ x.status ≤ 9 ∧ 0 ≤ x.prio ∧ x.prio ≤ 9))) (fun hc K' hk' => sessRight_ok _ _ _ hk') ?_
    simp +contextual -implicitDefEqProofs
    refine kb hk1 ?_
    rw [badB, if_pos k1]
    cases nameB x.user <;> simp
  unfold qsiZ
  simp -implicitDefEqProofs [ld_at c1, cel_of c1, stm_at c1, stm_upd, ld_same, cel_same, over, k1]
  rw [seqM_eq]
  unfold qsfZ qseZ
  by_cases k2 : x.kind = 2 ∨ x.kind = 3
  · have hb : badB x = !(nameB x.user && decide (0 ≤ x.id ∧ x.id ≤ 255)) := by rw [badB, if_neg k1, if_pos k2]
    rw [hb] at hk1
    unfold qpsZ qshZ
    rcases k2 with k2 | k2
    all_goals
      simp -implicitDefEqProofs [ld_at c1, cel_of c1, stm_at c1, stm_upd, ld_same, cel_same, over, k2]
      refine hashRight_ok _ ?_
      unfold qsgZ
      simp +contextual -implicitDefEqProofs [ld_at c1, cel_of c1, stm_at c1, stm_upd, ld_same, cel_same, over]
      refine gM_call0 (a := .bool (decide (0 ≤ x.id ∧ x.id ≤ 255))) (fun hc K' hk' => within_ok _ _ _ hk') ?_
      simp +contextual -implicitDefEqProofs
      refine kb hk1 ?_
      cases nameB x.user <;> simp
  have k2' : ¬ x.kind = 2 := fun h => k2 (.inl h)
  have k3' : ¬ x.kind = 3 := fun h => k2 (.inr h)
  unfold qpsZ qriZ
  simp -implicitDefEqProofs [k2', k3']
  rw [seqM_eq]
  unfold qqVZ qqUZ qqTZ
  by_cases k4 : x.kind = 4 ∨ x.kind = 6 ∨ x.kind = 7
  · have hb : badB x = !nameB x.user := by rw [badB, if_neg k1, if_neg k2, if_pos k4]
    rw [hb] at hk1
    unfold qoFZ qqWZ
    rcases k4 with k4 | k4 | k4
    all_goals
      simp -implicitDefEqProofs [ld_at c1, cel_of c1, stm_at c1, stm_upd, ld_same, cel_same, over, k4]
      refine hashRight_ok _ ?_
      simp -implicitDefEqProofs
      exact hk1
  have k4' : ¬ x.kind = 4 := fun h => k4 (.inl h)
  have k6' : ¬ x.kind = 6 := fun h => k4 (.inr (.inl h))
  have k7' : ¬ x.kind = 7 := fun h => k4 (.inr (.inr h))
  unfold qoFZ qrhZ
  simp -implicitDefEqProofs [k4', k6', k7']
  by_cases k5 : x.kind = 5
  · have hb : badB x = !(decide (1 ≤ x.users.length ∧ x.users.length ≤ 8) && x.users.all nameB) := by rw [badB, if_neg k1, if_neg k2, if_neg k4, if_pos k5]
    have hlen := hv.len
    have hk' : ∀ h', Ext h1 h' → K (.bool (!(decide (1 ≤ x.users.length ∧ x.users.length ≤ 8) && x.users.all nameB))) h' := fun h' e => by rw [← hb]; exact hk h' (e1.trans e)
    unfold qrdZ
    simp -implicitDefEqProofs [k5]
    rw [seqM_eq]
    unfold qrbZ
    simp -implicitDefEqProofs [ld_at c1, cel_of c1, stm_at c1, stm_upd, ld_same, cel_same, over, hlen]
    refine loop_on [1, 47, 48] (fun s h' => h' = h1 ∧ ∃ i : Nat, i ≤ x.users.length ∧ s 49 = .int .i64 i ∧ (x.users.take i).all nameB = true) (fun s _ => (x.users.length - num (s 49)).toNat) ⟨rfl, 0, by omega, by simp, by simp⟩ ?_
    rintro s h2 hf ⟨rfl, i, hi, s49, hall⟩
    have s1 : s 1 = ptr v1 := by simpa using hf 1 (by simp)
    have s47 : s 47 = v := by simpa using hf 47 (by simp)
    have s48 : s 48 = .int .i64 x.users.length := by simpa using hf 48 (by simp)
    unfold qraZ
    simp -implicitDefEqProofs only [s48, s49, bin_lss, ov_s, cd_b]
    refine ⟨fun hc => ?_, fun hc => ?_⟩
    · have hlt : i < x.users.length := by have : ((i : Int) < x.users.length) := by simpa using hc
                                          omega
      obtain ⟨b, o, i1, i2⟩ := str_at hv (k := .i64) hlt
      have hw : IntKind.i64.wrap ((i : Int) + 1) = i + 1 := wrap64_id (by omega) (by omega)
      unfold qqZZ
      simp -implicitDefEqProofs only [s47, s49, i1, ov_s, ldV_c, i2 _ e1]
      refine hashRight_ok _ ?_
      unfold qqYZ qqXZ
      cases hn : nameB x.users[i] with
      | true =>
        simp -implicitDefEqProofs [s49, hw, s1, s47, s48]
        refine ⟨⟨i + 1, by omega, by simp, ?_⟩, by omega⟩
        simpa using all_succ hlt hall hn
      | false =>
        simp -implicitDefEqProofs
        refine kb (hk' _ (Ext.refl _)) ?_
        have : x.users.all nameB = false := by rw [List.all_eq_false]; exact ⟨_, List.getElem_mem hlt, by simp [hn]⟩
        simp -implicitDefEqProofs [this]
    · have : i = x.users.length := by have : ¬ ((i : Int) < x.users.length) := by simpa using hc
                                      omega
      subst this
      rw [List.take_length] at hall
      unfold qrcZ
      simp -implicitDefEqProofs [s1, ld_at c1, cel_of c1, stm_at c1, stm_upd, ld_same, cel_same, over, hlen]
      refine within_ok _ _ _ ?_
      simp -implicitDefEqProofs
      refine kb (hk' _ (Ext.refl _)) ?_
      have e : decide (1 ≤ x.users.length ∧ x.users.length ≤ 8) = decide ((1 : Int) ≤ x.users.length ∧ (x.users.length : Int) ≤ 8) := decide_eq_decide.2 (by omega)
      rw [hall, e]; simp
  · have hb : badB x = !decide (x.kind = 8 ∨ x.kind = 9) := by rw [badB, if_neg k1, if_neg k2, if_neg k4, if_neg k5]
    rw [hb] at hk1
    unfold qrgZ
    simp -implicitDefEqProofs [k5]
    rw [seqM_eq]
    unfold qrfZ qreZ
    by_cases k8 : x.kind = 8
    · simp -implicitDefEqProofs [ld_at c1, cel_of c1, stm_at c1, stm_upd, ld_same, cel_same, over, k8]
      exact kb hk1 (by simp [k8])
    · by_cases k9 : x.kind = 9
      · simp -implicitDefEqProofs [ld_at c1, cel_of c1, stm_at c1, stm_upd, ld_same, cel_same, over, k9]
        exact kb hk1 (by simp [k9])
      · simp -implicitDefEqProofs [ld_at c1, cel_of c1, stm_at c1, stm_upd, ld_same, cel_same, over, k1, k2', k3', k4', k5, k6', k7', k8, k9]
        exact kb hk1 (by simp [k8, k9])
set_option maxHeartbeats 1000000 in
theorem short_ok (x : OpD) {h : Heap} {v : Value} (hv : Sl 1 StrR h v x.users) (hk : ∀ h', Ext h h' → K (.bool (shortB x)) h') : callM P qfkZ #[.agg (opC x v).toArray] h K := by
  apply qrGZ
  unfold qhmZ
  refine nw_agg fun v1 h1 n1 e1 c1 => ?_
  simp -implicitDefEqProofs only [opC] at c1
  have hlen := hv.len
  have hk1 := hk h1 e1
  by_cases h40 : x.user.size ≤ 40
  rotate_left
  · have : (40 : Int) < x.user.size := by omega
    simp -implicitDefEqProofs [ld_at c1, cel_of c1, stm_at c1, stm_upd, ld_same, cel_same, over, this]
    exact kb hk1 (by simp [shortB, h40])
  have h40' : ¬ (40 : Int) < x.user.size := by omega
  by_cases h20 : x.users.length ≤ 20
  rotate_left
  · have : (20 : Int) < x.users.length := by omega
    simp -implicitDefEqProofs [ld_at c1, cel_of c1, stm_at c1, stm_upd, ld_same, cel_same, over, h40', this, hlen]
    exact kb hk1 (by simp [shortB, h20])
  have h20' : ¬ (20 : Int) < x.users.length := by omega
  unfold qkBZ
  simp -implicitDefEqProofs [ld_at c1, cel_of c1, stm_at c1, stm_upd, ld_same, cel_same, over, h40', h20', hlen]
  rw [seqM_eq]
  unfold qkAZ
  refine loop_on [1] (fun s h' => h' = h1 ∧ ∃ i : Nat, i ≤ x.users.length ∧ s 3 = .int .i64 i ∧ (x.users.take i).all (fun s => decide (s.size ≤ 40)) = true) (fun s _ => (x.users.length - num (s 3)).toNat) ⟨rfl, 0, by omega, rfl, by simp⟩ ?_
  rintro s h2 hf ⟨rfl, i, hi, s3, hall⟩
  have s1 : s 1 = ptr v1 := by simpa using hf 1 (by simp)
  unfold qkzZ
  simp -implicitDefEqProofs only [s1, faV_p, ov_s, ldV_c, Nat.zero_add, cel_of c1, List.getElem?_toArray, List.getElem?_cons_succ, List.getElem?_cons_zero, hlen, s3, bin_lss, cd_b]
  refine ⟨fun hc => ?_, fun hc => ?_⟩
  · have hlt : i < x.users.length := by have : ((i : Int) < x.users.length) := by simpa using hc
                                        omega
    obtain ⟨b, o, i1, i2⟩ := str_at hv (k := .i64) hlt
    have hw : IntKind.i64.wrap ((i : Int) + 1) = i + 1 := wrap64_id (by omega) (by omega)
    unfold qkyZ qkwZ qkxZ
    by_cases hn : x.users[i].size ≤ 40
    · have hn' : ¬ (40 : Int) < x.users[i].size := by omega
      simp -implicitDefEqProofs [s1, s3, ld_at c1, cel_of c1, stm_at c1, stm_upd, ld_same, cel_same, over, i1, i2 _ e1, hn', hw]
      refine ⟨⟨i + 1, by omega, by simp, ?_⟩, by omega⟩
      simpa using all_succ (p := fun s : ByteArray => decide (s.size ≤ 40)) hlt hall (by simp [hn])
    · have hn' : (40 : Int) < x.users[i].size := by omega
      simp -implicitDefEqProofs [s1, s3, ld_at c1, cel_of c1, stm_at c1, stm_upd, ld_same, cel_same, over, i1, i2 _ e1, hn']
      refine kb hk1 ?_
      have : (x.users.all fun s => decide (s.size ≤ 40)) = false := by rw [List.all_eq_false]; exact ⟨_, List.getElem_mem hlt, by simp [hn]⟩
      simp -implicitDefEqProofs [shortB, this]
  · have : i = x.users.length := by have : ¬ ((i : Int) < x.users.length) := by simpa using hc
                                    omega
    subst this
    rw [List.take_length] at hall
    simp -implicitDefEqProofs
    refine kb hk1 ?_
    simp -implicitDefEqProofs [shortB, hall, h40, h20]
end Go.Proofs.YtmbningljbcpkaaGreat
namespace Go.Proofs.YtmbningljbcpkaaGreat
open Go Go.Den Go.MapKept
set_option linter.unusedSimpArgs false
set_option linter.unusedVariables false
set_option maxRecDepth 20000
def allN (l:List ByteArray):Bool:=l.all nameB
theorem allN_s {l:List ByteArray}{i:Nat}(h:i<l.length):allN (l.take (i+1))=(allN (l.take i) && nameB l[i]):=by
 unfold allN; rw[List.take_succ_eq_append_getElem h,List.all_append]; simp
variable {K:KTy}
set_option maxHeartbeats 2000000 in
theorem refBad_ok (x : OpD) (xw : OpW x) {h : Heap} {v : Value} (hv : Sl 1 StrR h v x.users) (hl : x.users.length < 1000000)
    (hk : ∀ h', Ext h h' → K (.bool (badB x)) h') : callM P qilZ #[.agg (opC x v).toArray] h K := by
  apply qsZZ
  unfold qjoZ
  refine nw_agg fun v1 h1 n1 e1 c1 => ?_
  simp -implicitDefEqProofs only [opC] at c1
  have hk1 := hk h1 e1
  have hlen := hv.len
  simp +contextual -implicitDefEqProofs [ld_at c1, cel_of c1, stm_at c1, stm_upd, ld_same, cel_same, over]
  by_cases k1 : x.kind = 1
  · unfold qmOZ
    simp -implicitDefEqProofs [ld_at c1, cel_of c1, stm_at c1, stm_upd, ld_same, cel_same, over, k1]
    refine refName_ok _ ?_
    unfold qmNZ
    simp +contextual -implicitDefEqProofs [ld_at c1, cel_of c1, stm_at c1, stm_upd, ld_same, cel_same, over]
    refine kb hk1 ?_
    rw [badB, if_pos k1]
    cases nameB x.user
    · simp -implicitDefEqProofs
    · rw [Bool.eq_iff_iff]; simp; omega
  unfold qmVZ
  simp +contextual -implicitDefEqProofs [ld_at c1, cel_of c1, stm_at c1, stm_upd, ld_same, cel_same, over, k1]
  by_cases k2 : x.kind = 2 ∨ x.kind = 3
  · have hb : badB x = !(nameB x.user && decide (0 ≤ x.id ∧ x.id ≤ 255)) := by rw [badB, if_neg k1, if_pos k2]
    unfold qmQZ
    simp -implicitDefEqProofs [ld_at c1, cel_of c1, stm_at c1, stm_upd, ld_same, cel_same, over, k2]
    refine ⟨?_, fun h2 h3 => absurd k2 (by omega)⟩
    refine refName_ok _ ?_
    unfold qmPZ
    simp +contextual -implicitDefEqProofs
    refine kb hk1 ?_
    rw [hb]
    cases nameB x.user
    · simp -implicitDefEqProofs
    · rw [Bool.eq_iff_iff]; simp; omega
  have k2' : ¬ x.kind = 2 := fun h => k2 (.inl h)
  have k3' : ¬ x.kind = 3 := fun h => k2 (.inr h)
  unfold qmUZ
  simp +contextual -implicitDefEqProofs [ld_at c1, cel_of c1, stm_at c1, stm_upd, ld_same, cel_same, over, k2', k3']
  by_cases k4 : x.kind = 4 ∨ x.kind = 6 ∨ x.kind = 7
  · have hb : badB x = !nameB x.user := by rw [badB, if_neg k1, if_neg k2, if_pos k4]
    rw [hb] at hk1
    unfold qmRZ
    have k4x : (x.kind = 4 ∨ x.kind = 6) ∨ x.kind = 7 := by omega
    simp -implicitDefEqProofs [ld_at c1, cel_of c1, stm_at c1, stm_upd, ld_same, cel_same, over, k4x]
    refine ⟨?_, fun h2 h3 h7 => absurd k4 (by omega)⟩
    refine refName_ok _ ?_
    simp -implicitDefEqProofs
    exact hk1
  have k4' : ¬ x.kind = 4 := fun h => k4 (.inl h)
  have k6' : ¬ x.kind = 6 := fun h => k4 (.inr (.inl h))
  have k7' : ¬ x.kind = 7 := fun h => k4 (.inr (.inr h))
  unfold qmTZ
  simp -implicitDefEqProofs [k4', k6', k7']
  rw [seqM_eq]
  unfold qmSZ qlOZ
  by_cases k5 : x.kind = 5
  · have hb : badB x = !(decide (1 ≤ x.users.length ∧ x.users.length ≤ 8) && x.users.all nameB) := by rw [badB, if_neg k1, if_neg k2, if_neg k4, if_pos k5]
    rw [hb] at hk1
    have hlb : (decide ((x.users.length : Int) < 1) || decide ((8 : Int) < x.users.length)) = !decide (1 ≤ x.users.length ∧ x.users.length ≤ 8) := by
      rw [← Bool.decide_or, ← decide_not]; exact decide_eq_decide.2 (by omega)
    generalize decide (1 ≤ x.users.length ∧ x.users.length ≤ 8) = B at *
    unfold qlNZ
    simp +contextual -implicitDefEqProofs [ld_at c1, cel_of c1, stm_at c1, stm_upd, ld_same, cel_same, over, k5, hlen]
    rw [seqM_eq]
    unfold qlMZ
    refine loop_on [1] (fun s h' => h' = h1 ∧ ∃ i : Nat, i ≤ x.users.length ∧ s 5 = .int .i64 i ∧ s 4 = .bool (!(B && allN (x.users.take i)))) (fun s _ => (x.users.length - num (s 5)).toNat)
      ⟨rfl, 0, by omega, by simp, by simp [hlb, allN]⟩ ?_
    rintro s h2 hf ⟨rfl, i, hi, s5, s4⟩
    have s1 : s 1 = ptr v1 := by simpa using hf 1 (by simp)
    unfold qlLZ
    simp -implicitDefEqProofs only [s1, faV_p, ov_s, ldV_c, Nat.zero_add, cel_of c1, List.getElem?_toArray, List.getElem?_cons_succ, List.getElem?_cons_zero, hlen, s5, bin_lss, cd_b]
    refine ⟨fun hc => ?_, fun hc => ?_⟩
    · have hlt : i < x.users.length := by have : ((i : Int) < x.users.length) := by simpa using hc
                                          omega
      obtain ⟨b, o, i1, i2⟩ := str_at hv (k := .i64) hlt
      have hw : IntKind.i64.wrap ((i : Int) + 1) = i + 1 := wrap64_id (by omega) (by omega)
      have hal := allN_s hlt
      unfold qlKZ
      generalize allN (x.users.take i) = A at *
      cases hBA : (B && A) with
      | false =>
        simp -implicitDefEqProofs only [hBA] at s4
        simp -implicitDefEqProofs [s1, s4, s5, ld_at c1, cel_of c1, stm_at c1, stm_upd, ld_same, cel_same, over, hw]
        refine ⟨⟨i + 1, by omega, by simp, ?_⟩, by omega⟩
        rw [hal]; revert hBA; cases B <;> cases A <;> simp
      | true =>
        simp -implicitDefEqProofs only [hBA] at s4
        simp -implicitDefEqProofs [s1, s4, s5, ld_at c1, cel_of c1, stm_at c1, stm_upd, ld_same, cel_same, over, hw, i1, i2 _ e1]
        refine refName_ok _ ?_
        simp -implicitDefEqProofs [s1, s4, s5, hw]
        refine ⟨⟨i + 1, by omega, by simp, ?_⟩, by omega⟩
        rw [hal]; revert hBA; cases B <;> cases A <;> simp
    · have : i = x.users.length := by have : ¬ ((i : Int) < x.users.length) := by simpa using hc
                                      omega
      subst this
      rw [List.take_length] at s4
      simp -implicitDefEqProofs [s4]
      exact kb hk1 (by simp [allN])
  · have hb : badB x = !decide (x.kind = 8 ∨ x.kind = 9) := by rw [badB, if_neg k1, if_neg k2, if_neg k4, if_neg k5]
    rw [hb] at hk1
    simp -implicitDefEqProofs [ld_at c1, cel_of c1, stm_at c1, stm_upd, ld_same, cel_same, over, k5]
    unfold qlPZ
    simp +contextual -implicitDefEqProofs [ld_at c1, cel_of c1, stm_at c1, stm_upd, ld_same, cel_same, over]
    exact kb hk1 (by simp)
def NatR (_:Heap)(c:List Value)(n:Nat):Prop:=c=[.int .i64 n]
theorem NatR.ext {h h':Heap}{c:List Value}{x:Nat}(_:Ext h h')(r:NatR h c x):NatR h' c x:=r
end Go.Proofs.YtmbningljbcpkaaGreat
namespace Go.Den
open Go
set_option linter.unusedVariables false
set_option linter.unusedSimpArgs false
theorem lock_n (H:Hall)(w:Int)(s:Nat):(H.lock w s).n=H.n∧(H.lock w s).c=H.c∧(H.lock w s).acts.length≤H.acts.length+1:=by
 unfold Hall.lock; split
 ·exact⟨rfl,rfl,by simp[Hall.put,Hall.did]⟩
 ·exact⟨rfl,rfl,by omega⟩
theorem unlock_n (H:Hall)(w:Int)(s:Nat):(H.unlock w s).n=H.n∧(H.unlock w s).c=H.c∧(H.unlock w s).acts.length≤H.acts.length+1:=by
 unfold Hall.unlock; split
 ·exact⟨rfl,rfl,by simp[Hall.put,Hall.did]⟩
 ·exact⟨rfl,rfl,by omega⟩
end Go.Den
namespace Go.Proofs.YtmbningljbcpkaaGreat
open Go Go.Den Go.MapKept
set_option linter.unusedSimpArgs false
set_option linter.unusedVariables false
set_option maxRecDepth 20000
def rpC (r:RP)(uv sv ev:Value)(mr:Nat)(vv:Value):List Value:=[.int .i64 r.who,uv,.int .i64 r.of,sv,.int .i64 r.ph,.int .i64 r.at_,.int .i64 r.tries,ev,.bool r.valid,.bool r.spent,.map (some mr),
 .int .u64 r.t.now,.int .u64 r.t.seq,.bool r.t.closed,.int .i64 r.looked,.int .i64 r.placed,.int .i64 r.err,vv,.slice none 0 0,.bool false]
def SeenR (F h:Heap)(mr:Nat)(s:Int→Option Book):Prop:=∃ f,MapR (.int .i64) h mr f∧∀ i:Int,match s i with
 | some b=>∃ a c,f (.int .i64 i)=some (.agg #[a,c])∧BookR F a c b
 | none=>f (.int .i64 i)=none
structure RPX (T:Tags)(h:Heap)(g:Tag)(p:Nat)(r:RP)(uv sv ev:Value)(mr:Nat)(vv:Value):Prop where
 hp:h p=some (.cells (rpC r uv sv ev mr vv).toArray qusZ (0,0))
 tp:T p=g++[0]
 us:Sl 1 StrR (fz T h) uv r.users
 ss:Sl 1 NatR (fz T h) sv r.ss
 ep:Rw T h (g++[1]) 1 qaoZ ev r.k (seqF r.k fun i=>[.int .u64 (r.ep i)])
 mt:T mr=g++[2]
 sn:SeenR (fz T h) h mr r.seen
 vs:Sl 3 PresR (fz T h) vv r.vals
 vn:r.vals=[]→vv = .slice none 0 0
def RPR (T:Tags)(h:Heap)(g:Tag)(p:Nat)(r:RP):Prop:=∃ uv sv ev mr vv,RPX T h g p r uv sv ev mr vv
theorem SeenR.kp {U:Tag→Prop}{T T':Tags}{h h':Heap}{g:Tag}{mr:Nat}{s:Int→Option Book}(x:SeenR (fz T h) h mr s)(k:Kp U T h T' h')(ht:T mr=g)(u:¬ U g)(n:¬ U []):SeenR (fz T' h') h' mr s:=by
 obtain⟨f,m,hs⟩:=x
 obtain⟨o,ho⟩:=m.lt
 refine⟨f,m.of (by rw[(k.at ho ht u).1,ho]),fun i=>?_⟩
 have:=hs i
 cases hsi:s i with
 | none=>simpa [hsi] using this
 | some b=>simp only[hsi] at this ⊢; obtain⟨a,c,h1,h2⟩:=this; exact⟨a,c,h1,h2.ext (k.ext n)⟩
theorem RPX.kp {U:Tag→Prop}{T T':Tags}{h h':Heap}{g:Tag}{p:Nat}{r:RP}{uv sv ev:Value}{mr:Nat}{vv:Value}(x:RPX T h g p r uv sv ev mr vv)(k:Kp U T h T' h')(o:Off U g)(n:¬ U []):RPX T' h' g p r uv sv ev mr vv:=by
 obtain⟨f,m,_⟩:=x.sn
 obtain⟨om,hom⟩:=m.lt
 exact⟨(k.at x.hp x.tp (o.at _)).1,(k.at x.hp x.tp (o.at _)).2,x.us.ext (@StrR.ext) (k.ext n),x.ss.ext (@NatR.ext) (k.ext n),x.ep.kp k (o.at _),(k.at hom x.mt (o.at _)).2,x.sn.kp k x.mt (o.at _) n,
  x.vs.ext (@PresR.ext) (k.ext n),x.vn⟩
theorem RPR.kp {U:Tag→Prop}{T T':Tags}{h h':Heap}{g:Tag}{p:Nat}{r:RP}(x:RPR T h g p r)(k:Kp U T h T' h')(o:Off U g)(n:¬ U []):RPR T' h' g p r:=by
 obtain⟨uv,sv,ev,mr,vv,x⟩:=x
 exact⟨uv,sv,ev,mr,vv,x.kp k o n⟩
end Go.Proofs.YtmbningljbcpkaaGreat
