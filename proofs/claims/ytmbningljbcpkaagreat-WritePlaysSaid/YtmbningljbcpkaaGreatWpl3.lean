/- Words, plain data and contracts of the Go functions that this claim reaches. No condition beyond the hypotheses that each theorem states. -/
import Derived.Test.YtmbningljbcpkaaGreatWpl2
set_option linter.unusedSimpArgs false
set_option linter.unusedVariables false
namespace Go.Proofs.YtmbningljbcpkaaGreat
open Go Go.Den
set_option maxRecDepth 100000
set_option linter.unusedVariables false
def qrKZ (a:Value)(b:Post)(x0 x1 x2 x3 c d e f g h i j k l m n o p q r s t u v w x y z aa ab:Value)(ac:Heap):Prop:=ov (exV a 0) fun ad=>ov (exV a 1) fun ae=>b .normal [] (puts (envOf [x0,x1,x2,x3]) [(4,c),(5,d),(8,e),(9,(Value.slice none 0 0)),(10,(Value.int IntKind.i64 0)),(19,f),(20,g),(21,h),(22,i),(18,i),(23,j),(24,k),(11,l),(12,k),(25,m),(26,n),(27,x2),(28,o),(13,o),(14,(Value.int IntKind.i64 0)),(29,x2),(30,p),(31,q),(32,r),(15,r),(33,s),(34,t),(36,u),(35,u),(38,o),(39,v),(40,w),(41,x),(42,y),(43,z),(44,aa),(45,r),(46,ab),(47,x3),(48,a),(37,a),(49,ad),(50,ae),(13,ad),(14,ae)]) ac
def qrLZ (a:Value)(b:Heap)(c d x3:Value)(e:Post)(x0 x1 x2 f g h i j k l m n o p q r s t u:Value):Prop:=ov (faV (some 2) a) fun v=>ov (ldV (some none) v b) fun w=>ov (faV (some 3) a) fun x=>ov (ldV (some none) x b) fun y=>ov (faV (some 4) a) fun z=>ov (ldV (some none) z b) fun aa=>ov (bdV (binf P qcZ) [(0,w),(1,y),(2,aa),(3,c)]) fun ab=>callM P qrgZ #[d,ab,x3] b fun ac ad=>qrKZ ac e x0 x1 x2 x3 f a g h i j k l m n o p d q r c s t u v w x y z aa ab ad
def qrMZ (a:Value)(b:Post)(x0 x1 x2 x3 c d e f g h i j k l m n o p q r s t u v w x:Value)(y:Heap):Prop:=ov (exV a 0) fun z=>ov (exV a 1) fun aa=>b .normal [] (puts (envOf [x0,x1,x2,x3]) [(4,c),(5,d),(8,e),(9,(Value.slice none 0 0)),(10,(Value.int IntKind.i64 0)),(19,f),(20,g),(21,h),(22,i),(18,i),(23,j),(24,k),(11,l),(12,k),(25,m),(26,n),(27,x2),(28,o),(13,o),(14,(Value.int IntKind.i64 0)),(29,x2),(30,p),(31,q),(32,r),(15,r),(33,s),(34,t),(36,u),(35,u),(52,v),(51,v),(54,o),(55,w),(56,x),(57,r),(58,a),(53,a),(59,z),(60,aa),(13,z),(14,aa)]) y
def qrNZ (a:Value)(b:Heap)(c d:Value)(e:Post)(x0 x1 x2 x3 f g h i j k l m n o p q r s t u v:Value):Prop:=ov (faV (some 2) a) fun w=>ov (ldV (some none) w b) fun x=>callM P qqnZ #[c,x,d] b fun y z=>qrMZ y e x0 x1 x2 x3 f a g h i j k l m n o p c q r d s t u v w x z
def qqPZ (a:Value)(b:Post)(x0 x1 x2 x3 c d e f g h i j k l m n o p q r s t u v w x y:Value)(z:Heap):Prop:=ov (exV a 0) fun aa=>ov (exV a 1) fun ab=>b .normal [] (puts (envOf [x0,x1,x2,x3]) [(4,c),(5,d),(8,e),(9,(Value.slice none 0 0)),(10,(Value.int IntKind.i64 0)),(19,f),(20,g),(21,h),(22,i),(18,i),(23,j),(24,k),(11,l),(12,k),(25,m),(26,n),(27,x2),(28,o),(13,o),(14,(Value.int IntKind.i64 0)),(29,x2),(30,p),(31,q),(32,r),(15,r),(33,s),(34,t),(36,u),(35,u),(52,v),(51,v),(62,w),(61,w),(64,o),(65,x),(66,y),(67,a),(63,a),(68,aa),(69,ab),(13,aa),(14,ab)]) z
def qqQZ (a:Value)(b:Heap)(c:Value)(d:Post)(x0 x1 x2 x3 e f g h i j k l m n o p q r s t u v w:Value):Prop:=ov (faV (some 2) a) fun x=>ov (ldV (some none) x b) fun y=>callM P qpNZ #[c,y] b fun z aa=>qqPZ z d x0 x1 x2 x3 e a f g h i j k l m n o c p q r s t u v w x y aa
def qqRZ (a:Post)(x0 x1 x2 x3 b c d e f g h i j k l m n o p q r s t u v:Value)(w:Heap):Prop:=a .normal [] (puts (envOf [x0,x1,x2,x3]) [(4,b),(5,c),(8,d),(9,(Value.slice none 0 0)),(10,(Value.int IntKind.i64 0)),(19,e),(20,f),(21,g),(22,h),(18,h),(23,i),(24,j),(11,k),(12,j),(25,l),(26,m),(27,x2),(28,n),(13,n),(14,(Value.int IntKind.i64 0)),(29,x2),(30,o),(31,p),(32,q),(15,q),(33,r),(34,s),(36,t),(35,t),(52,u),(51,u),(62,v),(61,v)]) w
def qqSZ (a b:Value)(c:Heap)(d:Value)(e:Post)(x0 x1 x2 x3 f g h i j k l m n o p q r s t u v:Value):Prop:=ov (binV BinOp.eql 2 true a (Value.int IntKind.i64 3)) fun w=>cdM w (qqQZ b c d e x0 x1 x2 x3 f g h i j k l m n o p q r s t a u v w) (qqRZ e x0 x1 x2 x3 f b g h i j k l m n o p d q r s t a u v w c)
def qrOZ (a b:Value)(c:Heap)(d e:Value)(f:Post)(x0 x1 x2 x3 g h i j k l m n o p q r s t u:Value):Prop:=ov (binV BinOp.eql 2 true a (Value.int IntKind.i64 2)) fun v=>cdM v (qrNZ b c d e f x0 x1 x2 x3 g h i j k l m n o p q r s t a u v) (qqSZ a b c d f x0 x1 x2 x3 g h i j k l m n o p q r s e t u v)
def qrPZ (a:Value)(b:Heap)(c d x3:Value)(e:Post)(x0 x1 x2 f g h i j k l m n o p q r:Value):Prop:=ov (faV (some 0) a) fun s=>ov (ldV (some none) s b) fun t=>ov (binV BinOp.eql 2 true t (Value.int IntKind.i64 1)) fun u=>cdM u (qrLZ a b c d x3 e x0 x1 x2 f g h i j k l m n o p q r s t u) (qrOZ t a b d c e x0 x1 x2 x3 f g h i j k l m n o p q r s u)
def qqTZ (a:Value)(b:Heap)(c:Env)(K:KTy)(m:List Nat)(d e f:Value):Prop:=ov (exV a 0) fun g=>ov (exV a 1) fun h=>nwM (zc P qaZ) qaZ b fun i j=>stM (some 2) i g j fun k=>ov (ldV (some (some 2)) i k) fun l=>stM (some 2) (c 8) l k fun n=>(retM P [.cell 8 49,.tmp 9,.tmp 10] K) .ret m (puts c [(71,d),(72,e),(73,f),(74,(c 13)),(75,(c 2)),(76,a),(70,a),(77,g),(78,h),(16,i),(17,h),(79,l),(80,h),(81,(c 14)),(9,h),(10,(c 14))]) n
def qnJZ (a:Env)(b:Heap)(K:KTy)(m:List Nat):Prop:=ov (ldV (some (some 2)) (a 4) b) fun c=>ov (faV (some 1) (a 5)) fun d=>ov (ldV (some none) d b) fun e=>callM P qjWZ #[c,e,(a 13),(a 2)] b fun f g=>qqTZ f g a K m c d e
def qrQZ (a:Value)(b:Heap)(c d x3 x0 x1 x2 e f g h i j k l n o p q r:Value)(K:KTy):Prop:=seqM (fun s=>qrPZ a b c d x3 s x0 x1 x2 e f g h i j k l n o p q r) (fun m t u=>qnJZ t u K m) (retM P [.cell 8 49,.tmp 9,.tmp 10] K)
def qrRZ (a:Value)(b:Heap)(x2 c x3 x0 x1 d e f g h i j k l m n:Value)(K:KTy):Prop:=ov (faV (some 5) a) fun o=>ov (ldV (some none) o b) fun p=>callM P qpqZ #[x2,p] b fun q r=>qrQZ a r q c x3 x0 x1 x2 d e f g h i j k l m n o p K
def qrSZ (a:Value)(b:Heap)(x2 c x3 x0 x1 d e f g h:Value)(K:KTy):Prop:=ov (exV a 0) fun i=>ov (exV a 1) fun j=>nwM (zc P qjZ) qjZ b fun k l=>stM (some 4) k i l fun m=>ov (faV (some 0) k) fun n=>ov (ldV (some none) n m) fun o=>callM P qlGZ #[o,x2] m fun p q=>qrRZ c q x2 p x3 x0 x1 d e f g h a i j k n o K
def qqvZ (x0 x1 x2 x3:Value)(h:Heap)(K:KTy):Prop:=nwM (some x0.cells) qaZ h fun a b=>nwM (some x1.cells) qaiZ b fun c d=>nwM (zc P qaZ) qaZ d fun e f=>ov (ldV (some (some 2)) a f) fun g=>ov (faV (some 1) c) fun i=>ov (ldV (some none) i f) fun j=>callM P qGZ #[g,j] f fun k l=>qrSZ k l x2 c x3 x0 x1 a e g i j K
variable {K:KTy}
theorem quXZ {x0 x1 x2 x3:Value}{h:Heap}(hd:qqvZ x0 x1 x2 x3 h K):callM P qlFZ #[x0,x1,x2,x3] h K :=
 call_of good mixed (fn:=Tryz.f188) (args:=[x0,x1,x2,x3]) Tryz.func188 rfl (by kernel_rfl) (of_decide_eq_true rfl) (B:=qqvZ x0 x1 x2 x3 h K) (by kernel_rfl) hd
def qpDZ (a:Post)(m:List Nat)(b:Env)(c d e f g h i j k l n o p:Value)(q:Heap):Prop:=a .normal m (puts b [(21,c),(22,(b 20)),(23,d),(8,(b 20)),(9,d),(24,(b 0)),(25,(b 20)),(26,e),(27,f),(28,g),(29,d),(30,h),(31,i),(32,j),(33,k),(34,l),(35,n),(36,(b 2)),(37,o),(38,p)]) q
def qpEZ (a:Env)(b:Heap)(c:Value)(d:Post)(m:List Nat)(e f g h:Value):Prop:=ov (faV (some 0) (a 7)) fun i=>ov (ldV (some none) i b) fun j=>ov (faV (some 1) (a 7)) fun k=>ov (ldV (some (some 3)) k b) fun l=>ov (faV (some 4) (a 7)) fun n=>ov (ldV (some (some 3)) n b) fun o=>ov (bdV (binf P qtZ) [(0,j),(1,l),(2,o),(3,(a 2))]) fun p=>callM P qdVZ #[c,p] b fun q r=>qpDZ d m a e c f g h i j k l n o p q r
def qpFZ (a:Value)(b:Env)(c:Heap)(d:Value)(e:Post)(m:List Nat)(f g h:Value):Prop:=cdM a (qpEZ b c d e m f g h a) (e .normal m (puts b [(21,f),(22,(b 20)),(23,d),(8,(b 20)),(9,d),(24,(b 0)),(25,(b 20)),(26,g),(27,h),(28,a)]) c)
def qpGZ (a:Env)(b:Heap)(c:Post)(m:List Nat)(d:Value):Prop:=ov (xaV (some (none,8,1)) (a 19) (a 20)) fun e=>ov (faV (some 0) (a 7)) fun f=>ov (ldV (some none) f b) fun g=>callM P qfOZ #[(a 0),(a 20),g] b fun h i=>qpFZ h a i e c m d f g
def qpHZ (a:Env)(b:Heap)(m:List Nat)(c:Value)(d:Post):Prop:=seqM (fun e=>qpGZ a b e m c) (fun m f g=>ov (binV BinOp.add 2 true (f 20) (Value.int IntKind.i64 1)) fun h=>d .normal m (puts f [(39,h),(20,h)]) g) d
def qpIZ (a:Env)(b:Heap)(m:List Nat)(c:Post):Prop:=ov (binV BinOp.lss 2 true (a 20) (Value.int IntKind.i64 8)) fun d=>cdM d (qpHZ a b m d c) (c (.exit 2) m (puts a [(21,d)]) b)
def qpJZ (a:Env)(b:Heap)(m:List Nat)(c:Value)(d:Post):Prop:=ov (iaV (some (none,7)) (a 10) (a 12)) fun e=>ov (ldV (some (some 7)) e b) fun f=>nwM (zc P qLZ) qLZ b fun g h=>stM (some 7) g f h fun i=>ov (ncV (a 0)) fun j=>ov (faV (some 2) j) fun k=>ov (ldV (some (some 8)) k i) fun l=>loopM (fun m n o p=>qpIZ n o m p) m (puts a [(13,c),(14,e),(15,f),(7,g),(16,(a 0)),(17,j),(18,k),(19,l),(20,(Value.int IntKind.i64 0))]) i (blkM 2 (blkM 1 d))
def qpKZ (a:Env)(b:Heap)(m:List Nat)(c:Value)(d:Post):Prop:=seqM (fun e=>qpJZ a b m c e) (fun m f g=>ov (binV BinOp.add 2 true (f 12) (Value.int IntKind.i64 1)) fun h=>d .normal m (puts f [(40,h),(12,h)]) g) d
def qpLZ (a:Env)(b:Heap)(m:List Nat)(c:Post):Prop:=ov (binV BinOp.lss 2 false (a 12) (a 11)) fun d=>cdM d (qpKZ a b m d c) (c (.exit 0) m (puts a [(13,d)]) b)
def qlRZ (x0 x1 x2:Value)(h:Heap)(K:KTy):Prop:=ov (lnV 7 x1) fun a=>loopM (fun m b c d=>qpLZ b c m d) [] (puts (envOf [x0,x1,x2]) [(10,x1),(11,a),(12,(Value.int IntKind.i64 0))]) h (blkM 0 (retM P [] K))
theorem quxZ {x0 x1 x2:Value}{h:Heap}(hd:qlRZ x0 x1 x2 h K):callM P qeaZ #[x0,x1,x2] h K :=
 call_of good mixed (fn:=Tryz.f189) (args:=[x0,x1,x2]) Tryz.func189 rfl (by kernel_rfl) (of_decide_eq_true rfl) (B:=qlRZ x0 x1 x2 h K) (by kernel_rfl) hd
def qlaZ (a:Value)(b:Post)(x0 x1 x2 x3 c d e f g h i j k l m n o p q r s t u:Value)(v:Heap):Prop:=ov (exV a 0) fun w=>ov (exV a 1) fun x=>b .normal [] (puts (envOf [x0,x1,x2,x3]) [(5,c),(8,(Value.slice none 0 0)),(9,(Value.slice none 0 0)),(10,(Value.int IntKind.i64 0)),(16,x0),(17,d),(18,e),(19,f),(20,g),(21,x2),(22,h),(11,h),(23,x2),(24,i),(25,j),(26,k),(12,k),(13,(Value.int IntKind.i64 0)),(27,l),(28,m),(30,n),(29,n),(32,h),(33,o),(34,p),(35,q),(36,r),(37,s),(38,t),(39,k),(40,u),(41,x3),(42,a),(31,a),(43,w),(44,x),(11,w),(13,x)]) v
def qlbZ (a:Value)(b:Heap)(c d x3:Value)(e:Post)(x0 x1 x2 f g h i j k l m n:Value):Prop:=ov (faV (some 2) a) fun o=>ov (ldV (some none) o b) fun p=>ov (faV (some 3) a) fun q=>ov (ldV (some none) q b) fun r=>ov (faV (some 4) a) fun s=>ov (ldV (some none) s b) fun t=>ov (bdV (binf P qcZ) [(0,p),(1,r),(2,t),(3,c)]) fun u=>callM P qiEZ #[d,u,x3] b fun v w=>qlaZ v e x0 x1 x2 x3 a f g h i d j k c l m n o p q r s t u w
def qlcZ (a:Value)(b:Post)(x0 x1 x2 x3 c d e f g h i j k l m n o p q:Value)(r:Heap):Prop:=ov (exV a 0) fun s=>ov (exV a 1) fun t=>b .normal [] (puts (envOf [x0,x1,x2,x3]) [(5,c),(8,(Value.slice none 0 0)),(9,(Value.slice none 0 0)),(10,(Value.int IntKind.i64 0)),(16,x0),(17,d),(18,e),(19,f),(20,g),(21,x2),(22,h),(11,h),(23,x2),(24,i),(25,j),(26,k),(12,k),(13,(Value.int IntKind.i64 0)),(27,l),(28,m),(30,n),(29,n),(46,o),(45,o),(48,h),(49,p),(50,q),(51,k),(52,a),(47,a),(53,s),(54,t),(11,s),(13,t)]) r
def qldZ (a:Value)(b:Heap)(c d:Value)(e:Post)(x0 x1 x2 x3 f g h i j k l m n o:Value):Prop:=ov (faV (some 2) a) fun p=>ov (ldV (some none) p b) fun q=>callM P qhFZ #[c,q,d] b fun r s=>qlcZ r e x0 x1 x2 x3 a f g h i c j k d l m n o p q s
def qkaZ (a:Post)(x0 x1 x2 x3 b c d e f g h i j k l m n o p q r s:Value)(t:Heap):Prop:=a .normal [] (puts (envOf [x0,x1,x2,x3]) [(5,b),(8,(Value.slice none 0 0)),(9,(Value.slice none 0 0)),(10,(Value.int IntKind.i64 0)),(16,x0),(17,c),(18,d),(19,e),(20,f),(21,x2),(22,g),(11,g),(23,x2),(24,h),(25,i),(26,j),(12,j),(13,(Value.int IntKind.i64 0)),(27,k),(28,l),(30,m),(29,m),(46,n),(45,n),(56,o),(55,o),(57,g),(58,p),(59,q),(60,r),(61,s),(13,(Value.int IntKind.i64 3))]) t
def qkbZ (a:Post)(x0 x1 x2 x3 b c d e f g h i j k l m n o p q r s:Value)(t:Heap):Prop:=a .normal [] (puts (envOf [x0,x1,x2,x3]) [(5,b),(8,(Value.slice none 0 0)),(9,(Value.slice none 0 0)),(10,(Value.int IntKind.i64 0)),(16,x0),(17,c),(18,d),(19,e),(20,f),(21,x2),(22,g),(11,g),(23,x2),(24,h),(25,i),(26,j),(12,j),(13,(Value.int IntKind.i64 0)),(27,k),(28,l),(30,m),(29,m),(46,n),(45,n),(56,o),(55,o),(57,g),(58,p),(59,q),(60,r),(61,s)]) t
def qkcZ (a:Value)(b:Post)(x0 x1 x2 x3 c d e f g h i j k l m n o p q r:Value)(s:Heap):Prop:=ov (unV UnOp.not a) fun t=>cdM t (qkaZ b x0 x1 x2 x3 c d e f g h i j k l m n o p q r a t s) (qkbZ b x0 x1 x2 x3 c d e f g h i j k l m n o p q r a t s)
def qkdZ (a:Value)(b:Heap)(c:Value)(d:Post)(x0 x1 x2 x3 e f g h i j k l m n o p:Value):Prop:=ov (faV (some 2) a) fun q=>ov (ldV (some none) q b) fun r=>callM P qcxZ #[c,r] b fun s t=>qkcZ s d x0 x1 x2 x3 a e f g h c i j k l m n o p q r t
def qfbZ (a:Env)(b:Heap)(c:Post)(m:List Nat):Prop:=ov (faV (some 2) (a 5)) fun d=>ov (ldV (some none) d b) fun e=>callM P qdDZ #[(a 11),e] b fun f g=>c .normal m (puts a [(62,(a 11)),(63,d),(64,e),(65,f),(11,f)]) g
def qkeZ (a:Value)(b:Heap)(c x0 x1 x2 x3 d e f g h i j k l n o p:Value)(q:Post):Prop:=seqM (fun r=>qkdZ a b c r x0 x1 x2 x3 d e f g h i j k l n o p) (fun m s t=>qfbZ s t q m) (blkM 0 q)
def qkfZ (a:Post)(x0 x1 x2 x3 b c d e f g h i j k l m n o:Value)(p:Heap):Prop:=a .normal [] (puts (envOf [x0,x1,x2,x3]) [(5,b),(8,(Value.slice none 0 0)),(9,(Value.slice none 0 0)),(10,(Value.int IntKind.i64 0)),(16,x0),(17,c),(18,d),(19,e),(20,f),(21,x2),(22,g),(11,g),(23,x2),(24,h),(25,i),(26,j),(12,j),(13,(Value.int IntKind.i64 0)),(27,k),(28,l),(30,m),(29,m),(46,n),(45,n),(56,o),(55,o)]) p
def qkgZ (a b:Value)(c:Heap)(d x0 x1 x2 x3 e f g h i j k l m n:Value)(o:Post):Prop:=ov (binV BinOp.eql 2 true a (Value.int IntKind.i64 3)) fun p=>cdM p (qkeZ b c d x0 x1 x2 x3 e f g h i j k l a m n p o) (qkfZ o x0 x1 x2 x3 b e f g h d i j k l a m n p c)
def qleZ (a b:Value)(c:Heap)(d e:Value)(f:Post)(x0 x1 x2 x3 g h i j k l m n:Value):Prop:=ov (binV BinOp.eql 2 true a (Value.int IntKind.i64 2)) fun o=>cdM o (qldZ b c d e f x0 x1 x2 x3 g h i j k l m a n o) (qkgZ a b c d x0 x1 x2 x3 g h i j k l e m n o f)
def qlfZ (a:Value)(b:Heap)(c d x3:Value)(e:Post)(x0 x1 x2 f g h i j k:Value):Prop:=ov (faV (some 0) a) fun l=>ov (ldV (some none) l b) fun m=>ov (binV BinOp.eql 2 true m (Value.int IntKind.i64 1)) fun n=>cdM n (qlbZ a b c d x3 e x0 x1 x2 f g h i j k l m n) (qleZ m a b d c e x0 x1 x2 x3 f g h i j k l n)
def qkhZ (a:Value)(K:KTy)(m:List Nat)(b:Env)(c d:Value)(e:Heap):Prop:=ov (exV a 0) fun f=>ov (exV a 1) fun g=>(retM P [.tmp 8,.tmp 9,.tmp 10] K) .ret m (puts b [(67,(b 0)),(68,c),(69,d),(70,(b 11)),(71,(b 2)),(72,a),(66,a),(73,f),(74,g),(14,f),(15,g),(75,f),(76,g),(77,(b 13)),(8,f),(9,g),(10,(b 13))]) e
def qcuZ (a:Env)(b:Heap)(K:KTy)(m:List Nat):Prop:=ov (faV (some 1) (a 5)) fun c=>ov (ldV (some none) c b) fun d=>callM P qcXZ #[(a 0),d,(a 11),(a 2)] b fun e f=>qkhZ e K m a c d f
def qlgZ (a:Value)(b:Heap)(c d x3 x0 x1 x2 e f g h i j:Value)(K:KTy):Prop:=seqM (fun k=>qlfZ a b c d x3 k x0 x1 x2 e f g h i j) (fun m l n=>qcuZ l n K m) (retM P [.tmp 8,.tmp 9,.tmp 10] K)
def qlhZ (a:Value)(b:Heap)(x2 c x3 x0 x1 d e f g:Value)(K:KTy):Prop:=ov (faV (some 5) a) fun h=>ov (ldV (some none) h b) fun i=>callM P qcwZ #[x2,i] b fun j k=>qlgZ a k j c x3 x0 x1 x2 d e f g h i K
def qliZ (a x2:Value)(b:Heap)(c x3 x0 x1 d e:Value)(K:KTy):Prop:=ov (fdV (some (none,1)) a) fun f=>callM P qbzZ #[f,x2] b fun g h=>qlhZ c h x2 g x3 x0 x1 d e a f K
def qhPZ (x0 x1 x2 x3:Value)(h:Heap)(K:KTy):Prop:=nwM (some x1.cells) qaiZ h fun a b=>ov (faV (some 1) a) fun c=>ov (ldV (some none) c b) fun d=>callM P qeiZ #[x0,d] b fun e f=>qliZ e x2 f a x3 x0 x1 c d K
theorem qsoZ {x0 x1 x2 x3:Value}{h:Heap}(hd:qhPZ x0 x1 x2 x3 h K):callM P qfMZ #[x0,x1,x2,x3] h K :=
 call_of good mixed (fn:=Tryz.f190) (args:=[x0,x1,x2,x3]) Tryz.func190 rfl (by kernel_rfl) (of_decide_eq_true rfl) (B:=qhPZ x0 x1 x2 x3 h K) (by kernel_rfl) hd
def qilZ (a:Post)(m:List Nat)(b:Env)(c d e f g h:Value)(i:Heap):Prop:=a .normal m (puts b [(14,(b 7)),(15,c),(18,(b 0)),(19,(b 7)),(20,(b 1)),(21,(b 6)),(22,d),(23,e),(24,f),(25,g),(26,h)]) i
def qhfZ (a:Env)(b:Heap)(c:Post)(m:List Nat)(d e f g h i j k l n o p q r s:Value):Prop:=ov (ncV (a 0)) fun t=>ov (faV (some 10) t) fun u=>ov (iaV (some (some 8,1)) u (a 7)) fun v=>stM (some 1) v (Value.bool true) b fun w=>c .normal m (puts a [(14,(a 7)),(15,d),(18,(a 0)),(19,(a 7)),(20,(a 1)),(21,(a 6)),(22,e),(23,f),(24,g),(25,h),(26,i),(27,(a 0)),(28,(a 7)),(29,j),(30,k),(31,l),(32,n),(33,o),(34,(a 0)),(35,p),(36,q),(37,r),(38,s),(39,(a 0)),(40,(a 7)),(41,t),(42,u),(43,v)]) w
def qhgZ (a:Value)(b:Env)(c:Value)(d:Heap)(e:Post)(m:List Nat)(f g h i j k l n o p q r s t u v w x y z aa ab ac ad ae af ag ah ai aj ak al am:Value):Prop:=ov (iaV (some (some 8,1)) a (b 7)) fun an=>stM (some 1) an c d fun ao=>e .normal m (puts b [(14,(b 7)),(15,f),(18,(b 0)),(19,(b 7)),(20,(b 1)),(21,(b 6)),(22,g),(23,h),(24,i),(25,j),(26,k),(27,(b 0)),(28,(b 7)),(29,l),(30,n),(31,o),(32,p),(33,q),(34,(b 0)),(35,r),(36,s),(37,t),(38,u),(44,(b 0)),(45,(b 7)),(47,(b 0)),(48,(b 7)),(49,v),(50,w),(51,x),(52,y),(54,(b 1)),(55,(b 6)),(56,z),(57,aa),(58,ab),(59,(b 1)),(60,(b 6)),(61,ac),(62,ad),(63,ae),(64,(b 1)),(65,(b 6)),(66,af),(67,ag),(68,ah),(69,(b 2)),(70,ai),(73,aj),(74,a),(46,ak),(53,al),(71,am),(72,c),(75,an)]) ao
def qhhZ (a:Value)(b:Heap)(c d e f g h i j:Value)(k:Env)(l:Post)(m:List Nat)(n o p q r s t u v w x y z aa ab ac ad ae af ag ah ai aj ak:Value):Prop:=ldV (some none) a b=some c∧ldV (some (some 3)) d b=some e∧ldV (some (some 3)) f b=some g∧bsM (bsI P qfZ) 1 [(0,h)] b fun al am=>vvM P (Builtin.append_ #[qfZ,qfZ] qfZ #[i,al]) am fun an ao=>qhgZ j k an ao l m n o p q r s t u v w x y z aa ab ac ad ae af ag a c ah d e ai f g h aj ak i al
def qhiZ (a:Value)(b:Env)(c:Value)(d:Heap)(e:Post)(m:List Nat)(f g h i j k l n o p q r s t u v w x y z aa ab ac ad ae af ag ah ai aj ak al am:Value):Prop:=ov (iaV (some (some 8,1)) a (b 7)) fun an=>stM (some 1) an c d fun ao=>e .normal m (puts b [(14,(b 7)),(15,f),(18,(b 0)),(19,(b 7)),(20,(b 1)),(21,(b 6)),(22,g),(23,h),(24,i),(25,j),(26,k),(27,(b 0)),(28,(b 7)),(29,l),(30,n),(31,o),(32,p),(33,q),(34,(b 0)),(35,r),(36,s),(37,t),(38,u),(44,(b 0)),(45,(b 7)),(47,(b 0)),(48,(b 7)),(49,v),(50,w),(51,x),(52,y),(54,(b 1)),(55,(b 6)),(56,z),(57,aa),(58,ab),(59,(b 1)),(60,(b 6)),(61,ac),(62,ad),(63,ae),(64,(b 1)),(65,(b 6)),(66,af),(67,ag),(68,ah),(69,(b 2)),(70,ai),(73,aj),(74,a),(46,ak),(71,al),(53,am),(72,c),(75,an)]) ao
def qhjZ (a:Heap)(b c d e f g h i j k:Value)(l:Env)(n:Post)(m:List Nat)(o p q r s t u v w x y z aa ab ac ad ae af ag ah ai:Value):Prop:=bsM (bsI P qfZ) 0 [] a fun aj ak=>ldV (some none) b ak=some c∧ldV (some none) d ak=some e∧ldV (some (some 3)) f ak=some g∧ldV (some (some 3)) h ak=some i∧(vvM P (Builtin.append_ #[qfZ,qfZ] qfZ #[aj,c]) ak fun al am=>qhhZ d am e f g h i j al k l n m o p q r s t u v w x y z aa ab ac ad ae b c af ag ah ai aj)∧(bsM (bsI P qfZ) 1 [(0,j)] ak fun an ao=>ldV (some none) b ao=some c∧vvM P (Builtin.append_ #[qfZ,qfZ] qfZ #[aj,c]) ao fun ap aq=>vvM P (Builtin.append_ #[qfZ,qfZ] qfZ #[ap,an]) aq fun ar au=>qhiZ k l ar au n m o p q r s t u v w x y z aa ab ac ad ae b c af d e ag f g ah h i j ai aj an ap)
def qhkZ (a:Value)(b:Env)(c:Value)(d:Heap)(e:Post)(m:List Nat)(f g h i j k l n o p q r s t u v w x y z aa ab ac ad ae af ag ah ai aj ak al am:Value):Prop:=ov (iaV (some (some 8,1)) a (b 7)) fun an=>stM (some 1) an c d fun ao=>e .normal m (puts b [(14,(b 7)),(15,f),(18,(b 0)),(19,(b 7)),(20,(b 1)),(21,(b 6)),(22,g),(23,h),(24,i),(25,j),(26,k),(27,(b 0)),(28,(b 7)),(29,l),(30,n),(31,o),(32,p),(33,q),(34,(b 0)),(35,r),(36,s),(37,t),(38,u),(44,(b 0)),(45,(b 7)),(47,(b 0)),(48,(b 7)),(49,v),(50,w),(51,x),(52,y),(54,(b 1)),(55,(b 6)),(56,z),(57,aa),(58,ab),(59,(b 1)),(60,(b 6)),(61,ac),(62,ad),(63,ae),(64,(b 1)),(65,(b 6)),(66,af),(67,ag),(68,ah),(69,(b 2)),(70,ai),(73,aj),(74,a),(71,ak),(46,al),(53,am),(72,c),(75,an)]) ao
def qhlZ (a:Value)(b:Heap)(c d e:Value)(f:Env)(g:Post)(m:List Nat)(h i j k l n o p q r s t u v w x y z aa ab ac ad ae af ag ah ai:Value):Prop:=bsM (bsI P qfZ) 1 [(0,a)] b fun aj ak=>ldV (some none) c ak=some d∧bsM (bsI P qfZ) 0 [] ak fun al am=>ldV (some none) c am=some d∧vvM P (Builtin.append_ #[qfZ,qfZ] qfZ #[al,d]) am fun an ao=>vvM P (Builtin.append_ #[qfZ,qfZ] qfZ #[an,aj]) ao fun ap aq=>qhkZ e f ap aq g m h i j k l n o p q r s t u v w x y c d z aa ab ac ad ae af ag ah a ai aj al an
def qhmZ (a:Env)(b:Heap)(c:Post)(m:List Nat)(d e f g h i j k l n o p q r s:Value):Prop:=ov (ncV (a 0)) fun t=>ov (faV (some 2) t) fun u=>ov (iaV (some (some 8,1)) u (a 7)) fun v=>ov (ldV (some none) v b) fun w=>ov (iaV (some (none,7)) (a 1) (a 6)) fun x=>ov (faV (some 0) x) fun y=>ov (ldV (some none) y b) fun z=>ov (iaV (some (none,7)) (a 1) (a 6)) fun aa=>ov (faV (some 1) aa) fun ab=>ov (ldV (some (some 3)) ab b) fun ac=>ov (iaV (some (none,7)) (a 1) (a 6)) fun ad=>ov (faV (some 4) ad) fun ae=>ov (ldV (some (some 3)) ae b) fun af=>ov (bdV (binf P qtZ) [(0,z),(1,ac),(2,af),(3,(a 2))]) fun ag=>ov (ncV (a 0)) fun ah=>ov (faV (some 2) ah) fun ai=>(qhjZ b v w y z ab ac ae af ag ai a c m d e f g h i j k l n o p q r s t u x aa ad ah)∧(qhlZ ag b v w ai a c m d e f g h i j k l n o p q r s t u x y z aa ab ac ad ae af ah)
def qimZ (a:Env)(b:Heap)(c:Post)(m:List Nat)(d e f g h i:Value):Prop:=ov (ncV (a 0)) fun j=>ov (faV (some 2) j) fun k=>ov (iaV (some (some 8,1)) k (a 7)) fun l=>ov (ldV (some none) l b) fun n=>ov (lnV 7 n) fun o=>ov (ncV (a 0)) fun p=>ov (faV (some 0) p) fun q=>ov (ldV (some none) q b) fun r=>ov (binV BinOp.geq 2 false o r) fun s=>cdM s (qhfZ a b c m d e f g h i j k l n o p q r s) (qhmZ a b c m d e f g h i j k l n o p q r s)
def qinZ (a:Value)(b:Post)(m:List Nat)(c:Env)(d e f g:Value)(h:Heap):Prop:=ov (unV UnOp.not a) fun i=>cdM i (qilZ b m c d e f g a i h) (qimZ c h b m d e f g a i)
def qioZ (a:Env)(b:Heap)(c:Post)(m:List Nat)(d:Value):Prop:=ov (iaV (some (none,7)) (a 1) (a 6)) fun e=>ov (faV (some 0) e) fun f=>ov (ldV (some none) f b) fun g=>callM P qcnZ #[(a 0),(a 7),g] b fun h i=>qinZ h c m a d e f g i
def qipZ (a:Env)(b:Heap)(m:List Nat)(c:Value)(d:Post):Prop:=seqM (fun e=>qioZ a b e m c) (fun m f g=>ov (binV BinOp.add 2 true (f 7) (Value.int IntKind.i64 1)) fun h=>d .normal m (puts f [(16,(f 7)),(17,h),(7,h)]) g) d
def qiqZ (a:Env)(b:Heap)(m:List Nat)(c:Post):Prop:=ov (binV BinOp.lss 2 true (a 7) (Value.int IntKind.i64 8)) fun d=>cdM d (qipZ a b m d c) (c (.exit 2) m (puts a [(14,(a 7)),(15,d)]) b)
def qirZ (m:List Nat)(a:Env)(b c:Value)(d:Heap)(e:Post):Prop:=loopM (fun m f g h=>qiqZ f g m h) m (puts a [(8,(a 6)),(9,(a 1)),(10,b),(11,c),(7,(Value.int IntKind.i64 0))]) d (blkM 2 (blkM 1 e))
def qisZ (m:List Nat)(a:Env)(b c:Value)(d:Heap)(e:Post):Prop:=seqM (fun f=>qirZ m a b c d f) (fun m g h=>ov (binV BinOp.add 2 true (g 6) (Value.int IntKind.i64 1)) fun i=>e .normal m (puts g [(12,(g 6)),(13,i),(6,i)]) h) e
def qitZ (a:Env)(m:List Nat)(b:Heap)(c:Post):Prop:=ov (lnV 7 (a 1)) fun d=>ov (binV BinOp.lss 2 false (a 6) d) fun e=>cdM e (qisZ m a d e b c) (c (.exit 0) m (puts a [(8,(a 6)),(9,(a 1)),(10,d),(11,e)]) b)
def qeCZ (x0 x1 x2:Value)(h:Heap)(K:KTy):Prop:=loopM (fun m a b c=>qitZ a m b c) [] (puts (envOf [x0,x1,x2]) [(6,(Value.int IntKind.i64 0))]) h (blkM 0 (retM P [] K))
theorem qqwZ {x0 x1 x2:Value}{h:Heap}(hd:qeCZ x0 x1 x2 h K):callM P qazZ #[x0,x1,x2] h K :=
 call_of good mixed (fn:=Tryz.f191) (args:=[x0,x1,x2]) Tryz.func191 rfl (by kernel_rfl) (of_decide_eq_true rfl) (B:=qeCZ x0 x1 x2 h K) (by kernel_rfl) hd
def qrTZ (a x0 x1 b c d e f g h:Value)(i:Heap)(j:Post):Prop:=rfM P gd a #[14,15] (rfA P qbtZ 0) (rfB P qbtZ 0) [] (puts (envOf [x0,x1]) [(2,b),(3,c),(4,d),(5,(Value.slice none 0 0)),(6,e),(11,f),(7,g),(12,h),(13,a)]) i (blkM 0 j)
def qrUZ (a:Value)(b:Heap)(x0 x1 c d e f g:Value)(h:Post):Prop:=ov (ldV (some (some 2)) a b) fun i=>callM P qAZ #[i] b fun j k=>qrTZ j x0 x1 a c d e f g i k h
def qrVZ (a:Env)(b:Heap)(K:KTy)(m:List Nat):Prop:=ov (ldV (some (some 2)) (a 7) b) fun c=>ov (ldV (some none) (a 6) b) fun d=>stM (some 2) (a 4) c b fun e=>ldV (some none) (a 6) e=some d∧(retM P [.cell 4 49,.tmp 5] K) .ret m (puts a [(30,c),(31,d),(5,d)]) e
def qqxZ (x0 x1:Value)(h:Heap)(K:KTy):Prop:=nwM (some x0.cells) qaZ h fun a b=>nwM (some x1.cells) qarZ b fun c d=>nwM (zc P qaZ) qaZ d fun e f=>nwM (zc P qvZ) qvZ f fun g i=>ov (ldV (some (some 2)) a i) fun j=>nwM (zc P qaZ) qaZ i fun k l=>stM (some 2) k j l fun n=>seqM (fun o=>qrUZ a n x0 x1 c e g j k o) (fun m p q=>qrVZ p q K m) (retM P [.cell 4 49,.tmp 5] K)
theorem quYZ {x0 x1:Value}{h:Heap}(hd:qqxZ x0 x1 h K):callM P qbtZ #[x0,x1] h K :=
 call_of good mixed (fn:=Tryz.f192) (args:=[x0,x1]) Tryz.func192 rfl (by kernel_rfl) (of_decide_eq_true rfl) (B:=qqxZ x0 x1 h K) (by kernel_rfl) hd
def qqUZ (m:List Nat)(s:Env)(h:Heap)(Q:Post):Prop:=nwM (zc P qjZ) qjZ h fun a b=>stM (some 4) a (s 15) b fun c=>Q .normal m (puts s [(8,(s 14)),(9,a)]) c
theorem quEZ {m:List Nat}{s:Env}{h:Heap}{Q:Post}:den P gd (rfA P qbtZ 0) m s h Q=qqUZ m s h Q:=by kernel_rfl
def qqVZ (m:List Nat)(s:Env)(h:Heap)(Q:Post):Prop:=ov (ldV (some (some 2)) (s 7) h) fun a=>ov (faV (some 0) (s 9)) fun b=>ov (ldV (some none) b h) fun c=>ov (ldV (some none) (s 3) h) fun d=>ov (ldV (some none) (s 3) h) fun e=>callM P qlGZ #[c,d] h fun f g=>ldV (some (some 2)) (s 7) g=some a∧ldV (some none) (s 3) g=some e∧callM P qjWZ #[a,(s 8),f,e] g fun i j=>ov (exV i 0) fun k=>ov (exV i 1) fun l=>stM (some 2) (s 7) k j fun n=>ov (ldV (some none) (s 6) n) fun o=>vvM P (Builtin.append_ #[qvZ,qvZ] qvZ #[o,l]) n fun p q=>stM (some 1) (s 6) p q fun r=>Q .normal m (puts s [(10,(Value.slice none 0 0)),(17,a),(18,(s 8)),(19,b),(20,c),(21,d),(23,e),(22,f),(24,i),(16,i),(25,k),(26,l),(10,l),(27,o),(28,l),(29,p)]) r
theorem quFZ {m:List Nat}{s:Env}{h:Heap}{Q:Post}:den P gd (rfB P qbtZ 0) m s h Q=qqVZ m s h Q:=by kernel_rfl
def qljZ (a:Env)(b:Post)(m:List Nat)(c d e f g h i j k l n o p:Value)(q:Heap):Prop:=ov (binV BinOp.add 2 true (a 8) (Value.int IntKind.i64 1)) fun r=>b .normal m (puts a [(12,(a 8)),(13,(a 0)),(14,c),(15,d),(19,(a 7)),(20,(a 0)),(21,(a 8)),(22,e),(23,f),(24,g),(25,(a 0)),(26,(a 8)),(27,h),(28,i),(29,j),(30,(a 1)),(32,(a 1)),(31,k),(33,l),(18,l),(34,n),(35,o),(9,n),(10,o),(36,n),(7,n),(37,(a 6)),(38,o),(39,p),(6,p),(16,(a 8)),(17,r),(8,r)]) q
def qlkZ (a:Value)(b:Heap)(c:Value)(d:Env)(e:Value)(f:Post)(m:List Nat)(g h i j k l:Value):Prop:=ldV (some none) a b=some c∧callM P qcXZ #[(d 7),c,e,(d 1)] b fun n o=>ov (exV n 0) fun p=>ov (exV n 1) fun q=>vvM P (Builtin.append_ #[qUZ,qUZ] qUZ #[(d 6),q]) o fun r s=>qljZ d f m g h i a c j k l e n p q r s
def qllZ (a:Env)(b:Heap)(c:Post)(m:List Nat)(d e:Value):Prop:=ov (iaV (some (none,5)) (a 0) (a 8)) fun f=>ov (faV (some 0) f) fun g=>ov (ldV (some none) g b) fun h=>ov (iaV (some (none,5)) (a 0) (a 8)) fun i=>ov (faV (some 1) i) fun j=>ov (ldV (some none) j b) fun k=>callM P qbzZ #[k,(a 1)] b fun l n=>qlkZ g n h a l c m d e f i j k
def qlmZ (a:Env)(b:Heap)(c:Post)(m:List Nat):Prop:=ov (lnV 7 (a 0)) fun d=>ov (binV BinOp.lss 2 false (a 8) d) fun e=>cdM e (qllZ a b c m d e) (c (.exit 0) m (puts a [(12,(a 8)),(13,(a 0)),(14,d),(15,e)]) b)
def qlnZ (x0 x1:Value)(h:Heap)(a:Post):Prop:=loopM (fun m b c d=>qlmZ b c d m) [] (puts (envOf [x0,x1]) [(4,(Value.slice none 0 0)),(5,(Value.slice none 0 0)),(6,(Value.slice none 0 0)),(11,x0),(7,x0),(8,(Value.int IntKind.i64 0))]) h (blkM 0 a)
def qhQZ (x0 x1:Value)(h:Heap)(K:KTy):Prop:=seqM (fun a=>qlnZ x0 x1 h a) (fun m b c=>(retM P [.tmp 4,.tmp 5] K) .ret m (puts b [(40,(b 7)),(41,(b 6)),(4,(b 7)),(5,(b 6))]) c) (retM P [.tmp 4,.tmp 5] K)
theorem qspZ {x0 x1:Value}{h:Heap}(hd:qhQZ x0 x1 h K):callM P qfNZ #[x0,x1] h K :=
 call_of good mixed (fn:=Tryz.f193) (args:=[x0,x1]) Tryz.func193 rfl (by kernel_rfl) (of_decide_eq_true rfl) (B:=qhQZ x0 x1 h K) (by kernel_rfl) hd
def qloZ (a b:Value)(c:Heap)(x1:Value)(K:KTy):Prop:=gM (isB a true) (fun d=>d b c) c fun e f=>gM (isB a true) (fun g=>g x1 f) f fun h i=>gM (isB a true) (fun j=>ov (binV BinOp.shr 2 false e h) fun k=>j k i) i fun l m=>gM (isB a true) (fun n=>ov (binV BinOp.and 2 true l (Value.int IntKind.u32 1)) fun o=>n o m) m fun p q=>gM (isB a true) (fun r=>ov (binV BinOp.eql 2 true p (Value.int IntKind.u32 1)) fun s=>r s q) q fun t u=>ov (pkV a t (Value.bool false)) fun v=>K v u
def qlpZ (a x1:Value)(b:Heap)(K:KTy):Prop:=ov (exV a 0) fun c=>ov (exV a 1) fun d=>callM P qpbZ #[x1] b fun e f=>qloZ e c f x1 K
def qhRZ (x0 x1 x2:Value)(h:Heap)(K:KTy):Prop:=ov (ncV x0) fun a=>ov (faV (some 0) a) fun b=>ov (ldV (some (some 2)) b h) fun c=>callM P qcpZ #[c,x2] h fun d e=>qlpZ d x1 e K
theorem qsqZ {x0 x1 x2:Value}{h:Heap}(hd:qhRZ x0 x1 x2 h K):callM P qfOZ #[x0,x1,x2] h K :=
 call_of good mixed (fn:=Tryz.f195) (args:=[x0,x1,x2]) Tryz.func195 rfl (by kernel_rfl) (of_decide_eq_true rfl) (B:=qhRZ x0 x1 x2 h K) (by kernel_rfl) hd
def qfiZ (a:Post)(m:List Nat)(b:Env)(c d e f g h i j k l n o p q r s t u v w x y z:Value)(aa:Heap):Prop:=a .ret m (puts b [(8,(b 7)),(9,(b 0)),(10,c),(11,d),(12,e),(13,f),(14,g),(17,(b 0)),(18,h),(19,i),(20,j),(21,(b 7)),(22,k),(23,l),(24,n),(25,(b 1)),(26,o),(27,o),(28,p),(29,q),(30,r),(31,s),(32,t),(33,u),(34,v),(35,w),(36,x),(37,y),(38,z),(6,(Value.bool true))]) aa
def qbQZ (a:Env)(b:Post)(m:List Nat)(c d e f g h i j k l n o p q r s t u v w x y z:Value)(aa:Heap):Prop:=ov (binV BinOp.add 2 true (a 7) (Value.int IntKind.i64 1)) fun ab=>b .normal m (puts a [(8,(a 7)),(9,(a 0)),(10,c),(11,d),(12,e),(13,f),(14,g),(17,(a 0)),(18,h),(19,i),(20,j),(21,(a 7)),(22,k),(23,l),(24,n),(25,(a 1)),(26,o),(27,o),(28,p),(29,q),(30,r),(31,s),(32,t),(33,u),(34,v),(35,w),(36,x),(37,y),(38,z),(15,(a 7)),(16,ab),(7,ab)]) aa
def qfjZ (a:Env)(b:Heap)(c:Post)(m:List Nat)(d e f g h:Value):Prop:=ov (ncV (a 0)) fun i=>ov (faV (some 1) i) fun j=>ov (ldV (some none) j b) fun k=>ov (iaV (some (none,2)) k (a 7)) fun l=>ov (faV (some 0) l) fun n=>ov (ldV (some none) n b) fun o=>ov (binV BinOp.eql 2 false o (a 1)) fun p=>gM (isB p true) (fun q=>q (a 0) b) b fun r s=>gM (isB p true) (fun t=>ov (ncV r) fun u=>t u s) s fun v w=>gM (isB p true) (fun x=>ov (faV (some 1) v) fun y=>x y w) w fun z aa=>gM (isB p true) (fun ab=>ov (ldV (some none) z aa) fun ac=>ab ac aa) aa fun ad ae=>gM (isB p true) (fun af=>af (a 7) ae) ae fun ag ah=>gM (isB p true) (fun ai=>ov (iaV (some (none,2)) ad ag) fun aj=>ai aj ah) ah fun ak al=>gM (isB p true) (fun am=>ov (faV (some 1) ak) fun an=>am an al) al fun ao ap=>gM (isB p true) (fun aq=>ov (ldV (some none) ao ap) fun ar=>aq ar ap) ap fun au av=>gM (isB p true) (fun aw=>aw (a 2) av) av fun ax ay=>gM (isB p true) (fun az=>ov (binV BinOp.eql 3 false au ax) fun ba=>az ba ay) ay fun bb bc=>ov (pkV p bb (Value.bool false)) fun bd=>cdM bd (qfiZ c m a d e f g h i j k l n o p r v z ad ag ak ao au ax bb bd bc) (qbQZ a c m d e f g h i j k l n o p r v z ad ag ak ao au ax bb bd bc)
def qfkZ (a:Env)(b:Heap)(c:Post)(m:List Nat):Prop:=ov (ncV (a 0)) fun d=>ov (faV (some 1) d) fun e=>ov (ldV (some none) e b) fun f=>ov (lnV 7 f) fun g=>ov (binV BinOp.lss 2 false (a 7) g) fun h=>cdM h (qfjZ a b c m d e f g h) (c (.exit 0) m (puts a [(8,(a 7)),(9,(a 0)),(10,d),(11,e),(12,f),(13,g),(14,h)]) b)
def qflZ (x0 x1 x2:Value)(h:Heap)(a:Post):Prop:=loopM (fun m b c d=>qfkZ b c d m) [] (puts (envOf [x0,x1,x2]) [(6,(Value.bool false)),(7,(Value.int IntKind.i64 0))]) h (blkM 0 a)
def qcHZ (x0 x1 x2:Value)(h:Heap)(K:KTy):Prop:=seqM (fun a=>qflZ x0 x1 x2 h a) (fun m b c=>(retM P [.tmp 6] K) .ret m (puts b [(6,(Value.bool false))]) c) (retM P [.tmp 6] K)
theorem qphZ {x0 x1 x2:Value}{h:Heap}(hd:qcHZ x0 x1 x2 h K):callM P qcnZ #[x0,x1,x2] h K :=
 call_of good mixed (fn:=Tryz.f197) (args:=[x0,x1,x2]) Tryz.func197 rfl (by kernel_rfl) (of_decide_eq_true rfl) (B:=qcHZ x0 x1 x2 h K) (by kernel_rfl) hd
def qcMZ (a:Post)(m:List Nat)(b:Env)(c d e f g h i j k:Value)(l:Heap):Prop:=a .ret m (puts b [(9,c),(10,(b 8)),(11,d),(12,e),(3,(b 8)),(4,e),(13,(b 0)),(14,e),(15,f),(16,g),(17,(b 8)),(18,h),(19,i),(20,j),(21,k)]) l
def qcNZ (a:Env)(b:Post)(m:List Nat)(c d e f g h i j k:Value)(l:Heap):Prop:=ov (binV BinOp.add 2 true (a 8) (Value.int IntKind.i64 1)) fun n=>b .normal m (puts a [(9,c),(10,(a 8)),(11,d),(12,e),(3,(a 8)),(4,e),(13,(a 0)),(14,e),(15,f),(16,g),(17,(a 8)),(18,h),(19,i),(20,j),(21,k),(22,n),(8,n)]) l
def qaBZ (a:Value)(b:Post)(m:List Nat)(c:Env)(d e f g h i j:Value)(k:Heap):Prop:=ov (unV UnOp.not a) fun l=>cdM l (qcMZ b m c d e f g h i j a l k) (qcNZ c b m d e f g h i j a l k)
def qcOZ (a:Env)(b:Heap)(c:Post)(m:List Nat)(e:Value):Prop:=ov (iaV (some (none,1)) (a 6) (a 8)) fun f=>ov (ldV (some none) f b) fun g=>ov (faV (some 1) (a 1)) fun h=>ov (ldV (some none) h b) fun i=>ov (iaV (some (none,4)) i (a 8)) fun j=>ov (ldV (some (some 4)) j b) fun k=>nxM P (do let d ← Deferred.ofValue (a 0) #[g,k] ; invoke d.target d.args) b fun l n=>qaBZ l c m a e f g h i j k n
def qcPZ (a:Env)(b:Heap)(c:Post)(m:List Nat):Prop:=ov (binV BinOp.lss 2 false (a 8) (a 7)) fun d=>cdM d (qcOZ a b c m d) (c (.exit 0) m (puts a [(9,d)]) b)
def qaSZ (x0 x1:Value)(h:Heap)(K:KTy):Prop:=ov (faV (some 0) x1) fun a=>ov (ldV (some none) a h) fun b=>ov (lnV 7 b) fun c=>loopM (fun m d e f=>qcPZ d e f m) [] (puts (envOf [x0,x1]) [(5,a),(6,b),(7,c),(8,(Value.int IntKind.i64 0))]) h (blkM 0 (retM P [] K))
theorem qjXZ {x0 x1:Value}{h:Heap}(hd:qaSZ x0 x1 h K):callM P qMZ #[x0,x1] h K :=
 call_of good mixed (fn:=Tryz.f204) (args:=[x0,x1]) Tryz.func204 rfl (by kernel_rfl) (of_decide_eq_true rfl) (B:=qaSZ x0 x1 h K) (by kernel_rfl) hd
def qfmZ (a:Post)(m:List Nat)(b:Env)(c d e f g h:Value)(i:Heap):Prop:=a .ret m (puts b [(14,c),(15,(b 13)),(5,(b 13)),(16,(b 0)),(17,(b 13)),(18,d),(19,e),(20,(b 1)),(21,(b 13)),(22,f),(23,g),(24,h),(4,(Value.bool false))]) i
def qfnZ (a:Env)(b:Post)(m:List Nat)(c d e f g h:Value)(i:Heap):Prop:=ov (binV BinOp.add 2 true (a 13) (Value.int IntKind.i64 1)) fun j=>b .normal m (puts a [(14,c),(15,(a 13)),(5,(a 13)),(16,(a 0)),(17,(a 13)),(18,d),(19,e),(20,(a 1)),(21,(a 13)),(22,f),(23,g),(24,h),(25,j),(13,j)]) i
def qfoZ (a:Env)(b:Heap)(c:Post)(m:List Nat)(d:Value):Prop:=ov (iaV (some (none,1)) (a 0) (a 13)) fun e=>ov (ldV (some none) e b) fun f=>ov (iaV (some (none,1)) (a 1) (a 13)) fun g=>ov (ldV (some none) g b) fun h=>ov (binV BinOp.neq 3 false f h) fun i=>cdM i (qfmZ c m a d e f g h i b) (qfnZ a c m d e f g h i b)
def qfpZ (a:Env)(b:Heap)(c:Post)(m:List Nat):Prop:=ov (binV BinOp.lss 2 false (a 13) (a 12)) fun d=>cdM d (qfoZ a b c m d) (c (.exit 0) m (puts a [(14,d)]) b)
def qfqZ (x0 x1 a b c:Value)(h:Heap)(d:Post):Prop:=ov (lnV 7 x0) fun e=>loopM (fun m f g i=>qfpZ f g i m) [] (puts (envOf [x0,x1]) [(4,(Value.bool false)),(6,x0),(7,a),(8,x1),(9,b),(10,c),(11,x0),(12,e),(13,(Value.int IntKind.i64 0))]) h (blkM 0 d)
def qfrZ (x0 x1 a b c:Value)(h:Heap)(K:KTy):Prop:=seqM (fun d=>qfqZ x0 x1 a b c h d) (fun m e f=>(retM P [.tmp 4] K) .ret m (puts e [(4,(Value.bool true))]) f) (retM P [.tmp 4] K)
def qcIZ (x0 x1:Value)(h:Heap)(K:KTy):Prop:=ov (lnV 7 x0) fun a=>ov (lnV 7 x1) fun b=>ov (binV BinOp.neq 2 false a b) fun c=>cdM c (K (Value.bool false) h) (qfrZ x0 x1 a b c h K)
theorem qpiZ {x0 x1:Value}{h:Heap}(hd:qcIZ x0 x1 h K):callM P qcoZ #[x0,x1] h K :=
 call_of good mixed (fn:=Tryz.f205) (args:=[x0,x1]) Tryz.func205 rfl (by kernel_rfl) (of_decide_eq_true rfl) (B:=qcIZ x0 x1 h K) (by kernel_rfl) hd
def qdFZ (a x0 b c d:Value)(e:Heap)(f:Post):Prop:=rfM P gd a #[7,8] (rfA P qpZ 0) (rfB P qpZ 0) [] (puts (envOf [x0]) [(1,b),(2,(Value.slice none 0 0)),(3,c),(5,d),(6,a)]) e (blkM 0 f)
def qdGZ (a:Value)(b:Heap)(x0 c:Value)(d:Post):Prop:=ov (ldV (some (some 2)) a b) fun e=>callM P qAZ #[e] b fun f g=>qdFZ f x0 a c e g d
def qbjZ (x0:Value)(h:Heap)(K:KTy):Prop:=nwM (some x0.cells) qaZ h fun a b=>nwM (zc P qgZ) qgZ b fun c d=>seqM (fun e=>qdGZ a d x0 c e) (fun m f g=>ov (ldV (some none) (f 3) g) fun i=>(retM P [.tmp 2] K) .ret m (puts f [(13,i),(2,i)]) g) (retM P [.tmp 2] K)
theorem qlqZ {x0:Value}{h:Heap}(hd:qbjZ x0 h K):callM P qpZ #[x0] h K :=
 call_of good mixed (fn:=Tryz.f206) (args:=[x0]) Tryz.func206 rfl (by kernel_rfl) (of_decide_eq_true rfl) (B:=qbjZ x0 h K) (by kernel_rfl) hd
def qdfZ (m:List Nat)(s:Env)(h:Heap)(Q:Post):Prop:=Q .normal m (puts s [(4,(s 7))]) h
theorem qjHZ {m:List Nat}{s:Env}{h:Heap}{Q:Post}:den P gd (rfA P qpZ 0) m s h Q=qdfZ m s h Q:=by kernel_rfl
def qdgZ (m:List Nat)(s:Env)(h:Heap)(Q:Post):Prop:=ov (ldV (some none) (s 3) h) fun a=>bsM (bsI P qgZ) 1 [(0,(s 4))] h fun b c=>vvM P (Builtin.append_ #[qgZ,qgZ] qgZ #[a,b]) c fun d e=>stM (some 1) (s 3) d e fun f=>Q .normal m (puts s [(9,a),(10,(s 4)),(11,b),(12,d)]) f
theorem qjIZ {m:List Nat}{s:Env}{h:Heap}{Q:Post}:den P gd (rfB P qpZ 0) m s h Q=qdgZ m s h Q:=by kernel_rfl
def qebZ (a:Value)(b:Heap)(c:Value)(K:KTy):Prop:=ov (ldV (some (some 4)) a b) fun d=>stM (some 4) c d b fun e=>ov (ldV (some (some 4)) c e) fun f=>K (.tuple #[f,(Value.bool false)]) e
def qecZ (a:Value)(b:Heap)(c d:Value)(K:KTy):Prop:=ov (faV (some 1) a) fun e=>ov (ldV (some none) e b) fun f=>ov (iaV (some (none,4)) f c) fun g=>ov (ldV (some (some 4)) g b) fun h=>stM (some 4) d h b fun i=>ov (ldV (some (some 4)) d i) fun j=>K (.tuple #[j,(Value.bool true)]) i
def qedZ (a b:Value)(c:Heap)(d:Value)(K:KTy)(e:Value):Prop:=ov (exV a 0) fun f=>ov (exV a 1) fun g=>ov (unV UnOp.not g) fun h=>cdM h (qebZ b c d K) (qecZ e c f d K)
def qbxZ (x0 x1:Value)(h:Heap)(K:KTy):Prop:=nwM (some x0.cells) qaZ h fun a b=>nwM (zc P qjZ) qjZ b fun c d=>nwM (zc P qjZ) qjZ d fun e f=>ov (ldV (some (some 2)) a f) fun g=>callM P qEZ #[g,x1] f fun i j=>qedZ i e j c K a
theorem qlSZ {x0 x1:Value}{h:Heap}(hd:qbxZ x0 x1 h K):callM P qGZ #[x0,x1] h K :=
 call_of good mixed (fn:=Tryz.f207) (args:=[x0,x1]) Tryz.func207 rfl (by kernel_rfl) (of_decide_eq_true rfl) (B:=qbxZ x0 x1 h K) (by kernel_rfl) hd
def qbRZ (a:Post)(m:List Nat)(b:Env)(c d e f g h:Value)(i:Heap):Prop:=a .ret m (puts b [(14,c),(15,(b 13)),(5,(b 13)),(16,(b 0)),(17,(b 13)),(18,d),(19,e),(20,(b 1)),(21,(b 13)),(22,f),(23,g),(24,h),(4,(Value.bool false))]) i
def qbSZ (a:Env)(b:Post)(m:List Nat)(c d e f g h:Value)(i:Heap):Prop:=ov (binV BinOp.add 2 true (a 13) (Value.int IntKind.i64 1)) fun j=>b .normal m (puts a [(14,c),(15,(a 13)),(5,(a 13)),(16,(a 0)),(17,(a 13)),(18,d),(19,e),(20,(a 1)),(21,(a 13)),(22,f),(23,g),(24,h),(25,j),(13,j)]) i
def qbTZ (a:Env)(b:Heap)(c:Post)(m:List Nat)(d:Value):Prop:=ov (iaV (some (none,4)) (a 0) (a 13)) fun e=>ov (ldV (some (some 4)) e b) fun f=>ov (iaV (some (none,4)) (a 1) (a 13)) fun g=>ov (ldV (some (some 4)) g b) fun h=>pvM P (do eqGuard BinOp.neq qcZ (Operand.tmp 19) (Operand.tmp 23) f h; binOp BinOp.neq qcZ f h) fun i=>cdM i (qbRZ c m a d e f g h i b) (qbSZ a c m d e f g h i b)
def qbUZ (a:Env)(b:Heap)(c:Post)(m:List Nat):Prop:=ov (binV BinOp.lss 2 false (a 13) (a 12)) fun d=>cdM d (qbTZ a b c m d) (c (.exit 0) m (puts a [(14,d)]) b)
def qbVZ (x0 x1 a b c:Value)(h:Heap)(d:Post):Prop:=ov (lnV 7 x0) fun e=>loopM (fun m f g i=>qbUZ f g i m) [] (puts (envOf [x0,x1]) [(4,(Value.bool false)),(6,x0),(7,a),(8,x1),(9,b),(10,c),(11,x0),(12,e),(13,(Value.int IntKind.i64 0))]) h (blkM 0 d)
def qbWZ (x0 x1 a b c:Value)(h:Heap)(K:KTy):Prop:=seqM (fun d=>qbVZ x0 x1 a b c h d) (fun m e f=>(retM P [.tmp 4] K) .ret m (puts e [(4,(Value.bool true))]) f) (retM P [.tmp 4] K)
def qavZ (x0 x1:Value)(h:Heap)(K:KTy):Prop:=ov (lnV 7 x0) fun a=>ov (lnV 7 x1) fun b=>ov (binV BinOp.neq 2 false a b) fun c=>cdM c (K (Value.bool false) h) (qbWZ x0 x1 a b c h K)
theorem qiRZ {x0 x1:Value}{h:Heap}(hd:qavZ x0 x1 h K):callM P qanZ #[x0,x1] h K :=
 call_of good mixed (fn:=Tryz.f208) (args:=[x0,x1]) Tryz.func208 rfl (by kernel_rfl) (of_decide_eq_true rfl) (B:=qavZ x0 x1 h K) (by kernel_rfl) hd
def qumZ (a:Env)(b:Post)(m:List Nat)(c:Value)(d:Heap):Prop:=ov (stV (a 0) (a 7)) fun e=>ov (cvV (some .u64) e) fun f=>ov (binV BinOp.xor 2 false (a 3) f) fun g=>ov (binV BinOp.mul 2 true g (Value.int IntKind.u64 1099511628211)) fun h=>ov (binV BinOp.add 2 true (a 7) (Value.int IntKind.i64 1)) fun i=>b .normal m (puts a [(8,c),(9,(a 7)),(4,(a 7)),(10,(a 3)),(11,(a 0)),(12,(a 7)),(13,e),(14,f),(15,g),(3,g),(16,g),(17,h),(3,h),(18,i),(7,i)]) d
def qunZ (a:Env)(b:Post)(m:List Nat)(c:Heap):Prop:=ov (binV BinOp.lss 2 false (a 7) (a 6)) fun d=>cdM d (qumZ a b m d c) (b (.exit 0) m (puts a [(8,d)]) c)
def quoZ (x0:Value)(h:Heap)(a:Post):Prop:=ov (lnV 3 x0) fun b=>loopM (fun m c d e=>qunZ c e m d) [] (puts (envOf [x0]) [(2,(Value.int IntKind.u64 0)),(3,(Value.int IntKind.u64 14695981039346656037)),(5,x0),(6,b),(7,(Value.int IntKind.i64 0))]) h (blkM 0 a)
def qtFZ (x0:Value)(h:Heap)(K:KTy):Prop:=seqM (fun a=>quoZ x0 h a) (fun m b c=>(retM P [.tmp 2] K) .ret m (puts b [(19,(b 3)),(2,(b 3))]) c) (retM P [.tmp 2] K)
theorem qvsZ {x0:Value}{h:Heap}(hd:qtFZ x0 h K):callM P qsdZ #[x0] h K :=
 call_of good mixed (fn:=Tryz.f209) (args:=[x0]) Tryz.func209 rfl (by kernel_rfl) (of_decide_eq_true rfl) (B:=qtFZ x0 h K) (by kernel_rfl) hd
def qoIZ (a:Env)(b:Post)(m:List Nat)(c d:Value)(e:Heap):Prop:=ov (stV (a 0) (a 4)) fun f=>ov (cvV (some .u64) f) fun g=>ov (binV BinOp.xor 2 false (a 3) g) fun h=>ov (binV BinOp.shl 2 true h (Value.int IntKind.u64 40)) fun i=>ov (binV BinOp.mul 2 true h (Value.int IntKind.u64 435)) fun j=>ov (binV BinOp.add 2 false i j) fun k=>ov (binV BinOp.add 2 true (a 4) (Value.int IntKind.i64 1)) fun l=>b .normal m (puts a [(6,(a 4)),(7,(a 0)),(8,c),(9,d),(12,(a 3)),(13,(a 0)),(14,(a 4)),(15,f),(16,g),(17,h),(5,h),(18,h),(19,i),(20,h),(21,j),(22,k),(3,k),(10,(a 4)),(11,l),(4,l)]) e
def qoJZ (a:Env)(b:Post)(m:List Nat)(c:Heap):Prop:=ov (lnV 3 (a 0)) fun d=>ov (binV BinOp.lss 2 false (a 4) d) fun e=>cdM e (qoIZ a b m d e c) (b (.exit 0) m (puts a [(6,(a 4)),(7,(a 0)),(8,d),(9,e)]) c)
def qoKZ (x0:Value)(h:Heap)(a:Post):Prop:=loopM (fun m b c d=>qoJZ b d m c) [] (puts (envOf [x0]) [(2,(Value.int IntKind.u64 0)),(3,(Value.int IntKind.u64 14695981039346656037)),(4,(Value.int IntKind.i64 0))]) h (blkM 0 a)
def qkCZ (x0:Value)(h:Heap)(K:KTy):Prop:=seqM (fun a=>qoKZ x0 h a) (fun m b c=>(retM P [.tmp 2] K) .ret m (puts b [(23,(b 3)),(2,(b 3))]) c) (retM P [.tmp 2] K)
theorem qufZ {x0:Value}{h:Heap}(hd:qkCZ x0 h K):callM P qjpZ #[x0] h K :=
 call_of good mixed (fn:=Tryz.f210) (args:=[x0]) Tryz.func210 rfl (by kernel_rfl) (of_decide_eq_true rfl) (B:=qkCZ x0 h K) (by kernel_rfl) hd
def qqyZ (x0:Value)(h:Heap)(K:KTy):Prop:=ov (binV BinOp.neq 3 true x0 (Value.string { data:=#[] })) fun a=>gM (isB a true) (fun b=>b x0 h) h fun c d=>gM (isB a true) (fun e=>ov (lnV 3 c) fun f=>e f d) d fun g i=>gM (isB a true) (fun j=>ov (binV BinOp.leq 2 true g (Value.int IntKind.i64 16)) fun k=>j k i) i fun l m=>ov (pkV a l (Value.bool false)) fun n=>K n m
theorem quZZ {x0:Value}{h:Heap}(hd:qqyZ x0 h K):callM P qfcZ #[x0] h K :=
 call_of good mixed (fn:=Tryz.f211) (args:=[x0]) Tryz.func211 rfl (by kernel_rfl) (of_decide_eq_true rfl) (B:=qqyZ x0 h K) (by kernel_rfl) hd
def qqzZ (x0 x1 x2:Value)(h:Heap)(K:KTy):Prop:=ov (binV BinOp.geq 2 true x0 (Value.int IntKind.i64 0)) fun a=>gM (isB a true) (fun b=>b x0 h) h fun c d=>gM (isB a true) (fun e=>ov (binV BinOp.leq 2 true c (Value.int IntKind.i64 255)) fun f=>e f d) d fun g i=>ov (pkV a g (Value.bool false)) fun j=>gM (isB j true) (fun k=>k x1 i) i fun l m=>gM (isB j true) (fun n=>ov (binV BinOp.geq 2 true l (Value.int IntKind.i64 1)) fun o=>n o m) m fun p q=>ov (pkV j p (Value.bool false)) fun r=>gM (isB r true) (fun s=>s x1 q) q fun t u=>gM (isB r true) (fun v=>ov (binV BinOp.leq 2 true t (Value.int IntKind.i64 9)) fun w=>v w u) u fun x y=>ov (pkV r x (Value.bool false)) fun z=>gM (isB z true) (fun aa=>aa x2 y) y fun ab ac=>gM (isB z true) (fun ad=>ov (binV BinOp.geq 2 true ab (Value.int IntKind.i64 0)) fun ae=>ad ae ac) ac fun af ag=>ov (pkV z af (Value.bool false)) fun ah=>gM (isB ah true) (fun ai=>ai x2 ag) ag fun aj ak=>gM (isB ah true) (fun al=>ov (binV BinOp.leq 2 true aj (Value.int IntKind.i64 9)) fun am=>al am ak) ak fun an ao=>ov (pkV ah an (Value.bool false)) fun ap=>K ap ao
theorem qvaZ {x0 x1 x2:Value}{h:Heap}(hd:qqzZ x0 x1 x2 h K):callM P qpMZ #[x0,x1,x2] h K :=
 call_of good mixed (fn:=Tryz.f212) (args:=[x0,x1,x2]) Tryz.func212 rfl (by kernel_rfl) (of_decide_eq_true rfl) (B:=qqzZ x0 x1 x2 h K) (by kernel_rfl) hd
def qkDZ (x0 x1:Value)(h:Heap)(K:KTy):Prop:=ov (ncV x0) fun a=>ov (faV (some 0) a) fun b=>ov (ldV (some none) b h) fun c=>ov (ncV x0) fun d=>ov (faV (some 1) d) fun e=>ov (ldV (some none) e h) fun f=>callM P qktZ #[x1,c,f] h fun g i=>K (.tuple #[]) i
theorem qugZ {x0 x1:Value}{h:Heap}(hd:qkDZ x0 x1 h K):callM P qaHZ #[x0,x1] h K :=
 call_of good mixed (fn:=Tryz.f213) (args:=[x0,x1]) Tryz.func213 rfl (by kernel_rfl) (of_decide_eq_true rfl) (B:=qkDZ x0 x1 h K) (by kernel_rfl) hd
def qjJZ (x0 x1:Value)(h:Heap)(K:KTy):Prop:=ov (ncV x0) fun a=>ov (faV (some 0) a) fun b=>ov (ldV (some none) b h) fun c=>ov (ncV x0) fun d=>ov (faV (some 1) d) fun e=>ov (ldV (some none) e h) fun f=>callM P qjlZ #[x1,c,f] h fun g i=>K (.tuple #[]) i
theorem qtGZ {x0 x1:Value}{h:Heap}(hd:qjJZ x0 x1 h K):callM P qasZ #[x0,x1] h K :=
 call_of good mixed (fn:=Tryz.f214) (args:=[x0,x1]) Tryz.func214 rfl (by kernel_rfl) (of_decide_eq_true rfl) (B:=qjJZ x0 x1 h K) (by kernel_rfl) hd
def qkEZ (x0 x1:Value)(h:Heap)(K:KTy):Prop:=ov (ncV x0) fun a=>ov (faV (some 0) a) fun b=>ov (ldV (some none) b h) fun c=>callM P qksZ #[x1,c] h fun d e=>ov (ncV x0) fun f=>ov (faV (some 4) f) fun g=>stM (some 3) g d e fun i=>K (.tuple #[]) i
theorem quhZ {x0 x1:Value}{h:Heap}(hd:qkEZ x0 x1 h K):callM P qaIZ #[x0,x1] h K :=
 call_of good mixed (fn:=Tryz.f215) (args:=[x0,x1]) Tryz.func215 rfl (by kernel_rfl) (of_decide_eq_true rfl) (B:=qkEZ x0 x1 h K) (by kernel_rfl) hd
def qjKZ (x0 x1:Value)(h:Heap)(K:KTy):Prop:=ov (ncV x0) fun a=>ov (faV (some 2) a) fun b=>ov (ldV (some none) b h) fun c=>ov (ncV x0) fun e=>ov (faV (some 4) e) fun f=>ov (ldV (some (some 3)) f h) fun g=>nxM P (do let d ← Deferred.ofValue c #[x1,g] ; invoke d.target d.args) h fun i j=>ov (ncV x0) fun k=>ov (faV (some 8) k) fun l=>stM (some 4) l i j fun m=>K (.tuple #[]) m
theorem qtHZ {x0 x1:Value}{h:Heap}(hd:qjKZ x0 x1 h K):callM P qatZ #[x0,x1] h K :=
 call_of good mixed (fn:=Tryz.f216) (args:=[x0,x1]) Tryz.func216 rfl (by kernel_rfl) (of_decide_eq_true rfl) (B:=qjKZ x0 x1 h K) (by kernel_rfl) hd
def qhSZ (x0 x1:Value)(h:Heap)(K:KTy):Prop:=ov (ncV x0) fun a=>ov (faV (some 0) a) fun b=>ov (ldV (some none) b h) fun c=>ov (ncV x0) fun d=>ov (faV (some 1) d) fun e=>ov (ldV (some none) e h) fun f=>callM P qhzZ #[x1,c,f] h fun g i=>K (.tuple #[]) i
theorem qsrZ {x0 x1:Value}{h:Heap}(hd:qhSZ x0 x1 h K):callM P qYZ #[x0,x1] h K :=
 call_of good mixed (fn:=Tryz.f217) (args:=[x0,x1]) Tryz.func217 rfl (by kernel_rfl) (of_decide_eq_true rfl) (B:=qhSZ x0 x1 h K) (by kernel_rfl) hd
def qlTZ (x0 x1:Value)(h:Heap)(K:KTy):Prop:=ov (ncV x0) fun a=>ov (faV (some 0) a) fun b=>ov (ldV (some none) b h) fun c=>ov (ncV x0) fun d=>ov (faV (some 1) d) fun e=>ov (ldV (some none) e h) fun f=>callM P qlIZ #[x1,c,f] h fun g i=>K (.tuple #[]) i
theorem quyZ {x0 x1:Value}{h:Heap}(hd:qlTZ x0 x1 h K):callM P qaXZ #[x0,x1] h K :=
 call_of good mixed (fn:=Tryz.f218) (args:=[x0,x1]) Tryz.func218 rfl (by kernel_rfl) (of_decide_eq_true rfl) (B:=qlTZ x0 x1 h K) (by kernel_rfl) hd
def qiSZ (x0 x1:Value)(h:Heap)(K:KTy):Prop:=ov (ncV x0) fun a=>ov (faV (some 0) a) fun b=>ov (ldV (some none) b h) fun c=>ov (ncV x0) fun d=>ov (faV (some 1) d) fun e=>ov (ldV (some none) e h) fun f=>callM P qizZ #[x1,c,f] h fun g i=>K (.tuple #[]) i
theorem qtdZ {x0 x1:Value}{h:Heap}(hd:qiSZ x0 x1 h K):callM P qakZ #[x0,x1] h K :=
 call_of good mixed (fn:=Tryz.f219) (args:=[x0,x1]) Tryz.func219 rfl (by kernel_rfl) (of_decide_eq_true rfl) (B:=qiSZ x0 x1 h K) (by kernel_rfl) hd
def qgbZ (x0 x1 x2:Value)(h:Heap)(K:KTy):Prop:=nwM (some x1.cells) qzZ h fun a b=>nwM (zc P qmZ) qmZ b fun c d=>ov (ldV (some none) x2 d) fun e=>ov (ldV (some (some 3)) a d) fun f=>callM P qjnZ #[x0,(Value.int IntKind.i64 8),e,f] d fun g i=>ov (bdV (binf P qmZ) []) fun j=>stM (some 4) c j i fun k=>ov (ldV (some (some 4)) c k) fun l=>K l k
theorem qrWZ {x0 x1 x2:Value}{h:Heap}(hd:qgbZ x0 x1 x2 h K):callM P qfvZ #[x0,x1,x2] h K :=
 call_of good mixed (fn:=Tryz.f220) (args:=[x0,x1,x2]) Tryz.func220 rfl (by kernel_rfl) (of_decide_eq_true rfl) (B:=qgbZ x0 x1 x2 h K) (by kernel_rfl) hd
def qssZ (x0 x1:Value)(h:Heap)(K:KTy):Prop:=ov (binV BinOp.sub 2 true (Value.int IntKind.u64 18446744073709551615) x0) fun a=>ov (binV BinOp.gtr 2 false x1 a) fun b=>cdM b (K (Value.int IntKind.u64 18446744073709551615) h) (ov (binV BinOp.add 2 false x0 x1) fun c=>K c h)
theorem qvqZ {x0 x1:Value}{h:Heap}(hd:qssZ x0 x1 h K):callM P qpqZ #[x0,x1] h K :=
 call_of good mixed (fn:=Tryz.f221) (args:=[x0,x1]) Tryz.func221 rfl (by kernel_rfl) (of_decide_eq_true rfl) (B:=qssZ x0 x1 h K) (by kernel_rfl) hd
def qiTZ (x0:Value)(h:Heap)(K:KTy):Prop:=ov (lnV 3 x0) fun a=>ov (binV BinOp.gtr 2 true a (Value.int IntKind.i64 0)) fun b=>gM (isB b true) (fun c=>c x0 h) h fun d e=>gM (isB b true) (fun f=>ov (lnV 3 d) fun g=>f g e) e fun i j=>gM (isB b true) (fun k=>ov (binV BinOp.lss 2 true i (Value.int IntKind.i64 17)) fun l=>k l j) j fun m n=>ov (pkV b m (Value.bool false)) fun o=>K o n
theorem qteZ {x0:Value}{h:Heap}(hd:qiTZ x0 h K):callM P qaQZ #[x0] h K :=
 call_of good mixed (fn:=Tryz.f222) (args:=[x0]) Tryz.func222 rfl (by kernel_rfl) (of_decide_eq_true rfl) (B:=qiTZ x0 h K) (by kernel_rfl) hd
end Go.Proofs.YtmbningljbcpkaaGreat
namespace Go.Proofs.YtmbningljbcpkaaGreat
open Go Go.Den
set_option maxRecDepth 100000
set_option linter.unusedVariables false
def qiUZ (x0:Value)(h:Heap)(K:KTy):Prop:=nwM (some x0.cells) qnZ h fun a b=>ov (faV (some 0) a) fun c=>ov (ldV (some none) c b) fun d=>ov (binV BinOp.sub 2 true d (Value.int IntKind.i64 1)) fun e=>K e b
variable {K:KTy}
theorem qtfZ {x0:Value}{h:Heap}(hd:qiUZ x0 h K):callM P qhEZ #[x0] h K :=
 call_of good mixed (fn:=Tryz.f236) (args:=[x0]) Tryz.func236 rfl (by kernel_rfl) (of_decide_eq_true rfl) (B:=qiUZ x0 h K) (by kernel_rfl) hd
def qkFZ (x0:Value)(h:Heap)(K:KTy):Prop:=nwM (some x0.cells) qPZ h fun a b=>ov (faV (some 0) a) fun c=>ov (ldV (some none) c b) fun d=>ov (faV (some 1) a) fun e=>ov (ldV (some none) e b) fun f=>ov (binV BinOp.geq 2 false d f) fun g=>K g b
theorem quiZ {x0:Value}{h:Heap}(hd:qkFZ x0 h K):callM P qjqZ #[x0] h K :=
 call_of good mixed (fn:=Tryz.f237) (args:=[x0]) Tryz.func237 rfl (by kernel_rfl) (of_decide_eq_true rfl) (B:=qkFZ x0 h K) (by kernel_rfl) hd
def qrXZ (a b:Value)(c:Heap)(K:KTy):Prop:=ov ((some (.func (Fn.func qaJZ) #[] #[a]):Option Value)) fun d=>callM P qSZ #[b,d] c fun e f=>K e f
def qqAZ (x0 x1:Value)(h:Heap)(K:KTy):Prop:=nwM (some x1.cells) qarZ h fun a b=>callM P quZ #[x0] b fun c d=>qrXZ a c d K
theorem qvbZ {x0 x1:Value}{h:Heap}(hd:qqAZ x0 x1 h K):callM P qlGZ #[x0,x1] h K :=
 call_of good mixed (fn:=Tryz.f238) (args:=[x0,x1]) Tryz.func238 rfl (by kernel_rfl) (of_decide_eq_true rfl) (B:=qqAZ x0 x1 h K) (by kernel_rfl) hd
def qtIZ (a:Value)(b:Heap)(c d:Value)(e:Post)(x0 x1 x2 f g h i:Value):Prop:=ov (ldV (some (some 4)) a b) fun j=>ov (iaV (some (none,4)) c d) fun k=>stM (some 4) k j b fun l=>e .normal [] (puts (envOf [x0,x1,x2]) [(4,a),(6,(Value.slice none 0 0)),(7,(Value.int IntKind.i64 0)),(11,x0),(12,c),(8,c),(14,c),(15,f),(16,g),(17,h),(13,h),(18,d),(19,i),(9,d),(10,i),(26,i),(25,i),(27,c),(28,d),(29,j),(30,k)]) l
def qtJZ (a:Post)(x0 x1 x2 b c d e f g h i j:Value)(k:Heap):Prop:=a .ret [] (puts (envOf [x0,x1,x2]) [(4,b),(6,(Value.slice none 0 0)),(7,(Value.int IntKind.i64 0)),(11,x0),(12,c),(8,c),(14,c),(15,d),(16,e),(17,f),(13,f),(18,g),(19,h),(9,g),(10,h),(26,h),(25,h),(32,c),(33,i),(34,x2),(35,j),(31,j),(36,c),(6,c),(7,(Value.int IntKind.i64 2))]) k
def qtKZ (a:Post)(x0 x1 x2 b c d e f g h i j k l m:Value)(n:Heap):Prop:=a .normal [] (puts (envOf [x0,x1,x2]) [(4,b),(6,(Value.slice none 0 0)),(7,(Value.int IntKind.i64 0)),(11,x0),(12,c),(8,c),(14,c),(15,d),(16,e),(17,f),(13,f),(18,g),(19,h),(9,g),(10,h),(26,h),(25,h),(32,c),(33,i),(34,x2),(35,j),(31,j),(20,c),(21,g),(22,k),(23,l),(24,m),(8,m)]) n
def qtLZ (a:Value)(b:Heap)(c d:Value)(e:Post)(x0 x1 x2 f g h i j k:Value):Prop:=ov (ldV (some (some 4)) a b) fun l=>bsM (bsI P qbZ) 1 [(0,l)] b fun m n=>callM P qalZ #[c,d,m] n fun o p=>qtKZ e x0 x1 x2 a c f g h d i j k l m o p
def qtMZ (a x2:Value)(b:Post)(x0 x1 c d e f g h:Value)(i:Heap):Prop:=ov (lnV 7 a) fun j=>ov (binV BinOp.geq 2 false j x2) fun k=>cdM k (qtJZ b x0 x1 x2 c a d e f g h j k i) (qtLZ c i a g b x0 x1 x2 d e f h j k)
def qtNZ (a b:Value)(c:Heap)(d e:Value)(f:Post)(x0 x1 x2 g h i:Value):Prop:=cdM a (qtIZ b c d e f x0 x1 x2 g h i a) (qtMZ d x2 f x0 x1 b g h i e a c)
def qtOZ (a b:Value)(c:Heap)(d x0 x1 x2 e f:Value)(K:KTy):Prop:=ov (exV a 0) fun g=>ov (exV a 1) fun h=>seqM (fun i=>qtNZ h b c d g i x0 x1 x2 e f a) (fun m j k=>(retM P [.tmp 6,.tmp 7] K) .ret m (puts j [(37,(j 8)),(6,(j 8)),(7,(Value.int IntKind.i64 0))]) k) (retM P [.tmp 6,.tmp 7] K)
def qtPZ (a:Value)(b:Heap)(c x0 x1 x2:Value)(K:KTy):Prop:=ov (faV (some 0) a) fun d=>ov (ldV (some none) d b) fun e=>callM P qjsZ #[c,e] b fun f g=>qtOZ f a g c x0 x1 x2 d e K
def qstZ (x0 x1 x2:Value)(h:Heap)(K:KTy):Prop:=nwM (some x1.cells) qcZ h fun a b=>callM P quZ #[x0] b fun c d=>qtPZ a d c x0 x1 x2 K
theorem qvrZ {x0 x1 x2:Value}{h:Heap}(hd:qstZ x0 x1 x2 h K):callM P qrgZ #[x0,x1,x2] h K :=
 call_of good mixed (fn:=Tryz.f239) (args:=[x0,x1,x2]) Tryz.func239 rfl (by kernel_rfl) (of_decide_eq_true rfl) (B:=qstZ x0 x1 x2 h K) (by kernel_rfl) hd
def qsQZ (a b c:Value)(d:Heap)(K:KTy):Prop:=ov (iaV (some (none,4)) a b) fun e=>ov (faV (some 3) e) fun f=>stM (some 1) f c d fun g=>K (.tuple #[a,(Value.int IntKind.i64 0)]) g
def qsRZ (a b:Value)(c:Heap)(x2:Value)(K:KTy):Prop:=ov (iaV (some (none,4)) a b) fun d=>ov (faV (some 3) d) fun e=>ov (ldV (some none) e c) fun f=>vvM P (Builtin.max_ #[qarZ,qarZ] qarZ #[f,x2]) c fun g h=>qsQZ a b g h K
def qsSZ (a:Value)(K:KTy)(b:Value)(c:Heap)(x2:Value):Prop:=ov (exV a 0) fun d=>ov (exV a 1) fun e=>ov (unV UnOp.not e) fun f=>cdM f (K (.tuple #[b,(Value.int IntKind.i64 3)]) c) (qsRZ b d c x2 K)
def qsTZ (a x1:Value)(b:Heap)(K:KTy)(x2:Value):Prop:=callM P qjsZ #[a,x1] b fun c d=>qsSZ c K a d x2
def qrnZ (x0 x1 x2:Value)(h:Heap)(K:KTy):Prop:=callM P quZ #[x0] h fun a b=>qsTZ a x1 b K x2
theorem qvjZ {x0 x1 x2:Value}{h:Heap}(hd:qrnZ x0 x1 x2 h K):callM P qqnZ #[x0,x1,x2] h K :=
 call_of good mixed (fn:=Tryz.f240) (args:=[x0,x1,x2]) Tryz.func240 rfl (by kernel_rfl) (of_decide_eq_true rfl) (B:=qrnZ x0 x1 x2 h K) (by kernel_rfl) hd
def qrYZ (a b:Value)(c:Heap)(K:KTy):Prop:=ov (binV BinOp.add 2 true a (Value.int IntKind.i64 1)) fun d=>callM P qamZ #[b,a,d] c fun e f=>K (.tuple #[e,(Value.int IntKind.i64 0)]) f
def qrZZ (a:Value)(K:KTy)(b:Value)(c:Heap):Prop:=ov (exV a 0) fun d=>ov (exV a 1) fun e=>ov (unV UnOp.not e) fun f=>cdM f (K (.tuple #[b,(Value.int IntKind.i64 3)]) c) (qrYZ d b c K)
def qsaZ (a x1:Value)(b:Heap)(K:KTy):Prop:=callM P qjsZ #[a,x1] b fun c d=>qrZZ c K a d
def qqBZ (x0 x1:Value)(h:Heap)(K:KTy):Prop:=callM P quZ #[x0] h fun a b=>qsaZ a x1 b K
theorem qvcZ {x0 x1:Value}{h:Heap}(hd:qqBZ x0 x1 h K):callM P qpNZ #[x0,x1] h K :=
 call_of good mixed (fn:=Tryz.f241) (args:=[x0,x1]) Tryz.func241 rfl (by kernel_rfl) (of_decide_eq_true rfl) (B:=qqBZ x0 x1 h K) (by kernel_rfl) hd
def qqWZ (a:Value)(b:Heap)(c x1:Value)(d:Post)(x0 x2 x3 e f g h i j k l m n o:Value):Prop:=ov (faV (some 1) a) fun p=>ov (ldV (some (some 3)) p b) fun q=>ov (ldV (some (some 3)) c b) fun r=>ov (bdV (binf P qLZ) [(0,x1),(1,q),(2,r)]) fun s=>bsM (bsI P qvZ) 1 [(0,s)] b fun t u=>d .normal [] (puts (envOf [x0,x1,x2,x3]) [(4,e),(8,f),(9,(Value.slice none 0 0)),(15,g),(16,x1),(17,h),(14,h),(18,i),(19,j),(10,a),(11,j),(20,x2),(21,x3),(22,k),(12,c),(13,(Value.slice none 0 0)),(23,l),(24,m),(25,n),(26,o),(27,x1),(28,p),(29,q),(30,r),(31,s),(32,t),(13,t)]) u
def qqXZ (a:Post)(x0 x1 x2 x3 b c d e f g h i j k l m n:Value)(o:Heap):Prop:=a .normal [] (puts (envOf [x0,x1,x2,x3]) [(4,b),(8,c),(9,(Value.slice none 0 0)),(15,d),(16,x1),(17,e),(14,e),(18,f),(19,g),(10,h),(11,g),(20,x2),(21,x3),(22,i),(12,j),(13,(Value.slice none 0 0)),(23,k),(24,l),(25,m),(26,n)]) o
def qqYZ (a:Value)(b:Heap)(c x1:Value)(d:Post)(x0 x2 x3 e f g h i j k:Value):Prop:=ov (ldV (some (some 3)) a b) fun l=>ov (faV (some 1) c) fun m=>ov (ldV (some (some 3)) m b) fun n=>pvM P (do eqGuard BinOp.neq qhZ (Operand.tmp 23) (Operand.tmp 25) l n; binOp BinOp.neq qhZ l n) fun o=>cdM o (qqWZ c b a x1 d x0 x2 x3 e f g h i j k l m n o) (qqXZ d x0 x1 x2 x3 e f g h i j c k a l m n o b)
def qqZZ (a:Env)(b:Value)(c:Heap)(K:KTy)(m:List Nat)(d e f:Value):Prop:=stM (some 2) (a 8) b c fun g=>(retM P [.cell 8 49,.tmp 9] K) .ret m (puts a [(33,(a 2)),(34,d),(35,e),(36,f),(37,(a 1)),(38,b),(39,(a 13)),(9,(a 13))]) g
def qraZ (a:Env)(b:Heap)(K:KTy)(m:List Nat)(c d:Value):Prop:=ov (ldV (some (some 2)) (a 4) b) fun e=>callM P qaAZ #[e,(a 1)] b fun f g=>qqZZ a f g K m c d e
def qqCZ (a:Env)(b:Value)(c:Heap)(K:KTy)(m:List Nat)(d e f g h:Value):Prop:=stM (some 2) (a 8) b c fun i=>(retM P [.cell 8 49,.tmp 9] K) .ret m (puts a [(33,(a 2)),(34,d),(35,e),(40,f),(41,(a 1)),(42,(a 2)),(43,g),(44,h),(45,b),(46,(a 13)),(9,(a 13))]) i
def qrbZ (a:Env)(b:Heap)(K:KTy)(m:List Nat)(c d:Value):Prop:=ov (ldV (some (some 2)) (a 4) b) fun e=>ov (ldV (some (some 3)) (a 12) b) fun f=>ov (bdV (binf P qjZ) [(0,(a 2)),(1,f)]) fun g=>callM P qaYZ #[e,(a 1),g] b fun h i=>qqCZ a h i K m c d e f g
def qnKZ (a:Env)(b:Heap)(K:KTy)(m:List Nat):Prop:=ov (lnV 7 (a 2)) fun c=>ov (binV BinOp.eql 2 true c (Value.int IntKind.i64 0)) fun d=>cdM d (qraZ a b K m c d) (qrbZ a b K m c d)
def qrcZ (a:Heap)(b c x1 x0 x2 x3 d e f g h i:Value)(K:KTy):Prop:=nwM (zc P qhZ) qhZ a fun j k=>stM (some 3) j b k fun l=>seqM (fun n=>qqYZ j l c x1 n x0 x2 x3 d e f g h i b) (fun m o p=>qnKZ o p K m) (retM P [.cell 8 49,.tmp 9] K)
def qrdZ (a:Value)(b:Heap)(x2 x3 x1 x0 c d e:Value)(K:KTy):Prop:=ov (exV a 0) fun f=>ov (exV a 1) fun g=>nwM (zc P qjZ) qjZ b fun h i=>stM (some 4) h f i fun j=>callM P qhGZ #[x2,x3] j fun k l=>qrcZ l k h x1 x0 x2 x3 c d e a f g K
def qpVZ (x0 x1 x2 x3:Value)(h:Heap)(K:KTy):Prop:=nwM (some x0.cells) qaZ h fun a b=>nwM (zc P qaZ) qaZ b fun c d=>ov (ldV (some (some 2)) a d) fun e=>callM P qGZ #[e,x1] d fun f g=>qrdZ f g x2 x3 x1 x0 a c e K
theorem quSZ {x0 x1 x2 x3:Value}{h:Heap}(hd:qpVZ x0 x1 x2 x3 h K):callM P qjWZ #[x0,x1,x2,x3] h K :=
 call_of good mixed (fn:=Tryz.f242) (args:=[x0,x1,x2,x3]) Tryz.func242 rfl (by kernel_rfl) (of_decide_eq_true rfl) (B:=qpVZ x0 x1 x2 x3 h K) (by kernel_rfl) hd
def qhnZ (x0:Value)(a:Heap)(b:Value)(K:KTy):Prop:=ov (ncV x0) fun c=>ov (faV (some 1) c) fun d=>ov (ldV (some none) d a) fun e=>ov (ldV (some (some 8)) b a) fun f=>bsM (bsI P qfZ) 1 [(0,f)] a fun g h=>ldV (some none) d h=some e∧vvM P (Builtin.append_ #[qfZ,qfZ] qfZ #[e,g]) h fun i j=>ov (ncV x0) fun k=>ov (faV (some 1) k) fun l=>stM (some 1) l i j fun m=>K (Value.bool true) m
def qepZ (x0 x1:Value)(h:Heap)(K:KTy):Prop:=nwM (some x1.cells) qtZ h fun a b=>ov (ncV x0) fun c=>ov (faV (some 1) c) fun d=>ov (ldV (some none) d b) fun e=>ov (lnV 7 e) fun f=>ov (ncV x0) fun g=>ov (faV (some 0) g) fun i=>ov (ldV (some none) i b) fun j=>ov (binV BinOp.geq 2 false f j) fun k=>cdM k (ov (ncV x0) fun l=>ov (faV (some 2) l) fun m=>stM (some 1) m (Value.bool true) b fun n=>K (Value.bool false) n) (qhnZ x0 b a K)
theorem qqjZ {x0 x1:Value}{h:Heap}(hd:qepZ x0 x1 h K):callM P qdVZ #[x0,x1] h K :=
 call_of good mixed (fn:=Tryz.f243) (args:=[x0,x1]) Tryz.func243 rfl (by kernel_rfl) (of_decide_eq_true rfl) (B:=qepZ x0 x1 h K) (by kernel_rfl) hd
def qlrZ (a:Post)(m:List Nat)(b:Env)(c d e f g h i j k l:Value)(n:Heap):Prop:=a .normal m (puts b [(7,(b 6)),(8,(b 0)),(9,c),(10,d),(13,(b 0)),(14,(b 6)),(15,e),(16,f),(17,g),(18,(b 1)),(19,h),(20,(b 5)),(21,(b 0)),(22,(b 6)),(23,i),(24,j),(25,k),(26,l),(5,l)]) n
def qlsZ (a:Env)(b:Heap)(c:Post)(m:List Nat)(d e f g h i:Value):Prop:=ov (iaV (some (none,4)) (a 0) (a 6)) fun j=>ov (ldV (some (some 4)) j b) fun k=>bsM (bsI P qbZ) 1 [(0,k)] b fun l n=>vvM P (Builtin.append_ #[qbZ,qbZ] qbZ #[(a 5),l]) n fun o p=>qlrZ c m a d e f g h i j k l o p
def qltZ (a:Env)(b:Heap)(c:Post)(m:List Nat)(d e:Value):Prop:=ov (iaV (some (none,4)) (a 0) (a 6)) fun f=>ov (faV (some 3) f) fun g=>ov (ldV (some none) g b) fun h=>ov (binV BinOp.gtr 2 false h (a 1)) fun i=>cdM i (qlsZ a b c m d e f g h i) (c .normal m (puts a [(7,(a 6)),(8,(a 0)),(9,d),(10,e),(13,(a 0)),(14,(a 6)),(15,f),(16,g),(17,h),(18,(a 1)),(19,i)]) b)
def qluZ (a:Env)(b:Heap)(m:List Nat)(c d:Value)(e:Post):Prop:=seqM (fun f=>qltZ a b f m c d) (fun m g h=>ov (binV BinOp.add 2 true (g 6) (Value.int IntKind.i64 1)) fun i=>e .normal m (puts g [(11,(g 6)),(12,i),(6,i)]) h) e
def qlvZ (a:Env)(b:Heap)(m:List Nat)(c:Post):Prop:=ov (lnV 7 (a 0)) fun d=>ov (binV BinOp.lss 2 false (a 6) d) fun e=>cdM e (qluZ a b m d e c) (c (.exit 0) m (puts a [(7,(a 6)),(8,(a 0)),(9,d),(10,e)]) b)
def qlwZ (x0 x1:Value)(h:Heap)(a:Post):Prop:=loopM (fun m b c d=>qlvZ b c m d) [] (puts (envOf [x0,x1]) [(4,(Value.slice none 0 0)),(5,(Value.slice none 0 0)),(6,(Value.int IntKind.i64 0))]) h (blkM 0 a)
def qhTZ (x0 x1:Value)(h:Heap)(K:KTy):Prop:=seqM (fun a=>qlwZ x0 x1 h a) (fun m b c=>(retM P [.tmp 4] K) .ret m (puts b [(27,(b 5)),(4,(b 5))]) c) (retM P [.tmp 4] K)
theorem qsuZ {x0 x1:Value}{h:Heap}(hd:qhTZ x0 x1 h K):callM P qbzZ #[x0,x1] h K :=
 call_of good mixed (fn:=Tryz.f244) (args:=[x0,x1]) Tryz.func244 rfl (by kernel_rfl) (of_decide_eq_true rfl) (B:=qhTZ x0 x1 h K) (by kernel_rfl) hd
def qmDZ (a:Env)(b:Heap)(c:Post)(m:List Nat)(d e f g h i:Value):Prop:=ov (iaV (some (none,5)) (a 0) (a 5)) fun j=>ov (ldV (some (some 5)) j b) fun k=>stM (some 5) (a 4) k b fun l=>c .ret m (puts a [(6,(a 5)),(7,(a 0)),(8,d),(9,e),(12,(a 0)),(13,(a 5)),(14,f),(15,g),(16,h),(17,(a 1)),(18,i),(19,(a 0)),(20,(a 5)),(21,j),(22,k)]) l
def qmEZ (a:Env)(b:Post)(m:List Nat)(c d e f g h:Value)(i:Heap):Prop:=ov (binV BinOp.add 2 true (a 5) (Value.int IntKind.i64 1)) fun j=>b .normal m (puts a [(6,(a 5)),(7,(a 0)),(8,c),(9,d),(12,(a 0)),(13,(a 5)),(14,e),(15,f),(16,g),(17,(a 1)),(18,h),(10,(a 5)),(11,j),(5,j)]) i
def qmFZ (a:Env)(b:Heap)(c:Post)(m:List Nat)(d e:Value):Prop:=ov (iaV (some (none,5)) (a 0) (a 5)) fun f=>ov (faV (some 0) f) fun g=>ov (ldV (some none) g b) fun h=>ov (binV BinOp.eql 3 false h (a 1)) fun i=>cdM i (qmDZ a b c m d e f g h i) (qmEZ a c m d e f g h i b)
def qmGZ (a:Env)(b:Heap)(c:Post)(m:List Nat):Prop:=ov (lnV 7 (a 0)) fun d=>ov (binV BinOp.lss 2 false (a 5) d) fun e=>cdM e (qmFZ a b c m d e) (c (.exit 0) m (puts a [(6,(a 5)),(7,(a 0)),(8,d),(9,e)]) b)
def qmHZ (x0 x1 a:Value)(b:Heap)(c:Post):Prop:=loopM (fun m d e f=>qmGZ d e f m) [] (puts (envOf [x0,x1]) [(4,a),(5,(Value.int IntKind.i64 0))]) b (blkM 0 c)
def qmIZ (a:Env)(b:Heap)(K:KTy)(m:List Nat):Prop:=ov (bdV (binf P qkZ) [(0,(a 1))]) fun c=>stM (some 5) (a 4) c b fun d=>(retM P [.cell 4 176] K) .ret m (puts a [(23,(a 1)),(24,c)]) d
def qiVZ (x0 x1:Value)(h:Heap)(K:KTy):Prop:=nwM (zc P qkZ) qkZ h fun a b=>seqM (fun c=>qmHZ x0 x1 a b c) (fun m d e=>qmIZ d e K m) (retM P [.cell 4 176] K)
theorem qtgZ {x0 x1:Value}{h:Heap}(hd:qiVZ x0 x1 h K):callM P qeiZ #[x0,x1] h K :=
 call_of good mixed (fn:=Tryz.f245) (args:=[x0,x1]) Tryz.func245 rfl (by kernel_rfl) (of_decide_eq_true rfl) (B:=qiVZ x0 x1 h K) (by kernel_rfl) hd
def qmJZ (a:Post)(m:List Nat)(b:Env)(c d e f g h i j k l n o p q r:Value)(s:Heap):Prop:=a .normal m (puts b [(28,(b 11)),(29,(b 10)),(30,c),(31,d),(34,(b 9)),(35,e),(36,e),(37,f),(38,g),(39,h),(40,i),(41,j),(42,k),(43,l),(44,n),(45,o),(46,(b 8)),(47,p),(48,q),(49,r),(8,r),(9,(Value.bool true))]) s
def qnLZ (a:Env)(b:Heap)(c:Post)(m:List Nat)(d e f g h i j k l n o p:Value):Prop:=ov (ldV (some (some 4)) (a 4) b) fun q=>bsM (bsI P qbZ) 1 [(0,q)] b fun r s=>vvM P (Builtin.append_ #[qbZ,qbZ] qbZ #[(a 8),r]) s fun t u=>qmJZ c m a d e f g h i j k l n o p q r t u
def qgcZ (a:Post)(m:List Nat)(b:Env)(c d e f g h i j k l n o:Value)(p:Heap):Prop:=a .normal m (puts b [(28,(b 11)),(29,(b 10)),(30,c),(31,d),(34,(b 9)),(35,e),(36,e),(37,f),(38,g),(39,h),(40,i),(41,j),(42,k),(43,l),(44,n),(45,o)]) p
def qnMZ (a:Env)(b:Heap)(c:Post)(m:List Nat)(d e:Value):Prop:=ov (unV UnOp.not (a 9)) fun f=>gv (isB f true) (fun k=>k (a 10)) fun g=>gv (isB f true) (fun k=>k (a 11)) fun h=>gv (isB f true) (ov (iaV (some (none,4)) g h)) fun i=>gv (isB f true) (ov (faV (some 0) i)) fun j=>gv (isB f true) (ov (ldV (some none) j b)) fun l=>gv (isB f true) (ov (faV (some 0) (a 4))) fun n=>gv (isB f true) (ov (ldV (some none) n b)) fun o=>gv (isB f true) (ov (binV BinOp.gtr 2 false l o)) fun p=>ov (pkV f p (Value.bool false)) fun q=>cdM q (qnLZ a b c m d e f g h i j l n o p q) (qgcZ c m a d e f g h i j l n o p q b)
def qgdZ (a:Env)(b:Heap)(c:Post)(m:List Nat):Prop:=ov (iaV (some (none,4)) (a 10) (a 11)) fun d=>ov (ldV (some (some 4)) d b) fun e=>bsM (bsI P qbZ) 1 [(0,e)] b fun f g=>vvM P (Builtin.append_ #[qbZ,qbZ] qbZ #[(a 8),f]) g fun h i=>c .normal m (puts a [(50,(a 8)),(51,(a 10)),(52,(a 11)),(53,d),(54,e),(55,f),(56,h),(8,h)]) i
def qnNZ (a:Env)(b:Heap)(m:List Nat)(c d:Value)(e:Post):Prop:=seqM (fun f=>qnMZ a b f m c d) (fun m g h=>qgdZ g h e m) (blkM 1 e)
def qnOZ (a:Env)(b:Heap)(m:List Nat)(c d:Value)(e:Post):Prop:=seqM (fun f=>qnNZ a b m c d f) (fun m g h=>ov (binV BinOp.add 2 true (g 11) (Value.int IntKind.i64 1)) fun i=>e .normal m (puts g [(32,(g 11)),(33,i),(11,i)]) h) e
def qnPZ (a:Env)(b:Heap)(m:List Nat)(c:Post):Prop:=ov (lnV 7 (a 10)) fun d=>ov (binV BinOp.lss 2 false (a 11) d) fun e=>cdM e (qnOZ a b m d e c) (c (.exit 0) m (puts a [(28,(a 11)),(29,(a 10)),(30,d),(31,e)]) b)
def qnQZ (x0 x1 x2 a b c d e f g h i j k l n:Value)(o:Heap)(p:Post):Prop:=loopM (fun m q r s=>qnPZ q r m s) [] (puts (envOf [x0,x1,x2]) [(4,a),(6,(Value.slice none 0 0)),(7,(Value.int IntKind.i64 0)),(12,x0),(13,b),(14,c),(15,d),(16,e),(17,e),(18,f),(19,g),(20,h),(21,i),(22,j),(8,(Value.slice none 0 0)),(9,(Value.bool false)),(24,x0),(25,k),(26,l),(27,n),(10,n),(11,(Value.int IntKind.i64 0))]) o (blkM 0 p)
def qmKZ (a:Env)(b:Heap)(c:Post)(m:List Nat)(d:Value):Prop:=ov (ldV (some (some 4)) (a 4) b) fun e=>bsM (bsI P qbZ) 1 [(0,e)] b fun f g=>vvM P (Builtin.append_ #[qbZ,qbZ] qbZ #[(a 8),f]) g fun h i=>c .normal m (puts a [(57,(a 9)),(58,d),(59,(a 8)),(60,e),(61,f),(62,h),(8,h)]) i
def qmLZ (a:Env)(b:Heap)(c:Post)(m:List Nat):Prop:=ov (unV UnOp.not (a 9)) fun d=>cdM d (qmKZ a b c m d) (c .normal m (puts a [(57,(a 9)),(58,d)]) b)
def qmMZ (a:Env)(b:Heap)(m:List Nat)(K:KTy):Prop:=seqM (fun c=>qmLZ a b c m) (fun m d e=>(retM P [.tmp 6,.tmp 7] K) .ret m (puts d [(63,(d 8)),(6,(d 8)),(7,(Value.int IntKind.i64 0))]) e) (retM P [.tmp 6,.tmp 7] K)
def qnRZ (x0 x1 x2 a b c d e f g h i j k l n:Value)(o:Heap)(K:KTy):Prop:=seqM (fun p=>qnQZ x0 x1 x2 a b c d e f g h i j k l n o p) (fun m q r=>qmMZ q r m K) (retM P [.tmp 6,.tmp 7] K)
def qhUZ (a:Value)(b:Heap)(x0 x1 x2 c d e f g h i j k:Value)(K:KTy):Prop:=ov (faV (some 0) a) fun l=>ov (ldV (some none) l b) fun m=>callM P qdDZ #[x0,m] b fun n o=>qnRZ x0 x1 x2 a c d e f g h i j k l m n o K
def qnSZ (a x0:Value)(b:Heap)(x2:Value)(K:KTy)(c x1 d e:Value):Prop:=ov (unV UnOp.not a) fun f=>gM (isB f true) (fun g=>g x0 b) b fun h i=>gM (isB f true) (fun j=>ov (lnV 7 h) fun k=>j k i) i fun l m=>gM (isB f true) (fun n=>n x2 m) m fun o p=>gM (isB f true) (fun q=>ov (binV BinOp.geq 2 false l o) fun r=>q r p) p fun s t=>ov (pkV f s (Value.bool false)) fun u=>cdM u (K (.tuple #[x0,(Value.int IntKind.i64 2)]) t) (qhUZ c t x0 x1 x2 d e a f h l o s u K)
def qjLZ (x0 x1 x2:Value)(h:Heap)(K:KTy):Prop:=nwM (some x1.cells) qcZ h fun a b=>ov (faV (some 0) a) fun c=>ov (ldV (some none) c b) fun d=>callM P qcxZ #[x0,d] b fun e f=>qnSZ e x0 f x2 K a x1 c d
theorem qtQZ {x0 x1 x2:Value}{h:Heap}(hd:qjLZ x0 x1 x2 h K):callM P qiEZ #[x0,x1,x2] h K :=
 call_of good mixed (fn:=Tryz.f246) (args:=[x0,x1,x2]) Tryz.func246 rfl (by kernel_rfl) (of_decide_eq_true rfl) (B:=qjLZ x0 x1 x2 h K) (by kernel_rfl) hd
def qmNZ (a:Value)(b:Env)(c:Heap)(d:Post)(m:List Nat)(e f g h i j k l n o p q:Value):Prop:=ov (faV (some 3) a) fun r=>stM (some 1) r (b 2) c fun s=>d .normal m (puts b [(16,(b 9)),(17,(b 0)),(18,e),(19,f),(22,(b 0)),(23,(b 9)),(24,g),(25,h),(10,a),(26,i),(27,j),(28,(b 1)),(29,k),(30,k),(31,l),(32,n),(33,o),(34,p),(35,q),(36,(b 2)),(37,r)]) s
def qgeZ (a:Post)(m:List Nat)(b:Env)(c d e f g h i j k l n o p:Value)(q:Heap):Prop:=a .normal m (puts b [(16,(b 9)),(17,(b 0)),(18,c),(19,d),(22,(b 0)),(23,(b 9)),(24,e),(25,f),(10,g),(26,h),(27,i),(28,(b 1)),(29,j),(30,j),(31,k),(32,l),(33,n),(34,o),(35,p)]) q
def qmOZ (a:Value)(b:Heap)(c:Env)(d:Post)(m:List Nat)(e f g h:Value):Prop:=ov (faV (some 0) a) fun i=>ov (ldV (some none) i b) fun j=>ov (binV BinOp.eql 2 false j (c 1)) fun k=>gM (isB k true) (fun l=>l (c 2) b) b fun n o=>gM (isB k true) (fun p=>ov (faV (some 3) a) fun q=>p q o) o fun r s=>gM (isB k true) (fun t=>ov (ldV (some none) r s) fun u=>t u s) s fun v w=>gM (isB k true) (fun x=>ov (binV BinOp.gtr 2 false n v) fun y=>x y w) w fun z aa=>ov (pkV k z (Value.bool false)) fun ab=>cdM ab (qmNZ a c aa d m e f g h i j k n r v z ab) (qgeZ d m c e f g h a i j k n r v z ab aa)
def qfyZ (a:Env)(b:Heap)(c:Post)(m:List Nat):Prop:=ov (ldV (some (some 4)) (a 10) b) fun d=>bsM (bsI P qbZ) 1 [(0,d)] b fun e f=>vvM P (Builtin.append_ #[qbZ,qbZ] qbZ #[(a 8),e]) f fun g h=>c .normal m (puts a [(38,(a 8)),(39,d),(40,e),(41,g),(8,g)]) h
def qmPZ (a:Env)(b:Heap)(m:List Nat)(c d:Value)(e:Post):Prop:=ov (iaV (some (none,4)) (a 0) (a 9)) fun f=>ov (ldV (some (some 4)) f b) fun g=>nwM (zc P qcZ) qcZ b fun h i=>stM (some 4) h g i fun j=>seqM (fun k=>qmOZ h j a k m c d f g) (fun m l n=>qfyZ l n e m) (blkM 1 e)
def qmQZ (a:Env)(b:Heap)(m:List Nat)(c d:Value)(e:Post):Prop:=seqM (fun f=>qmPZ a b m c d f) (fun m g h=>ov (binV BinOp.add 2 true (g 9) (Value.int IntKind.i64 1)) fun i=>e .normal m (puts g [(20,(g 9)),(21,i),(9,i)]) h) e
def qmRZ (a:Env)(b:Heap)(m:List Nat)(c:Post):Prop:=ov (lnV 7 (a 0)) fun d=>ov (binV BinOp.lss 2 false (a 9) d) fun e=>cdM e (qmQZ a b m d e c) (c (.exit 0) m (puts a [(16,(a 9)),(17,(a 0)),(18,d),(19,e)]) b)
def qmSZ (x0 x1 x2 a b:Value)(c:Heap)(d:Post):Prop:=loopM (fun m e f g=>qmRZ e f m g) [] (puts (envOf [x0,x1,x2]) [(6,(Value.slice none 0 0)),(7,(Value.int IntKind.i64 0)),(11,x0),(12,x1),(13,a),(14,b),(8,(Value.slice none 0 0)),(9,(Value.int IntKind.i64 0))]) c (blkM 0 d)
def qmTZ (x0 x1 x2 a b:Value)(c:Heap)(K:KTy):Prop:=seqM (fun d=>qmSZ x0 x1 x2 a b c d) (fun m e f=>(retM P [.tmp 6,.tmp 7] K) .ret m (puts e [(42,(e 8)),(6,(e 8)),(7,(Value.int IntKind.i64 0))]) f) (retM P [.tmp 6,.tmp 7] K)
def qmUZ (a:Value)(K:KTy)(x0:Value)(b:Heap)(x1 x2:Value):Prop:=ov (unV UnOp.not a) fun c=>cdM c (K (.tuple #[x0,(Value.int IntKind.i64 3)]) b) (qmTZ x0 x1 x2 a c b K)
def qiWZ (x0 x1 x2:Value)(h:Heap)(K:KTy):Prop:=callM P qcxZ #[x0,x1] h fun a b=>qmUZ a K x0 b x1 x2
theorem qthZ {x0 x1 x2:Value}{h:Heap}(hd:qiWZ x0 x1 x2 h K):callM P qhFZ #[x0,x1,x2] h K :=
 call_of good mixed (fn:=Tryz.f247) (args:=[x0,x1,x2]) Tryz.func247 rfl (by kernel_rfl) (of_decide_eq_true rfl) (B:=qiWZ x0 x1 x2 h K) (by kernel_rfl) hd
def qnTZ (a:Post)(m:List Nat)(b:Env)(c d e f g h:Value)(i:Heap):Prop:=a .ret m (puts b [(6,(b 5)),(7,(b 0)),(8,c),(9,d),(12,(b 0)),(13,(b 5)),(14,e),(15,f),(16,g),(17,(b 1)),(18,h),(4,(Value.bool true))]) i
def qnUZ (a:Env)(b:Post)(m:List Nat)(c d e f g h:Value)(i:Heap):Prop:=ov (binV BinOp.add 2 true (a 5) (Value.int IntKind.i64 1)) fun j=>b .normal m (puts a [(6,(a 5)),(7,(a 0)),(8,c),(9,d),(12,(a 0)),(13,(a 5)),(14,e),(15,f),(16,g),(17,(a 1)),(18,h),(10,(a 5)),(11,j),(5,j)]) i
def qnVZ (a:Env)(b:Heap)(c:Post)(m:List Nat)(d e:Value):Prop:=ov (iaV (some (none,4)) (a 0) (a 5)) fun f=>ov (faV (some 0) f) fun g=>ov (ldV (some none) g b) fun h=>ov (binV BinOp.eql 2 false h (a 1)) fun i=>cdM i (qnTZ c m a d e f g h i b) (qnUZ a c m d e f g h i b)
def qnWZ (a:Env)(b:Heap)(c:Post)(m:List Nat):Prop:=ov (lnV 7 (a 0)) fun d=>ov (binV BinOp.lss 2 false (a 5) d) fun e=>cdM e (qnVZ a b c m d e) (c (.exit 0) m (puts a [(6,(a 5)),(7,(a 0)),(8,d),(9,e)]) b)
def qnXZ (x0 x1:Value)(h:Heap)(a:Post):Prop:=loopM (fun m b c d=>qnWZ b c d m) [] (puts (envOf [x0,x1]) [(4,(Value.bool false)),(5,(Value.int IntKind.i64 0))]) h (blkM 0 a)
def qjMZ (x0 x1:Value)(h:Heap)(K:KTy):Prop:=seqM (fun a=>qnXZ x0 x1 h a) (fun m b c=>(retM P [.tmp 4] K) .ret m (puts b [(4,(Value.bool false))]) c) (retM P [.tmp 4] K)
theorem qtRZ {x0 x1:Value}{h:Heap}(hd:qjMZ x0 x1 h K):callM P qcxZ #[x0,x1] h K :=
 call_of good mixed (fn:=Tryz.f248) (args:=[x0,x1]) Tryz.func248 rfl (by kernel_rfl) (of_decide_eq_true rfl) (B:=qjMZ x0 x1 h K) (by kernel_rfl) hd
def qlxZ (a:Post)(m:List Nat)(b:Env)(c d e f g h i j k l:Value)(n:Heap):Prop:=a .normal m (puts b [(7,(b 6)),(8,(b 0)),(9,c),(10,d),(13,(b 0)),(14,(b 6)),(15,e),(16,f),(17,g),(18,(b 1)),(19,h),(20,(b 5)),(21,(b 0)),(22,(b 6)),(23,i),(24,j),(25,k),(26,l),(5,l)]) n
def qlyZ (a:Env)(b:Heap)(c:Post)(m:List Nat)(d e f g h i:Value):Prop:=ov (iaV (some (none,4)) (a 0) (a 6)) fun j=>ov (ldV (some (some 4)) j b) fun k=>bsM (bsI P qbZ) 1 [(0,k)] b fun l n=>vvM P (Builtin.append_ #[qbZ,qbZ] qbZ #[(a 5),l]) n fun o p=>qlxZ c m a d e f g h i j k l o p
def qlzZ (a:Env)(b:Heap)(c:Post)(m:List Nat)(d e:Value):Prop:=ov (iaV (some (none,4)) (a 0) (a 6)) fun f=>ov (faV (some 0) f) fun g=>ov (ldV (some none) g b) fun h=>ov (binV BinOp.neq 2 false h (a 1)) fun i=>cdM i (qlyZ a b c m d e f g h i) (c .normal m (puts a [(7,(a 6)),(8,(a 0)),(9,d),(10,e),(13,(a 0)),(14,(a 6)),(15,f),(16,g),(17,h),(18,(a 1)),(19,i)]) b)
def qlAZ (a:Env)(b:Heap)(m:List Nat)(c d:Value)(e:Post):Prop:=seqM (fun f=>qlzZ a b f m c d) (fun m g h=>ov (binV BinOp.add 2 true (g 6) (Value.int IntKind.i64 1)) fun i=>e .normal m (puts g [(11,(g 6)),(12,i),(6,i)]) h) e
def qlBZ (a:Env)(b:Heap)(m:List Nat)(c:Post):Prop:=ov (lnV 7 (a 0)) fun d=>ov (binV BinOp.lss 2 false (a 6) d) fun e=>cdM e (qlAZ a b m d e c) (c (.exit 0) m (puts a [(7,(a 6)),(8,(a 0)),(9,d),(10,e)]) b)
def qlCZ (x0 x1:Value)(h:Heap)(a:Post):Prop:=loopM (fun m b c d=>qlBZ b c m d) [] (puts (envOf [x0,x1]) [(4,(Value.slice none 0 0)),(5,(Value.slice none 0 0)),(6,(Value.int IntKind.i64 0))]) h (blkM 0 a)
def qhVZ (x0 x1:Value)(h:Heap)(K:KTy):Prop:=seqM (fun a=>qlCZ x0 x1 h a) (fun m b c=>(retM P [.tmp 4] K) .ret m (puts b [(27,(b 5)),(4,(b 5))]) c) (retM P [.tmp 4] K)
theorem qsvZ {x0 x1:Value}{h:Heap}(hd:qhVZ x0 x1 h K):callM P qdDZ #[x0,x1] h K :=
 call_of good mixed (fn:=Tryz.f249) (args:=[x0,x1]) Tryz.func249 rfl (by kernel_rfl) (of_decide_eq_true rfl) (B:=qhVZ x0 x1 h K) (by kernel_rfl) hd
def qkiZ (a:Post)(m:List Nat)(b:Env)(c d e f g h i j k l n o p q r:Value)(s:Heap):Prop:=a .normal m (puts b [(24,(b 14)),(25,(b 0)),(26,c),(27,d),(30,(b 13)),(31,e),(32,e),(33,f),(34,g),(35,h),(36,i),(37,j),(38,k),(39,l),(40,n),(41,(b 12)),(42,(b 1)),(43,(b 2)),(44,o),(45,p),(46,q),(47,r),(12,r),(13,(Value.bool true))]) s
def qkjZ (a:Env)(b:Heap)(c:Post)(m:List Nat)(d e f g h i j k l n o:Value):Prop:=ov (ldV (some (some 3)) (a 11) b) fun p=>ov (bdV (binf P qkZ) [(0,(a 1)),(1,(a 2)),(2,p)]) fun q=>bsM (bsI P qlZ) 1 [(0,q)] b fun r s=>vvM P (Builtin.append_ #[qlZ,qlZ] qlZ #[(a 12),r]) s fun t u=>qkiZ c m a d e f g h i j k l n o p q r t u
def qeDZ (a:Post)(m:List Nat)(b:Env)(c d e f g h i j k l n:Value)(o:Heap):Prop:=a .normal m (puts b [(24,(b 14)),(25,(b 0)),(26,c),(27,d),(30,(b 13)),(31,e),(32,e),(33,f),(34,g),(35,h),(36,i),(37,j),(38,k),(39,l),(40,n)]) o
def qkkZ (a:Env)(b:Heap)(c:Post)(m:List Nat)(d e:Value):Prop:=ov (unV UnOp.not (a 13)) fun f=>gM (isB f true) (fun g=>g (a 0) b) b fun h i=>gM (isB f true) (fun j=>j (a 14) i) i fun k l=>gM (isB f true) (fun n=>ov (iaV (some (none,5)) h k) fun o=>n o l) l fun p q=>gM (isB f true) (fun r=>ov (faV (some 0) p) fun s=>r s q) q fun t u=>gM (isB f true) (fun v=>ov (ldV (some none) t u) fun w=>v w u) u fun x y=>gM (isB f true) (fun z=>z (a 1) y) y fun aa ab=>gM (isB f true) (fun ac=>ov (binV BinOp.geq 3 false x aa) fun ad=>ac ad ab) ab fun ae af=>ov (pkV f ae (Value.bool false)) fun ag=>cdM ag (qkjZ a af c m d e f h k p t x aa ae ag) (qeDZ c m a d e f h k p t x aa ae ag af)
def qjNZ (a:Post)(m:List Nat)(b:Env)(c d e f g h i j:Value)(k:Heap):Prop:=a .normal m (puts b [(48,(b 0)),(49,(b 14)),(50,c),(51,d),(52,e),(53,(b 1)),(54,f),(55,(b 12)),(56,(b 0)),(57,(b 14)),(58,g),(59,h),(60,i),(61,j),(12,j)]) k
def qjOZ (a:Env)(b:Heap)(c:Post)(m:List Nat)(d e f g:Value):Prop:=ov (iaV (some (none,5)) (a 0) (a 14)) fun h=>ov (ldV (some (some 5)) h b) fun i=>bsM (bsI P qlZ) 1 [(0,i)] b fun j k=>vvM P (Builtin.append_ #[qlZ,qlZ] qlZ #[(a 12),j]) k fun l n=>qjNZ c m a d e f g h i j l n
def qeEZ (a:Env)(b:Heap)(c:Post)(m:List Nat):Prop:=ov (iaV (some (none,5)) (a 0) (a 14)) fun d=>ov (faV (some 0) d) fun e=>ov (ldV (some none) e b) fun f=>ov (binV BinOp.neq 3 false f (a 1)) fun g=>cdM g (qjOZ a b c m d e f g) (c .normal m (puts a [(48,(a 0)),(49,(a 14)),(50,d),(51,e),(52,f),(53,(a 1)),(54,g)]) b)
def qklZ (a:Env)(b:Heap)(m:List Nat)(c d:Value)(e:Post):Prop:=seqM (fun f=>qkkZ a b f m c d) (fun m g h=>qeEZ g h e m) (blkM 1 e)
def qkmZ (a:Env)(b:Heap)(m:List Nat)(c d:Value)(e:Post):Prop:=seqM (fun f=>qklZ a b m c d f) (fun m g h=>ov (binV BinOp.add 2 true (g 14) (Value.int IntKind.i64 1)) fun i=>e .normal m (puts g [(28,(g 14)),(29,i),(14,i)]) h) e
def qknZ (a:Env)(b:Heap)(m:List Nat)(c:Post):Prop:=ov (lnV 7 (a 0)) fun d=>ov (binV BinOp.lss 2 false (a 14) d) fun e=>cdM e (qkmZ a b m d e c) (c (.exit 0) m (puts a [(24,(a 14)),(25,(a 0)),(26,d),(27,e)]) b)
def qkoZ (x0 x1 x2 x3 a b c d e f:Value)(g:Heap)(h:Post):Prop:=loopM (fun m i j k=>qknZ i j m k) [] (puts (envOf [x0,x1,x2,x3]) [(8,(Value.slice none 0 0)),(9,(Value.slice none 0 0)),(15,x0),(16,x1),(17,a),(10,b),(18,x2),(19,x3),(20,c),(11,d),(12,(Value.slice none 0 0)),(21,x2),(22,e),(23,f),(13,f),(14,(Value.int IntKind.i64 0))]) g (blkM 0 h)
def qjPZ (a:Env)(b:Heap)(c:Post)(m:List Nat)(d:Value):Prop:=ov (ldV (some (some 3)) (a 11) b) fun e=>ov (bdV (binf P qkZ) [(0,(a 1)),(1,(a 2)),(2,e)]) fun f=>bsM (bsI P qlZ) 1 [(0,f)] b fun g h=>vvM P (Builtin.append_ #[qlZ,qlZ] qlZ #[(a 12),g]) h fun i j=>c .normal m (puts a [(62,(a 13)),(63,d),(64,(a 12)),(65,(a 1)),(66,(a 2)),(67,e),(68,f),(69,g),(70,i),(12,i)]) j
def qjQZ (a:Env)(b:Heap)(c:Post)(m:List Nat):Prop:=ov (unV UnOp.not (a 13)) fun d=>cdM d (qjPZ a b c m d) (c .normal m (puts a [(62,(a 13)),(63,d)]) b)
def qjRZ (a:Env)(b:Heap)(K:KTy)(m:List Nat)(c d e f:Value):Prop:=ov (faV (some 2) (a 10)) fun g=>ov (ldV (some (some 3)) g b) fun h=>ov (ldV (some (some 3)) (a 11) b) fun i=>ov (bdV (binf P qTZ) [(0,(a 1)),(1,h),(2,i)]) fun j=>bsM (bsI P qUZ) 1 [(0,j)] b fun k l=>(retM P [.tmp 8,.tmp 9] K) .ret m (puts a [(71,c),(72,d),(73,e),(74,f),(75,(a 12)),(76,(a 1)),(77,g),(78,h),(79,i),(80,j),(8,(a 12)),(81,k),(9,k)]) l
def qeFZ (a:Env)(b:Heap)(K:KTy)(m:List Nat):Prop:=ov (ldV (some (some 3)) (a 11) b) fun c=>ov (faV (some 2) (a 10)) fun d=>ov (ldV (some (some 3)) d b) fun e=>pvM P (do eqGuard BinOp.neq qhZ (Operand.tmp 71) (Operand.tmp 73) c e; binOp BinOp.neq qhZ c e) fun f=>cdM f (qjRZ a b K m c d e f) ((retM P [.tmp 8,.tmp 9] K) .ret m (puts a [(71,c),(72,d),(73,e),(74,f),(82,(a 12)),(8,(a 12)),(9,(Value.slice none 0 0))]) b)
def qjSZ (a:Env)(b:Heap)(m:List Nat)(K:KTy):Prop:=seqM (fun c=>qjQZ a b c m) (fun m d e=>qeFZ d e K m) (retM P [.tmp 8,.tmp 9] K)
def qkpZ (a:Heap)(b x2 x0 x1 x3 c d:Value)(K:KTy):Prop:=nwM (zc P qhZ) qhZ a fun e f=>stM (some 3) e b f fun g=>ov (lnV 7 x2) fun h=>ov (binV BinOp.eql 2 true h (Value.int IntKind.i64 0)) fun i=>seqM (fun j=>qkoZ x0 x1 x2 x3 c d b e h i g j) (fun m k l=>qjSZ k l m K) (retM P [.tmp 8,.tmp 9] K)
def qkqZ (a:Heap)(b x2 x3 x0 x1:Value)(K:KTy):Prop:=nwM (zc P qkZ) qkZ a fun c d=>stM (some 5) c b d fun e=>callM P qjrZ #[x2,x3] e fun f g=>qkpZ g f x2 x0 x1 x3 b c K
def qgfZ (x0 x1 x2 x3:Value)(h:Heap)(K:KTy):Prop:=callM P qeiZ #[x0,x1] h fun a b=>qkqZ b a x2 x3 x0 x1 K
theorem qsbZ {x0 x1 x2 x3:Value}{h:Heap}(hd:qgfZ x0 x1 x2 x3 h K):callM P qcXZ #[x0,x1,x2,x3] h K :=
 call_of good mixed (fn:=Tryz.f250) (args:=[x0,x1,x2,x3]) Tryz.func250 rfl (by kernel_rfl) (of_decide_eq_true rfl) (B:=qgfZ x0 x1 x2 x3 h K) (by kernel_rfl) hd
def qpWZ (x0:Value)(h:Heap)(K:KTy):Prop:=ov (binV BinOp.geq 2 true x0 (Value.int IntKind.i64 0)) fun a=>gM (isB a true) (fun b=>b x0 h) h fun c d=>gM (isB a true) (fun e=>ov (binV BinOp.lss 2 true c (Value.int IntKind.i64 8)) fun f=>e f d) d fun g i=>ov (pkV a g (Value.bool false)) fun j=>K j i
theorem quTZ {x0:Value}{h:Heap}(hd:qpWZ x0 h K):callM P qpbZ #[x0] h K :=
 call_of good mixed (fn:=Tryz.f252) (args:=[x0]) Tryz.func252 rfl (by kernel_rfl) (of_decide_eq_true rfl) (B:=qpWZ x0 h K) (by kernel_rfl) hd
def qfsZ (a:Value)(b:Heap)(c:Value)(K:KTy):Prop:=ov (faV (some 1) a) fun d=>ov (ldV (some none) d b) fun e=>ov (iaV (some (none,1)) e c) fun f=>ov (ldV (some none) f b) fun g=>K (.tuple #[g,(Value.bool true)]) b
def qftZ (a:Value)(K:KTy)(b:Heap)(c:Value):Prop:=ov (exV a 0) fun d=>ov (exV a 1) fun e=>ov (unV UnOp.not e) fun f=>cdM f (K (.tuple #[(Value.int IntKind.u32 0),(Value.bool false)]) b) (qfsZ c b d K)
def qcJZ (x0 x1:Value)(h:Heap)(K:KTy):Prop:=nwM (some x0.cells) qiZZ h fun a b=>ov (ldV (some (some 2)) a b) fun c=>callM P qbNZ #[c,x1] b fun d e=>qftZ d K e a
theorem qpjZ {x0 x1:Value}{h:Heap}(hd:qcJZ x0 x1 h K):callM P qcpZ #[x0,x1] h K :=
 call_of good mixed (fn:=Tryz.f253) (args:=[x0,x1]) Tryz.func253 rfl (by kernel_rfl) (of_decide_eq_true rfl) (B:=qcJZ x0 x1 h K) (by kernel_rfl) hd
def qbkZ (x0 x1:Value)(h:Heap)(K:KTy):Prop:=nwM (some x0.cells) qaZ h fun a b=>ov (faV (some 0) a) fun c=>ov (ldV (some none) c b) fun d=>callM P qNZ #[d,x1] b fun e f=>ov (exV e 0) fun g=>ov (exV e 1) fun i=>K (.tuple #[g,i]) f
theorem qlDZ {x0 x1:Value}{h:Heap}(hd:qbkZ x0 x1 h K):callM P qEZ #[x0,x1] h K :=
 call_of good mixed (fn:=Tryz.f257) (args:=[x0,x1]) Tryz.func257 rfl (by kernel_rfl) (of_decide_eq_true rfl) (B:=qbkZ x0 x1 h K) (by kernel_rfl) hd
def qupZ (x0 x1:Value)(a:Heap)(b c d:Value)(e:Post):Prop:=callM P qtiZ #[x0,x1] a fun f g=>rfM P gd f #[11] (rfA P qhGZ 0) (rfB P qhGZ 0) [] (puts (envOf [x0,x1]) [(4,b),(5,c),(6,d),(8,x0),(9,x1),(10,f)]) g (blkM 0 e)
def quqZ (a:Env)(b:Heap)(K:KTy)(m:List Nat):Prop:=ov (faV (some 1) (a 5)) fun c=>ov (ldV (some none) c b) fun d=>ov (faV (some 2) (a 5)) fun e=>ov (ldV (some none) e b) fun f=>ov (ldV (some none) (a 6) b) fun g=>ov (bdV (binf P qhZ) [(0,d),(1,f),(2,g)]) fun h=>stM (some 3) (a 4) h b fun i=>(retM P [.cell 4 60] K) .ret m (puts a [(22,c),(23,d),(24,e),(25,f),(26,g),(27,h)]) i
def qtSZ (x0 x1:Value)(h:Heap)(K:KTy):Prop:=nwM (zc P qhZ) qhZ h fun a b=>nwM (zc P qcZ) qcZ b fun c d=>nwM (zc P qsZ) qsZ d fun e f=>stM (some 1) e (Value.int IntKind.i64 0) f fun g=>seqM (fun i=>qupZ x0 x1 g a c e i) (fun m j k=>quqZ j k K m) (retM P [.cell 4 60] K)
theorem qvtZ {x0 x1:Value}{h:Heap}(hd:qtSZ x0 x1 h K):callM P qhGZ #[x0,x1] h K :=
 call_of good mixed (fn:=Tryz.f258) (args:=[x0,x1]) Tryz.func258 rfl (by kernel_rfl) (of_decide_eq_true rfl) (B:=qtSZ x0 x1 h K) (by kernel_rfl) hd
def qtTZ (m:List Nat)(s:Env)(h:Heap)(Q:Post):Prop:=nwM (zc P qcZ) qcZ h fun a b=>stM (some 4) a (s 11) b fun c=>Q .normal m (puts s [(7,a)]) c
theorem qvdZ {m:List Nat}{s:Env}{h:Heap}{Q:Post}:den P gd (rfA P qhGZ 0) m s h Q=qtTZ m s h Q:=by kernel_rfl
def qtUZ (m:List Nat)(s:Env)(h:Heap)(Q:Post):Prop:=seqM (fun a=>ov (ldV (some none) (s 6) h) fun b=>ov (binV BinOp.eql 2 true b (Value.int IntKind.i64 0)) fun c=>gM (isB c false) (fun d=>ov (ldV (some (some 4)) (s 7) h) fun e=>d e h) h fun f g=>gM (isB c false) (fun i=>ov (ldV (some (some 4)) (s 5) g) fun j=>i j g) g fun k l=>gM (isB c false) (fun n=>callM P qpcZ #[f,k] l fun o p=>n o p) l fun q r=>ov (pkV c (Value.bool true) q) fun t=>cdM t (ov (ldV (some (some 4)) (s 7) r) fun u=>stM (some 4) (s 5) u r fun v=>a .normal m (puts s [(12,b),(13,c),(14,c),(15,f),(16,k),(17,q),(18,t),(19,u)]) v) (a .normal m (puts s [(12,b),(13,c),(14,c),(15,f),(16,k),(17,q),(18,t)]) r)) (fun m w x=>ov (ldV (some none) (w 6) x) fun y=>ov (binV BinOp.add 2 true y (Value.int IntKind.i64 1)) fun z=>stM (some 1) (w 6) z x fun aa=>Q .normal m (puts w [(20,y),(21,z)]) aa) (blkM 1 Q)
theorem qveZ {m:List Nat}{s:Env}{h:Heap}{Q:Post}:den P gd (rfB P qhGZ 0) m s h Q=qtUZ m s h Q:=by kernel_rfl
def qeqZ (a:Post)(m:List Nat)(b:Env)(c d e f g h i j k l n o p q r s t u v w x y z aa ab ac ad ae af ag ah ai aj ak al am an ao ap aq ar au av aw ax ay az ba bb bc bd be:Value)(bf:Heap):Prop:=a .normal m (puts b [(18,(b 8)),(19,(b 5)),(20,c),(21,d),(24,(b 5)),(25,(b 8)),(26,e),(27,f),(28,g),(29,(b 5)),(30,(b 6)),(31,h),(32,i),(33,j),(34,k),(35,k),(36,l),(37,n),(38,o),(39,p),(40,q),(41,r),(42,s),(43,t),(44,u),(45,v),(46,w),(47,x),(48,y),(49,z),(50,aa),(51,ab),(52,ac),(53,ad),(54,ae),(55,af),(56,ag),(57,ah),(58,ai),(59,aj),(60,ak),(61,al),(62,am),(63,an),(64,ao),(65,ap),(66,aq),(67,ar),(68,au),(69,av),(70,aw),(71,ax),(72,ay),(73,az),(74,ba),(75,bb),(76,bc),(77,bd),(78,be),(7,(Value.bool false))]) bf
def qerZ (a:Post)(m:List Nat)(b:Env)(c d e f g h i j k l n o p q r s t u v w x y z aa ab ac ad ae af ag ah ai aj ak al am an ao ap aq ar au av aw ax ay az ba bb bc bd be:Value)(bf:Heap):Prop:=a .normal m (puts b [(18,(b 8)),(19,(b 5)),(20,c),(21,d),(24,(b 5)),(25,(b 8)),(26,e),(27,f),(28,g),(29,(b 5)),(30,(b 6)),(31,h),(32,i),(33,j),(34,k),(35,k),(36,l),(37,n),(38,o),(39,p),(40,q),(41,r),(42,s),(43,t),(44,u),(45,v),(46,w),(47,x),(48,y),(49,z),(50,aa),(51,ab),(52,ac),(53,ad),(54,ae),(55,af),(56,ag),(57,ah),(58,ai),(59,aj),(60,ak),(61,al),(62,am),(63,an),(64,ao),(65,ap),(66,aq),(67,ar),(68,au),(69,av),(70,aw),(71,ax),(72,ay),(73,az),(74,ba),(75,bb),(76,bc),(77,bd),(78,be)]) bf
def qoLZ (a:Env)(b:Heap)(c:Post)(m:List Nat)(d e:Value):Prop:=ov (iaV (some (none,4)) (a 5) (a 8)) fun f=>ov (faV (some 2) f) fun g=>ov (ldV (some none) g b) fun h=>ov (iaV (some (none,4)) (a 5) (a 6)) fun i=>ov (faV (some 2) i) fun j=>ov (ldV (some none) j b) fun l=>ov (binV BinOp.gtr 2 false h l) fun n=>gv (isB n false) (fun k=>k (a 5)) fun o=>gv (isB n false) (fun k=>k (a 8)) fun p=>gv (isB n false) (ov (iaV (some (none,4)) o p)) fun q=>gv (isB n false) (ov (faV (some 2) q)) fun r=>gv (isB n false) (ov (ldV (some none) r b)) fun s=>gv (isB n false) (fun k=>k (a 5)) fun t=>gv (isB n false) (fun k=>k (a 6)) fun u=>gv (isB n false) (ov (iaV (some (none,4)) t u)) fun v=>gv (isB n false) (ov (faV (some 2) v)) fun w=>gv (isB n false) (ov (ldV (some none) w b)) fun x=>gv (isB n false) (ov (binV BinOp.eql 2 false s x)) fun y=>gv (isB n false) (fun k=>k y) fun z=>gv (isB z true) (fun k=>k (a 5)) fun aa=>gv (isB z true) (fun k=>k (a 8)) fun ab=>gv (isB z true) (ov (iaV (some (none,4)) aa ab)) fun ac=>gv (isB z true) (ov (faV (some 0) ac)) fun ad=>gv (isB z true) (ov (ldV (some none) ad b)) fun ae=>gv (isB z true) (fun k=>k (a 5)) fun af=>gv (isB z true) (fun k=>k (a 6)) fun ag=>gv (isB z true) (ov (iaV (some (none,4)) af ag)) fun ah=>gv (isB z true) (ov (faV (some 0) ah)) fun ai=>gv (isB z true) (ov (ldV (some none) ai b)) fun aj=>gv (isB z true) (ov (binV BinOp.lss 2 false ae aj)) fun ak=>gv (isB z true) (fun k=>k ak) fun al=>gv (isB al false) (fun k=>k (a 5)) fun am=>gv (isB al false) (fun k=>k (a 8)) fun an=>gv (isB al false) (ov (iaV (some (none,4)) am an)) fun ao=>gv (isB al false) (ov (faV (some 0) ao)) fun ap=>gv (isB al false) (ov (ldV (some none) ap b)) fun aq=>gv (isB al false) (fun k=>k (a 5)) fun ar=>gv (isB al false) (fun k=>k (a 6)) fun au=>gv (isB al false) (ov (iaV (some (none,4)) ar au)) fun av=>gv (isB al false) (ov (faV (some 0) av)) fun aw=>gv (isB al false) (ov (ldV (some none) aw b)) fun ax=>gv (isB al false) (ov (binV BinOp.eql 2 false aq ax)) fun ay=>gv (isB al false) (fun k=>k ay) fun az=>gv (isB az true) (fun k=>k (a 8)) fun ba=>gv (isB az true) (fun k=>k (a 6)) fun bb=>gv (isB az true) (ov (binV BinOp.lss 2 false ba bb)) fun bc=>gv (isB al false) (ov (pkV az bc (Value.bool false))) fun bd=>gv (isB z true) (ov (pkV al (Value.bool true) bd)) fun be=>gv (isB n false) (ov (pkV z be (Value.bool false))) fun bf=>ov (pkV n (Value.bool true) bf) fun bg=>cdM bg (qeqZ c m a d e f g h i j l n o p q r s t u v w x y z aa ab ac ad ae af ag ah ai aj ak al am an ao ap aq ar au av aw ax ay az ba bb bc bd be bf bg b) (qerZ c m a d e f g h i j l n o p q r s t u v w x y z aa ab ac ad ae af ag ah ai aj ak al am an ao ap aq ar au av aw ax ay az ba bb bc bd be bf bg b)
def qoMZ (a:Env)(b:Heap)(m:List Nat)(c d:Value)(e:Post):Prop:=seqM (fun f=>qoLZ a b f m c d) (fun m g h=>ov (binV BinOp.add 2 true (g 8) (Value.int IntKind.i64 1)) fun i=>e .normal m (puts g [(22,(g 8)),(23,i),(8,i)]) h) e
def qoNZ (a:Env)(b:Heap)(m:List Nat)(c:Post):Prop:=ov (lnV 7 (a 5)) fun d=>ov (binV BinOp.lss 2 false (a 8) d) fun e=>cdM e (qoMZ a b m d e c) (c (.exit 2) m (puts a [(18,(a 8)),(19,(a 5)),(20,d),(21,e)]) b)
def qoOZ (m:List Nat)(a:Env)(b c:Value)(d:Heap)(e:Post):Prop:=loopM (fun m f g h=>qoNZ f g m h) m (puts a [(12,(a 6)),(13,(a 5)),(14,b),(15,c),(7,(Value.bool true)),(8,(Value.int IntKind.i64 0))]) d (blkM 2 e)
def qnYZ (a:Env)(b:Heap)(c:Post)(m:List Nat):Prop:=ov (iaV (some (none,4)) (a 5) (a 6)) fun d=>ov (faV (some 1) d) fun e=>ov (ldV (some none) e b) fun f=>ov (iaV (some (none,4)) (a 5) (a 6)) fun g=>ov (faV (some 2) g) fun h=>ov (ldV (some none) h b) fun i=>ov (lnV 7 (a 5)) fun j=>ov (bdV (binf P qhZ) [(0,f),(1,i),(2,j)]) fun k=>stM (some 3) (a 4) k b fun l=>c .ret m (puts a [(79,(a 7)),(80,(a 5)),(81,(a 6)),(82,d),(83,e),(84,f),(85,(a 5)),(86,(a 6)),(87,g),(88,h),(89,i),(90,(a 5)),(91,j),(92,k)]) l
def qnZZ (a:Env)(b:Heap)(c:Post)(m:List Nat):Prop:=cdM (a 7) (qnYZ a b c m) (c .normal m (puts a [(79,(a 7))]) b)
def qoPZ (m:List Nat)(a:Env)(b c:Value)(d:Heap)(e:Post):Prop:=seqM (fun f=>qoOZ m a b c d f) (fun m g h=>qnZZ g h e m) (blkM 1 e)
def qoQZ (m:List Nat)(a:Env)(b c:Value)(d:Heap)(e:Post):Prop:=seqM (fun f=>qoPZ m a b c d f) (fun m g h=>ov (binV BinOp.add 2 true (g 6) (Value.int IntKind.i64 1)) fun i=>e .normal m (puts g [(16,(g 6)),(17,i),(6,i)]) h) e
def qoRZ (a:Env)(m:List Nat)(b:Heap)(c:Post):Prop:=ov (lnV 7 (a 5)) fun d=>ov (binV BinOp.lss 2 false (a 6) d) fun e=>cdM e (qoQZ m a d e b c) (c (.exit 0) m (puts a [(12,(a 6)),(13,(a 5)),(14,d),(15,e)]) b)
def qoSZ (x0 x1 a b:Value)(c:Heap)(d:Post):Prop:=loopM (fun m e f g=>qoRZ e m f g) [] (puts (envOf [x0,x1]) [(4,a),(9,x0),(10,x1),(11,b),(5,b),(6,(Value.int IntKind.i64 0))]) c (blkM 0 d)
def qoTZ (x0 x1 a b:Value)(c:Heap)(K:KTy):Prop:=seqM (fun d=>qoSZ x0 x1 a b c d) (fun m e f=>ov (bdV (binf P qhZ) []) fun g=>stM (some 3) (e 4) g f fun h=>(retM P [.cell 4 60] K) .ret m (puts e [(93,g)]) h) (retM P [.cell 4 60] K)
def qkGZ (x0 x1:Value)(h:Heap)(K:KTy):Prop:=nwM (zc P qhZ) qhZ h fun a b=>callM P qbzZ #[x0,x1] b fun c d=>qoTZ x0 x1 a c d K
theorem qujZ {x0 x1:Value}{h:Heap}(hd:qkGZ x0 x1 h K):callM P qjrZ #[x0,x1] h K :=
 call_of good mixed (fn:=Tryz.f259) (args:=[x0,x1]) Tryz.func259 rfl (by kernel_rfl) (of_decide_eq_true rfl) (B:=qkGZ x0 x1 h K) (by kernel_rfl) hd
def qbaZ (a:Value)(b:Heap)(c:Env)(d:Post)(m:List Nat)(e f g h i j k:Value):Prop:=ov (ldV (some (some 4)) a b) fun l=>ov (iaV (some (none,4)) (c 0) (c 5)) fun n=>stM (some 4) n l b fun o=>ov (binV BinOp.add 2 true (c 5) (Value.int IntKind.i64 1)) fun p=>d .normal m (puts c [(16,(c 6)),(17,(c 0)),(18,e),(19,f),(22,(c 0)),(23,(c 6)),(24,g),(25,h),(7,a),(26,(c 1)),(27,i),(28,j),(29,k),(30,(c 0)),(31,(c 5)),(32,l),(33,n),(34,(c 5)),(35,p),(5,p)]) o
def qbbZ (a:Post)(m:List Nat)(b:Env)(c d e f g h i j:Value)(k:Heap):Prop:=a .normal m (puts b [(16,(b 6)),(17,(b 0)),(18,c),(19,d),(22,(b 0)),(23,(b 6)),(24,e),(25,f),(7,g),(26,(b 1)),(27,h),(28,i),(29,j)]) k
def qbcZ (a b:Value)(c:Heap)(d:Env)(e:Post)(m:List Nat)(f g h i j:Value):Prop:=ov (unV UnOp.not a) fun k=>cdM k (qbaZ b c d e m f g h i j a k) (qbbZ e m d f g h i b j a k c)
def qbdZ (a:Env)(b:Heap)(c:Post)(m:List Nat)(e f:Value):Prop:=ov (iaV (some (none,4)) (a 0) (a 6)) fun g=>ov (ldV (some (some 4)) g b) fun h=>nwM (zc P qcZ) qcZ b fun i j=>stM (some 4) i h j fun k=>ov (ldV (some (some 4)) i k) fun l=>nxM P (do let d ← Deferred.ofValue (a 1) #[l] ; invoke d.target d.args) k fun n o=>qbcZ n i o a c m e f g h l
def qbeZ (a:Env)(b:Heap)(m:List Nat)(c d:Value)(e:Post):Prop:=seqM (fun f=>qbdZ a b f m c d) (fun m g h=>ov (binV BinOp.add 2 true (g 6) (Value.int IntKind.i64 1)) fun i=>e .normal m (puts g [(20,(g 6)),(21,i),(6,i)]) h) e
def qbfZ (a:Env)(b:Heap)(m:List Nat)(c:Post):Prop:=ov (lnV 7 (a 0)) fun d=>ov (binV BinOp.lss 2 false (a 6) d) fun e=>cdM e (qbeZ a b m d e c) (c (.exit 0) m (puts a [(16,(a 6)),(17,(a 0)),(18,d),(19,e)]) b)
def qbgZ (a x0 x1 b:Value)(c:Heap)(d:Post):Prop:=ov (binV BinOp.add 2 true a (Value.int IntKind.i64 1)) fun e=>loopM (fun m f g h=>qbfZ f g m h) [] (puts (envOf [x0,x1]) [(4,(Value.slice none 0 0)),(8,x0),(9,x1),(10,a),(5,a),(11,a),(12,b),(14,a),(15,e),(6,e)]) c (blkM 0 d)
def qaVZ (a:Env)(K:KTy)(m:List Nat)(b:Value)(c:Heap):Prop:=ov (slV (some (none,4)) (a 0) none (some (a 5))) fun d=>(retM P [.tmp 4] K) .ret m (puts a [(36,(a 0)),(37,(a 5)),(38,b),(39,(a 0)),(40,(a 5)),(41,d),(4,d)]) c
def qaWZ (a:Env)(b:Heap)(K:KTy)(m:List Nat):Prop:=ov (slV (some (none,4)) (a 0) (some (a 5)) none) fun c=>vvM P (Builtin.clear_ #[qbZ] qtWZ #[c]) b fun d e=>qaVZ a K m c e
def qbhZ (a x0 x1 b:Value)(c:Heap)(K:KTy):Prop:=seqM (fun d=>qbgZ a x0 x1 b c d) (fun m e f=>qaWZ e f K m) (retM P [.tmp 4] K)
def qbiZ (a:Value)(K:KTy)(x0:Value)(b:Heap)(x1:Value):Prop:=ov (binV BinOp.eql 2 true a (Value.int IntKind.i64 (-1))) fun c=>cdM c (K x0 b) (qbhZ a x0 x1 c b K)
def qWZ (x0 x1:Value)(h:Heap)(K:KTy):Prop:=callM P qVZ #[x0,x1] h fun a b=>qbiZ a K x0 b x1
theorem qfCZ {x0 x1:Value}{h:Heap}(hd:qWZ x0 x1 h K):callM P qSZ #[x0,x1] h K :=
 call_of good mixed (fn:=Tryz.f263) (args:=[x0,x1]) Tryz.func263 rfl (by kernel_rfl) (of_decide_eq_true rfl) (B:=qWZ x0 x1 h K) (by kernel_rfl) hd
def qbXZ (h:Heap)(x0:Value)(K:KTy):Prop:=bsM (bsI P qbZ) 0 [] h fun a b=>vvM P (Builtin.append_ #[qbZ,qbZ] qbZ #[a,x0]) b fun c d=>K c d
def qawZ (x0:Value)(h:Heap)(K:KTy):Prop:=ov (binV BinOp.eql 7 true x0 (Value.slice none 0 0)) fun a=>cdM a (K (Value.slice none 0 0) h) (qbXZ h x0 K)
theorem qiXZ {x0:Value}{h:Heap}(hd:qawZ x0 h K):callM P quZ #[x0] h K :=
 call_of good mixed (fn:=Tryz.f264) (args:=[x0]) Tryz.func264 rfl (by kernel_rfl) (of_decide_eq_true rfl) (B:=qawZ x0 h K) (by kernel_rfl) hd
def qoaZ (x0 x1:Value)(h:Heap)(K:KTy):Prop:=nwM (some x0.cells) qcZ h fun a b=>ov (ldV (some none) x1 b) fun c=>ov (faV (some 3) a) fun d=>ov (ldV (some none) d b) fun e=>callM P qmVZ #[c,e] b fun f g=>K f g
theorem quGZ {x0 x1:Value}{h:Heap}(hd:qoaZ x0 x1 h K):callM P qaJZ #[x0,x1] h K :=
 call_of good mixed (fn:=Tryz.f265) (args:=[x0,x1]) Tryz.func265 rfl (by kernel_rfl) (of_decide_eq_true rfl) (B:=qoaZ x0 x1 h K) (by kernel_rfl) hd
def qroZ (x0 x1:Value)(h:Heap)(K:KTy):Prop:=ov (binV BinOp.leq 2 false x1 x0) fun a=>K a h
theorem qvkZ {x0 x1:Value}{h:Heap}(hd:qroZ x0 x1 h K):callM P qmVZ #[x0,x1] h K :=
 call_of good mixed (fn:=Tryz.f266) (args:=[x0,x1]) Tryz.func266 rfl (by kernel_rfl) (of_decide_eq_true rfl) (B:=qroZ x0 x1 h K) (by kernel_rfl) hd
def qrpZ (x0 x1:Value)(h:Heap)(K:KTy):Prop:=callM P qahZ #[x0,x1,(.func (.func qffZ) #[] #[])] h fun a b=>ov (exV a 0) fun c=>ov (exV a 1) fun d=>K (.tuple #[c,d]) b
theorem qvlZ {x0 x1:Value}{h:Heap}(hd:qrpZ x0 x1 h K):callM P qjsZ #[x0,x1] h K :=
 call_of good mixed (fn:=Tryz.f267) (args:=[x0,x1]) Tryz.func267 rfl (by kernel_rfl) (of_decide_eq_true rfl) (B:=qrpZ x0 x1 h K) (by kernel_rfl) hd
def qbBZ (x1 a b x0:Value)(c:Heap)(K:KTy):Prop:=ov (binV BinOp.add 2 false x1 a) fun d=>ov (slV (some (none,4)) b (some d) none) fun e=>ov (slV (some (none,4)) x0 (some x1) none) fun f=>vvM P (Builtin.copy_ #[qbZ,qbZ] qsZ #[e,f]) c fun g h=>K b h
def qbCZ (a x1 x2:Value)(b:Heap)(c x0:Value)(K:KTy):Prop:=ov (slV (some (none,4)) a (some x1) none) fun d=>vvM P (Builtin.copy_ #[qbZ,qbZ] qsZ #[d,x2]) b fun e f=>qbBZ x1 c a x0 f K
def qbDZ (x0 x1 a b:Value)(c:Heap)(x2:Value)(K:KTy):Prop:=ov (slV (some (none,4)) x0 none (some x1)) fun d=>ov (binV BinOp.add 2 false a b) fun e=>ov (binV BinOp.sub 2 false e x1) fun f=>vvM P (Builtin.append_ #[qbZ,qsZ] qbZ #[d,f]) c fun g h=>qbCZ g x1 x2 h b x0 K
def qbAZ (a x1 x2:Value)(b:Heap)(K:KTy):Prop:=ov (slV (some (none,4)) a (some x1) none) fun c=>vvM P (Builtin.copy_ #[qbZ,qbZ] qsZ #[c,x2]) b fun d e=>K a e
def qbEZ (x1 a b:Value)(c:Heap)(x2:Value)(K:KTy):Prop:=ov (binV BinOp.add 2 false x1 a) fun d=>ov (slV (some (none,4)) b (some d) none) fun e=>ov (slV (some (none,4)) b (some x1) none) fun f=>vvM P (Builtin.copy_ #[qbZ,qbZ] qsZ #[e,f]) c fun g h=>qbAZ b x1 x2 h K
def qggZ (a b x2:Value)(c:Heap)(x1 d:Value)(K:KTy):Prop:=ov (slV (some (none,4)) a (some b) none) fun e=>vvM P (Builtin.copy_ #[qbZ,qbZ] qsZ #[e,x2]) c fun f g=>ov (slV (some (none,4)) a (some x1) none) fun h=>callM P qkJZ #[h,d] g fun i j=>K a j
def qbFZ (a x1 b c:Value)(d:Heap)(x2:Value)(K:KTy)(e:Value):Prop:=ov (unV UnOp.not a) fun f=>cdM f (qbEZ x1 b c d x2 K) (qggZ c e x2 d x1 b K)
def qbGZ (a b x0 x1 x2:Value)(c:Heap)(K:KTy):Prop:=ov (binV BinOp.add 2 false a b) fun d=>ov (slV (some (none,4)) x0 none (some d)) fun e=>ov (binV BinOp.add 2 false x1 b) fun f=>ov (slV (some (none,4)) e (some f) none) fun g=>nxM P (callFunc qfgZ #[x2,g]) c fun h i=>qbFZ h x1 b e i x2 K a
def qbHZ (a b x0 x1 c d:Value)(e:Heap)(x2:Value)(K:KTy):Prop:=ov (binV BinOp.gtr 2 false a b) fun f=>cdM f (qbDZ x0 x1 c d e x2 K) (qbGZ c d x0 x1 x2 e K)
def qbIZ (a b x0:Value)(h:Heap)(x1 x2:Value)(K:KTy):Prop:=ov (binV BinOp.add 2 false a b) fun c=>vvM P (Builtin.cap_ #[qbZ] qsZ #[x0]) h fun d e=>qbHZ c d x0 x1 a b e x2 K
def qbJZ (x0 x1 x2:Value)(h:Heap)(K:KTy)(a:Value):Prop:=ov (lnV 7 x0) fun b=>ov (binV BinOp.eql 2 false x1 b) fun c=>cdM c (vvM P (Builtin.append_ #[qbZ,qbZ] qbZ #[x0,x2]) h fun d e=>K d e) (qbIZ b a x0 h x1 x2 K)
def qapZ (x0 x1 x2:Value)(h:Heap)(K:KTy):Prop:=ov (slV (some (none,4)) x0 (some x1) none) fun a=>ov (lnV 7 x2) fun b=>ov (binV BinOp.eql 2 true b (Value.int IntKind.i64 0)) fun c=>cdM c (K x0 h) (qbJZ x0 x1 x2 h K b)
theorem qiuZ {x0 x1 x2:Value}{h:Heap}(hd:qapZ x0 x1 x2 h K):callM P qalZ #[x0,x1,x2] h K :=
 call_of good mixed (fn:=Tryz.f268) (args:=[x0,x1,x2]) Tryz.func268 rfl (by kernel_rfl) (of_decide_eq_true rfl) (B:=qapZ x0 x1 x2 h K) (by kernel_rfl) hd
def qbKZ (a b:Value)(c:Heap)(K:KTy):Prop:=ov (lnV 7 a) fun d=>ov (slV (some (none,4)) a (some d) (some b)) fun e=>vvM P (Builtin.clear_ #[qbZ] qtWZ #[e]) c fun f g=>K a g
def qbLZ (x0 x1 x2:Value)(h:Heap)(K:KTy):Prop:=ov (lnV 7 x0) fun a=>ov (slV (some (none,4)) x0 none (some x1)) fun b=>ov (slV (some (none,4)) x0 (some x2) none) fun c=>vvM P (Builtin.append_ #[qbZ,qbZ] qbZ #[b,c]) h fun d e=>qbKZ d a e K
def qaqZ (x0 x1 x2:Value)(h:Heap)(K:KTy):Prop:=ov (lnV 7 x0) fun a=>ov (sl3V (some (none,4)) x0 (some x1) x2 a) fun b=>ov (binV BinOp.eql 2 false x1 x2) fun c=>cdM c (K x0 h) (qbLZ x0 x1 x2 h K)
theorem qivZ {x0 x1 x2:Value}{h:Heap}(hd:qaqZ x0 x1 x2 h K):callM P qamZ #[x0,x1,x2] h K :=
 call_of good mixed (fn:=Tryz.f269) (args:=[x0,x1,x2]) Tryz.func269 rfl (by kernel_rfl) (of_decide_eq_true rfl) (B:=qaqZ x0 x1 x2 h K) (by kernel_rfl) hd
def qcyZ (a b c:Value)(d:Heap)(K:KTy):Prop:=ov (bdV (binf P qaZ) [(0,a),(1,b)]) fun e=>stM (some 2) c e d fun f=>ov (ldV (some (some 2)) c f) fun g=>K g f
def qczZ (a:Value)(b:Heap)(c d e f g h:Value)(K:KTy):Prop:=ldV (some none) a b=some c∧callM P qbOZ #[d,e,f] b fun i j=>ldV (some none) a j=some c∧callM P qdZ #[c] j fun k l=>callM P qauZ #[k,e,g] l fun m n=>qcyZ i m h n K
def qcAZ (a:Value)(b:Heap)(c d:Value)(K:KTy):Prop:=ov (faV (some 0) a) fun e=>ov (ldV (some none) e b) fun f=>ov (binV BinOp.add 2 true c (Value.int IntKind.i64 1)) fun g=>ov (faV (some 1) a) fun h=>ov (ldV (some none) h b) fun i=>ov (binV BinOp.add 2 true c (Value.int IntKind.i64 1)) fun j=>callM P qxZ #[f] b fun k l=>qczZ h l i k c g j d K
def qcBZ (a b:Value)(c:Heap)(d:Value)(K:KTy):Prop:=ov (exV a 0) fun e=>ov (exV a 1) fun f=>ov (unV UnOp.not f) fun g=>cdM g (ov (ldV (some (some 2)) b c) fun h=>stM (some 2) d h c fun i=>ov (ldV (some (some 2)) d i) fun j=>K j i) (qcAZ b c e d K)
def qaLZ (x0 x1:Value)(h:Heap)(K:KTy):Prop:=nwM (some x0.cells) qaZ h fun a b=>nwM (zc P qaZ) qaZ b fun c d=>ov (ldV (some (some 2)) a d) fun e=>callM P qEZ #[e,x1] d fun f g=>qcBZ f a g c K
theorem qjTZ {x0 x1:Value}{h:Heap}(hd:qaLZ x0 x1 h K):callM P qaAZ #[x0,x1] h K :=
 call_of good mixed (fn:=Tryz.f270) (args:=[x0,x1]) Tryz.func270 rfl (by kernel_rfl) (of_decide_eq_true rfl) (B:=qaLZ x0 x1 h K) (by kernel_rfl) hd
def qdHZ (a:Value)(b:Heap)(c d:Value)(e:Post)(x0 x1 x2 f g h i j k l m n:Value):Prop:=ldV (some none) a b=some c∧ov (bdV (binf P qaZ) [(0,c),(1,d)]) fun o=>nwM (zc P qaZ) qaZ b fun p q=>ldV (some none) a q=some c∧stM (some 2) p o q fun r=>e .normal [] (puts (envOf [x0,x1,x2]) [(3,f),(5,g),(6,h),(11,i),(12,x1),(13,j),(10,j),(14,k),(15,l),(7,k),(8,l),(16,l),(17,a),(18,c),(19,m),(20,n),(21,d),(22,o),(9,p)]) r
def qdIZ (a:Value)(b:Heap)(c d:Value)(e:Post)(x0 x1 x2 f g h i j k l m:Value):Prop:=callM P qdZ #[a] b fun n o=>qdHZ c o d n e x0 x1 x2 f g h i j k l m a
def qdJZ (a:Heap)(b c d e:Value)(f:Post)(x0 x1 x2 g h i j k l m:Value):Prop:=nwM (zc P qaZ) qaZ a fun n o=>ldV (some none) b o=some c∧ldV (some none) d o=some e∧callM P qdZ #[e] o fun p q=>ldV (some none) b q=some c∧ov (bdV (binf P qaZ) [(0,c),(1,p)]) fun r=>stM (some 2) n r q fun s=>f .normal [] (puts (envOf [x0,x1,x2]) [(3,g),(5,h),(6,i),(11,j),(12,x1),(13,k),(10,k),(14,l),(15,m),(7,l),(8,m),(16,m),(17,b),(18,c),(19,d),(20,e),(9,n),(21,p),(22,r)]) s
def qdKZ (a:Value)(b:Heap)(c:Post)(x0 x1 x2 d e f g h i:Value):Prop:=ov (faV (some 0) a) fun j=>ov (ldV (some none) j b) fun k=>ov (faV (some 1) a) fun l=>ov (ldV (some none) l b) fun m=>(qdIZ m b j k c x0 x1 x2 a d e f g h i l)∧(qdJZ b j k l m c x0 x1 x2 a d e f g h i)
def qaTZ (a:Env)(b:Heap)(c:Post)(m:List Nat):Prop:=ov (faV (some 1) (a 9)) fun d=>ov (ldV (some none) d b) fun e=>ov (ldV (some (some 4)) (a 5) b) fun f=>ov (iaV (some (none,4)) e (a 7)) fun g=>stM (some 4) g f b fun h=>ov (ldV (some (some 2)) (a 9) h) fun i=>stM (some 2) (a 6) i h fun j=>c .ret m (puts a [(23,d),(24,e),(25,(a 7)),(26,f),(27,g),(28,i)]) j
def qdLZ (a:Value)(b:Heap)(x0 x1 x2 c d e f g h:Value)(i:Post):Prop:=seqM (fun j=>qdKZ a b j x0 x1 x2 c d e f g h) (fun m k l=>qaTZ k l i m) i
def qdMZ (a:Post)(x0 x1 x2 b c d e f g h:Value)(i:Heap):Prop:=a .normal [] (puts (envOf [x0,x1,x2]) [(3,b),(5,c),(6,d),(11,e),(12,x1),(13,f),(10,f),(14,g),(15,h),(7,g),(8,h),(16,h)]) i
def qdNZ (a b:Value)(c:Heap)(x0 x1 x2 d e f g h:Value)(i:Post):Prop:=cdM a (qdLZ b c x0 x1 x2 d e f g h a i) (qdMZ i x0 x1 x2 b d e f g h a c)
def qdhZ (a b:Value)(c:Env)(d:Heap)(e:Post)(m:List Nat)(f g h i j k l n o:Value):Prop:=ov (bdV (binf P qaZ) [(0,a),(1,b)]) fun p=>stM (some 2) (c 6) p d fun q=>e .normal m (puts c [(29,f),(30,g),(32,(c 7)),(33,(c 1)),(36,h),(37,i),(39,(c 7)),(40,j),(31,k),(34,l),(35,a),(38,n),(41,o),(42,b),(43,p)]) q
def qdiZ (a:Env)(b:Heap)(c d e:Value)(f:Post)(m:List Nat)(g h i j k l:Value):Prop:=ldV (some (some 4)) (a 5) b=some c∧bsM (bsI P qeZ) 1 [(0,c)] b fun n o=>callM P qiZ #[d,(a 7),n] o fun p q=>qdhZ e p a q f m g h i j c k l d n
def qdjZ (a b:Value)(c:Env)(d:Heap)(e:Post)(m:List Nat)(f g h i j k l n o:Value):Prop:=ov (bdV (binf P qaZ) [(0,a),(1,b)]) fun p=>stM (some 2) (c 6) p d fun q=>e .normal m (puts c [(29,f),(30,g),(32,(c 7)),(33,(c 1)),(36,h),(37,i),(39,(c 7)),(40,j),(31,k),(34,l),(35,a),(41,n),(38,o),(42,b),(43,p)]) q
def qdkZ (a:Value)(b:Heap)(c:Value)(d:Env)(e f:Value)(g:Post)(m:List Nat)(h i j k:Value):Prop:=ldV (some none) a b=some c∧ldV (some (some 4)) (d 5) b=some e∧(callM P qdZ #[c] b fun l n=>qdiZ d n e l f g m h i a c j k)∧(bsM (bsI P qeZ) 1 [(0,e)] b fun o p=>ldV (some none) a p=some c∧callM P qdZ #[c] p fun q r=>callM P qiZ #[q,(d 7),o] r fun s t=>qdjZ f s d t g m h i a c e j k o q)
def qdlZ (a b:Value)(c:Env)(d:Heap)(e:Post)(m:List Nat)(f g h i j k l n o:Value):Prop:=ov (bdV (binf P qaZ) [(0,a),(1,b)]) fun p=>stM (some 2) (c 6) p d fun q=>e .normal m (puts c [(29,f),(30,g),(32,(c 7)),(33,(c 1)),(36,h),(37,i),(39,(c 7)),(40,j),(31,k),(34,l),(41,n),(35,a),(38,o),(42,b),(43,p)]) q
def qdmZ (a b:Value)(c:Env)(d:Heap)(e:Post)(m:List Nat)(f g h i j k l n o:Value):Prop:=ov (bdV (binf P qaZ) [(0,a),(1,b)]) fun p=>stM (some 2) (c 6) p d fun q=>e .normal m (puts c [(29,f),(30,g),(32,(c 7)),(33,(c 1)),(36,h),(37,i),(39,(c 7)),(40,j),(31,k),(41,l),(34,n),(35,a),(38,o),(42,b),(43,p)]) q
def qdnZ (a:Value)(b:Heap)(c:Value)(d:Env)(e f:Value)(g:Post)(m:List Nat)(h i:Value):Prop:=ldV (some none) a b=some c∧ldV (some (some 4)) (d 5) b=some e∧(bsM (bsI P qgZ) 1 [(0,(d 1))] b fun j k=>ldV (some none) a k=some c∧ldV (some (some 4)) (d 5) k=some e∧(callM P qoZ #[f,(d 7),j] k fun l n=>qdkZ a n c d e l g m h i f j)∧(bsM (bsI P qeZ) 1 [(0,e)] k fun o p=>ldV (some none) a p=some c∧callM P qoZ #[f,(d 7),j] p fun q r=>ldV (some none) a r=some c∧callM P qdZ #[c] r fun s t=>callM P qiZ #[s,(d 7),o] t fun u v=>qdlZ q u d v g m h i a c e f j o s))∧(bsM (bsI P qeZ) 1 [(0,e)] b fun w x=>ldV (some none) a x=some c∧bsM (bsI P qgZ) 1 [(0,(d 1))] x fun y z=>ldV (some none) a z=some c∧callM P qoZ #[f,(d 7),y] z fun aa ab=>ldV (some none) a ab=some c∧callM P qdZ #[c] ab fun ac ad=>callM P qiZ #[ac,(d 7),w] ad fun ae af=>qdmZ aa ae d af g m h i a c e f w y ac)
def qdoZ (a:Value)(b:Heap)(c d:Value)(e:Env)(f:Value)(g:Post)(m:List Nat)(h:Value):Prop:=callM P qxZ #[a] b fun i j=>qdnZ c j d e f i g m h a
def qdpZ (a b:Value)(c:Env)(d:Heap)(e:Post)(m:List Nat)(f g h i j k l n o:Value):Prop:=ov (bdV (binf P qaZ) [(0,a),(1,b)]) fun p=>stM (some 2) (c 6) p d fun q=>e .normal m (puts c [(29,f),(30,g),(32,(c 7)),(33,(c 1)),(36,h),(37,i),(39,(c 7)),(40,j),(34,k),(31,l),(35,a),(38,n),(41,o),(42,b),(43,p)]) q
def qdqZ (a:Env)(b:Heap)(c d e:Value)(f:Post)(m:List Nat)(g h i j k l:Value):Prop:=ldV (some (some 4)) (a 5) b=some c∧bsM (bsI P qeZ) 1 [(0,c)] b fun n o=>callM P qiZ #[d,(a 7),n] o fun p q=>qdpZ e p a q f m g h i j c k l d n
def qdrZ (a b:Value)(c:Env)(d:Heap)(e:Post)(m:List Nat)(f g h i j k l n o:Value):Prop:=ov (bdV (binf P qaZ) [(0,a),(1,b)]) fun p=>stM (some 2) (c 6) p d fun q=>e .normal m (puts c [(29,f),(30,g),(32,(c 7)),(33,(c 1)),(36,h),(37,i),(39,(c 7)),(40,j),(34,k),(31,l),(35,a),(41,n),(38,o),(42,b),(43,p)]) q
def qdsZ (a:Value)(b:Heap)(c:Value)(d:Env)(e f:Value)(g:Post)(m:List Nat)(h i j k:Value):Prop:=ldV (some none) a b=some c∧ldV (some (some 4)) (d 5) b=some e∧(callM P qdZ #[c] b fun l n=>qdqZ d n e l f g m h i a c j k)∧(bsM (bsI P qeZ) 1 [(0,e)] b fun o p=>ldV (some none) a p=some c∧callM P qdZ #[c] p fun q r=>callM P qiZ #[q,(d 7),o] r fun s t=>qdrZ f s d t g m h i a c e j k o q)
def qdtZ (a b:Value)(c:Env)(d:Heap)(e:Post)(m:List Nat)(f g h i j k l n o:Value):Prop:=ov (bdV (binf P qaZ) [(0,a),(1,b)]) fun p=>stM (some 2) (c 6) p d fun q=>e .normal m (puts c [(29,f),(30,g),(32,(c 7)),(33,(c 1)),(36,h),(37,i),(39,(c 7)),(40,j),(34,k),(31,l),(41,n),(35,a),(38,o),(42,b),(43,p)]) q
def qduZ (a:Value)(b:Heap)(c:Value)(d:Env)(e f g:Value)(h:Post)(m:List Nat)(i j:Value):Prop:=ldV (some none) a b=some c∧ldV (some (some 4)) (d 5) b=some e∧(callM P qoZ #[f,(d 7),g] b fun k l=>qdsZ a l c d e k h m i j g f)∧(bsM (bsI P qeZ) 1 [(0,e)] b fun n o=>ldV (some none) a o=some c∧callM P qoZ #[f,(d 7),g] o fun p q=>ldV (some none) a q=some c∧callM P qdZ #[c] q fun r s=>callM P qiZ #[r,(d 7),n] s fun t u=>qdtZ p t d u h m i j a c e g f n r)
def qdvZ (a b:Value)(c:Env)(d:Heap)(e:Post)(m:List Nat)(f g h i j k l n o:Value):Prop:=ov (bdV (binf P qaZ) [(0,a),(1,b)]) fun p=>stM (some 2) (c 6) p d fun q=>e .normal m (puts c [(29,f),(30,g),(32,(c 7)),(33,(c 1)),(36,h),(37,i),(39,(c 7)),(40,j),(34,k),(41,l),(31,n),(35,a),(38,o),(42,b),(43,p)]) q
def qdwZ (a:Env)(b:Heap)(c d e f g:Value)(h:Post)(m:List Nat):Prop:=bsM (bsI P qgZ) 1 [(0,(a 1))] b fun i j=>ldV (some none) c j=some d∧ldV (some none) e j=some f∧ldV (some (some 4)) (a 5) j=some g∧(callM P qxZ #[d] j fun k l=>qduZ e l f a g k i h m c d)∧(bsM (bsI P qeZ) 1 [(0,g)] j fun n o=>ldV (some none) c o=some d∧ldV (some none) e o=some f∧callM P qxZ #[d] o fun p q=>ldV (some none) e q=some f∧callM P qoZ #[p,(a 7),i] q fun r s=>ldV (some none) e s=some f∧callM P qdZ #[f] s fun t u=>callM P qiZ #[t,(a 7),n] u fun v w=>qdvZ r v a w h m c d e f g i n p t)
def qdxZ (a b:Value)(c:Env)(d:Heap)(e:Post)(m:List Nat)(f g h i j k l n o:Value):Prop:=ov (bdV (binf P qaZ) [(0,a),(1,b)]) fun p=>stM (some 2) (c 6) p d fun q=>e .normal m (puts c [(29,f),(30,g),(32,(c 7)),(33,(c 1)),(36,h),(37,i),(39,(c 7)),(40,j),(41,k),(31,l),(34,n),(35,a),(38,o),(42,b),(43,p)]) q
def qdyZ (a:Value)(b:Heap)(c:Value)(d:Env)(e f:Value)(g:Post)(m:List Nat)(h i j:Value):Prop:=ldV (some none) a b=some c∧bsM (bsI P qgZ) 1 [(0,(d 1))] b fun k l=>ldV (some none) a l=some c∧callM P qoZ #[e,(d 7),k] l fun n o=>ldV (some none) a o=some c∧callM P qdZ #[c] o fun p q=>callM P qiZ #[p,(d 7),f] q fun r s=>qdxZ n r d s g m h i a c j f e k p
def qdzZ (a b:Value)(c:Env)(d:Heap)(e:Post)(m:List Nat)(f g h i j k l n o:Value):Prop:=ov (bdV (binf P qaZ) [(0,a),(1,b)]) fun p=>stM (some 2) (c 6) p d fun q=>e .normal m (puts c [(29,f),(30,g),(32,(c 7)),(33,(c 1)),(36,h),(37,i),(39,(c 7)),(40,j),(41,k),(34,l),(31,n),(35,a),(38,o),(42,b),(43,p)]) q
def qdAZ (a:Value)(b:Heap)(c d e f:Value)(g:Env)(h:Post)(m:List Nat):Prop:=bsM (bsI P qeZ) 1 [(0,a)] b fun i j=>ldV (some none) c j=some d∧ldV (some none) e j=some f∧(callM P qxZ #[d] j fun k l=>qdyZ e l f g k i h m c d a)∧(bsM (bsI P qgZ) 1 [(0,(g 1))] j fun n o=>ldV (some none) c o=some d∧ldV (some none) e o=some f∧callM P qxZ #[d] o fun p q=>ldV (some none) e q=some f∧callM P qoZ #[p,(g 7),n] q fun r s=>ldV (some none) e s=some f∧callM P qdZ #[f] s fun t u=>callM P qiZ #[t,(g 7),i] u fun v w=>qdzZ r v g w h m c d e f a i n p t)
def qaMZ (a:Env)(b:Heap)(c:Post)(m:List Nat):Prop:=ov (faV (some 0) (a 3)) fun d=>ov (ldV (some none) d b) fun e=>ov (faV (some 1) (a 3)) fun f=>ov (ldV (some none) f b) fun g=>ov (ldV (some (some 4)) (a 5) b) fun h=>(qdoZ e b f g a h c m d)∧(qdwZ a b d e f g h c m)∧(qdAZ h b d e f g a c m)
def qaNZ (a:Env)(b:Heap)(m:List Nat)(K:KTy):Prop:=seqM (fun c=>qaMZ a b c m) (fun m d e=>(retM P [.cell 6 49] K) .ret m d e) (retM P [.cell 6 49] K)
def qdOZ (a b:Value)(c:Heap)(x0 x1 x2 d e f:Value)(K:KTy):Prop:=ov (exV a 0) fun g=>ov (exV a 1) fun h=>seqM (fun i=>qdNZ h b c x0 x1 x2 d e f a g i) (fun m j k=>qaNZ j k m K) (retM P [.cell 6 49] K)
def qblZ (x0 x1 x2:Value)(h:Heap)(K:KTy):Prop:=nwM (some x0.cells) qaZ h fun a b=>nwM (some x2.cells) qjZ b fun c d=>nwM (zc P qaZ) qaZ d fun e f=>ov (ldV (some (some 2)) a f) fun g=>callM P qEZ #[g,x1] f fun i j=>qdOZ i a j x0 x1 x2 c e g K
theorem qlEZ {x0 x1 x2:Value}{h:Heap}(hd:qblZ x0 x1 x2 h K):callM P qaYZ #[x0,x1,x2] h K :=
 call_of good mixed (fn:=Tryz.f271) (args:=[x0,x1,x2]) Tryz.func271 rfl (by kernel_rfl) (of_decide_eq_true rfl) (B:=qblZ x0 x1 x2 h K) (by kernel_rfl) hd
end Go.Proofs.YtmbningljbcpkaaGreat
namespace Go.Proofs.YtmbningljbcpkaaGreat
open Go Go.Den
set_option maxRecDepth 100000
set_option linter.unusedVariables false
def qcqZ (x0 x1:Value)(h:Heap)(K:KTy):Prop:=nwM (some x0.cells) qiZZ h fun a b=>ov (faV (some 0) a) fun c=>ov (ldV (some none) c b) fun d=>callM P qNZ #[d,x1] b fun e f=>ov (exV e 0) fun g=>ov (exV e 1) fun i=>K (.tuple #[g,i]) f
variable {K:KTy}
theorem qocZ {x0 x1:Value}{h:Heap}(hd:qcqZ x0 x1 h K):callM P qbNZ #[x0,x1] h K :=
 call_of good mixed (fn:=Tryz.f273) (args:=[x0,x1]) Tryz.func273 rfl (by kernel_rfl) (of_decide_eq_true rfl) (B:=qcqZ x0 x1 h K) (by kernel_rfl) hd
def qeLZ (x1 a b x0:Value)(c:Heap)(K:KTy):Prop:=ov (binV BinOp.add 2 false x1 a) fun d=>ov (slV (some (none,1)) b (some d) none) fun e=>ov (slV (some (none,1)) x0 (some x1) none) fun f=>vvM P (Builtin.copy_ #[qgZ,qgZ] qsZ #[e,f]) c fun g h=>K b h
def qeMZ (a x1 x2:Value)(b:Heap)(c x0:Value)(K:KTy):Prop:=ov (slV (some (none,1)) a (some x1) none) fun d=>vvM P (Builtin.copy_ #[qgZ,qgZ] qsZ #[d,x2]) b fun e f=>qeLZ x1 c a x0 f K
def qeNZ (x0 x1 a b:Value)(c:Heap)(x2:Value)(K:KTy):Prop:=ov (slV (some (none,1)) x0 none (some x1)) fun d=>ov (binV BinOp.add 2 false a b) fun e=>ov (binV BinOp.sub 2 false e x1) fun f=>vvM P (Builtin.append_ #[qgZ,qsZ] qgZ #[d,f]) c fun g h=>qeMZ g x1 x2 h b x0 K
def qeOZ (x1 a b:Value)(c:Heap)(x2:Value)(K:KTy):Prop:=ov (binV BinOp.add 2 false x1 a) fun d=>ov (slV (some (none,1)) b (some d) none) fun e=>ov (slV (some (none,1)) b (some x1) none) fun f=>vvM P (Builtin.copy_ #[qgZ,qgZ] qsZ #[e,f]) c fun g h=>ov (slV (some (none,1)) b (some x1) none) fun i=>vvM P (Builtin.copy_ #[qgZ,qgZ] qsZ #[i,x2]) h fun j k=>K b k
def qeGZ (a b x2:Value)(c:Heap)(x1 d:Value)(K:KTy):Prop:=ov (slV (some (none,1)) a (some b) none) fun e=>vvM P (Builtin.copy_ #[qgZ,qgZ] qsZ #[e,x2]) c fun f g=>ov (slV (some (none,1)) a (some x1) none) fun h=>callM P qpdZ #[h,d] g fun i j=>K a j
def qePZ (a x1 b c:Value)(d:Heap)(x2:Value)(K:KTy)(e:Value):Prop:=ov (unV UnOp.not a) fun f=>cdM f (qeOZ x1 b c d x2 K) (qeGZ c e x2 d x1 b K)
def qeQZ (a b x0 x1 x2:Value)(c:Heap)(K:KTy):Prop:=ov (binV BinOp.add 2 false a b) fun d=>ov (slV (some (none,1)) x0 none (some d)) fun e=>ov (binV BinOp.add 2 false x1 b) fun f=>ov (slV (some (none,1)) e (some f) none) fun g=>nxM P (callFunc qiYZ #[x2,g]) c fun h i=>qePZ h x1 b e i x2 K a
def qeRZ (a b x0 x1 c d:Value)(e:Heap)(x2:Value)(K:KTy):Prop:=ov (binV BinOp.gtr 2 false a b) fun f=>cdM f (qeNZ x0 x1 c d e x2 K) (qeQZ c d x0 x1 x2 e K)
def qeSZ (a b x0:Value)(h:Heap)(x1 x2:Value)(K:KTy):Prop:=ov (binV BinOp.add 2 false a b) fun c=>vvM P (Builtin.cap_ #[qgZ] qsZ #[x0]) h fun d e=>qeRZ c d x0 x1 a b e x2 K
def qeTZ (x0 x1 x2:Value)(h:Heap)(K:KTy)(a:Value):Prop:=ov (lnV 7 x0) fun b=>ov (binV BinOp.eql 2 false x1 b) fun c=>cdM c (vvM P (Builtin.append_ #[qgZ,qgZ] qgZ #[x0,x2]) h fun d e=>K d e) (qeSZ b a x0 h x1 x2 K)
def qcrZ (x0 x1 x2:Value)(h:Heap)(K:KTy):Prop:=ov (slV (some (none,1)) x0 (some x1) none) fun a=>ov (lnV 7 x2) fun b=>ov (binV BinOp.eql 2 true b (Value.int IntKind.i64 0)) fun c=>cdM c (K x0 h) (qeTZ x0 x1 x2 h K b)
theorem qodZ {x0 x1 x2:Value}{h:Heap}(hd:qcrZ x0 x1 x2 h K):callM P qoZ #[x0,x1,x2] h K :=
 call_of good mixed (fn:=Tryz.f275) (args:=[x0,x1,x2]) Tryz.func275 rfl (by kernel_rfl) (of_decide_eq_true rfl) (B:=qcrZ x0 x1 x2 h K) (by kernel_rfl) hd
def qcKZ (x0:Value)(h:Heap)(K:KTy):Prop:=ov (binV BinOp.eql 7 true x0 (Value.slice none 0 0)) fun a=>cdM a (K (Value.slice none 0 0) h) (bsM (bsI P qgZ) 0 [] h fun b c=>vvM P (Builtin.append_ #[qgZ,qgZ] qgZ #[b,x0]) c fun d e=>K d e)
theorem qpkZ {x0:Value}{h:Heap}(hd:qcKZ x0 h K):callM P qxZ #[x0] h K :=
 call_of good mixed (fn:=Tryz.f276) (args:=[x0]) Tryz.func276 rfl (by kernel_rfl) (of_decide_eq_true rfl) (B:=qcKZ x0 h K) (by kernel_rfl) hd
def qeUZ (a b:Value)(c:Heap)(K:KTy):Prop:=ov (lnV 7 a) fun d=>ov (slV (some (none,1)) a (some d) (some b)) fun e=>vvM P (Builtin.clear_ #[qgZ] qtWZ #[e]) c fun f g=>K a g
def qeVZ (x0 x1 x2:Value)(h:Heap)(K:KTy):Prop:=ov (lnV 7 x0) fun a=>ov (slV (some (none,1)) x0 none (some x1)) fun b=>ov (slV (some (none,1)) x0 (some x2) none) fun c=>vvM P (Builtin.append_ #[qgZ,qgZ] qgZ #[b,c]) h fun d e=>qeUZ d a e K
def qcsZ (x0 x1 x2:Value)(h:Heap)(K:KTy):Prop:=ov (lnV 7 x0) fun a=>ov (sl3V (some (none,1)) x0 (some x1) x2 a) fun b=>ov (binV BinOp.eql 2 false x1 x2) fun c=>cdM c (K x0 h) (qeVZ x0 x1 x2 h K)
theorem qoeZ {x0 x1 x2:Value}{h:Heap}(hd:qcsZ x0 x1 x2 h K):callM P qbOZ #[x0,x1,x2] h K :=
 call_of good mixed (fn:=Tryz.f278) (args:=[x0,x1,x2]) Tryz.func278 rfl (by kernel_rfl) (of_decide_eq_true rfl) (B:=qcsZ x0 x1 x2 h K) (by kernel_rfl) hd
def qcQZ (a:Value)(b:Post)(m:List Nat)(c:Env)(d e f g h i j:Value)(k:Heap):Prop:=ov (binV BinOp.add 2 true a (Value.int IntKind.i64 1)) fun l=>b .normal m (puts c [(13,(c 7)),(14,(c 8)),(15,d),(16,(c 7)),(17,(c 8)),(18,e),(19,f),(20,g),(21,a),(9,a),(22,(c 0)),(23,a),(24,h),(25,i),(26,(c 1)),(27,j),(28,a),(29,l),(7,l)]) k
def qcRZ (a:Post)(m:List Nat)(b:Env)(c d e f g h i j:Value)(k:Heap):Prop:=a .normal m (puts b [(13,(b 7)),(14,(b 8)),(15,c),(16,(b 7)),(17,(b 8)),(18,d),(19,e),(20,f),(21,g),(9,g),(22,(b 0)),(23,g),(24,h),(25,i),(26,(b 1)),(27,j),(30,g),(8,g)]) k
def qcSZ (a b:Value)(c:Post)(m:List Nat)(d:Env)(e f g h i j:Value)(k:Heap):Prop:=cdM a (qcQZ b c m d e f g h i j a k) (qcRZ c m d e f g h b i j a k)
def qcTZ (a:Env)(b:Heap)(c:Post)(m:List Nat)(d:Value):Prop:=ov (binV BinOp.add 2 false (a 7) (a 8)) fun e=>ov (cvV (some .u64) e) fun f=>ov (binV BinOp.shr 2 true f (Value.int IntKind.u64 1)) fun g=>ov (cvV (some .i64) g) fun h=>ov (iaV (some (none,1)) (a 0) h) fun i=>ov (ldV (some none) i b) fun j=>callM P qjuZ #[j,(a 1)] b fun k l=>qcSZ k h c m a d e f g i j l
def qcUZ (a:Env)(b:Heap)(c:Post)(m:List Nat):Prop:=ov (binV BinOp.lss 2 false (a 7) (a 8)) fun d=>cdM d (qcTZ a b c m d) (c (.exit 0) m (puts a [(13,(a 7)),(14,(a 8)),(15,d)]) b)
def qcVZ (x0 x1 a:Value)(h:Heap)(b:Post):Prop:=loopM (fun m c d e=>qcUZ c d e m) [] (puts (envOf [x0,x1]) [(4,(Value.int IntKind.i64 0)),(5,(Value.bool false)),(10,x0),(11,a),(6,a),(12,a),(7,(Value.int IntKind.i64 0)),(8,a)]) h (blkM 0 b)
def qcWZ (a:Env)(b:Heap)(K:KTy)(m:List Nat):Prop:=ov (binV BinOp.lss 2 false (a 7) (a 6)) fun c=>gM (isB c true) (fun d=>d (a 0) b) b fun e f=>gM (isB c true) (fun g=>g (a 7) f) f fun h i=>gM (isB c true) (fun j=>ov (iaV (some (none,1)) e h) fun k=>j k i) i fun l n=>gM (isB c true) (fun o=>ov (ldV (some none) l n) fun p=>o p n) n fun q r=>gM (isB c true) (fun s=>s (a 1) r) r fun t u=>gM (isB c true) (fun v=>ov (binV BinOp.eql 3 false q t) fun w=>v w u) u fun x y=>gM (isB c true) (fun z=>z x y) y fun aa ab=>gM (isB aa false) (fun ac=>ac (a 0) ab) ab fun ad ae=>gM (isB aa false) (fun af=>af (a 7) ae) ae fun ag ah=>gM (isB aa false) (fun ai=>ov (iaV (some (none,1)) ad ag) fun aj=>ai aj ah) ah fun ak al=>gM (isB aa false) (fun am=>ov (ldV (some none) ak al) fun an=>am an al) al fun ao ap=>gM (isB aa false) (fun aq=>callM P qcYZ #[ao] ap fun ar au=>aq ar au) ap fun av aw=>gM (isB aa false) (fun ax=>ax av aw) aw fun ay az=>gM (isB ay true) (fun ba=>ba (a 1) az) az fun bb bc=>gM (isB ay true) (fun bd=>callM P qcYZ #[bb] bc fun be bf=>bd be bf) bc fun bg bh=>gM (isB aa false) (fun bi=>ov (pkV ay bg (Value.bool false)) fun bj=>bi bj bh) bh fun bk bl=>gM (isB c true) (fun bm=>ov (pkV aa (Value.bool true) bk) fun bn=>bm bn bl) bl fun bo bp=>ov (pkV c bo (Value.bool false)) fun bq=>(retM P [.tmp 4,.tmp 5] K) .ret m (puts a [(31,(a 7)),(32,(a 7)),(33,(a 6)),(34,c),(35,c),(36,e),(37,h),(38,l),(39,q),(40,t),(41,x),(42,aa),(43,ad),(44,ag),(45,ak),(46,ao),(47,av),(48,ay),(49,bb),(50,bg),(51,bk),(52,bo),(53,bq),(4,(a 7)),(5,bq)]) bp
def qaUZ (x0 x1:Value)(h:Heap)(K:KTy):Prop:=ov (lnV 7 x0) fun a=>seqM (fun b=>qcVZ x0 x1 a h b) (fun m c d=>qcWZ c d K m) (retM P [.tmp 4,.tmp 5] K)
theorem qjYZ {x0 x1:Value}{h:Heap}(hd:qaUZ x0 x1 h K):callM P qNZ #[x0,x1] h K :=
 call_of good mixed (fn:=Tryz.f281) (args:=[x0,x1]) Tryz.func281 rfl (by kernel_rfl) (of_decide_eq_true rfl) (B:=qaUZ x0 x1 h K) (by kernel_rfl) hd
def qrqZ (x0 x1:Value)(h:Heap)(K:KTy):Prop:=nwM (some x0.cells) qbZ h fun a b=>nwM (some x1.cells) qarZ b fun c d=>ov ((some (.func (Fn.func qmWZ) #[] #[a,c]):Option Value)) fun e=>K e d
theorem qvmZ {x0 x1:Value}{h:Heap}(hd:qrqZ x0 x1 h K):callM P qtiZ #[x0,x1] h K :=
 call_of good mixed (fn:=Tryz.f282) (args:=[x0,x1]) Tryz.func282 rfl (by kernel_rfl) (of_decide_eq_true rfl) (B:=qrqZ x0 x1 h K) (by kernel_rfl) hd
def qpXZ (x0 x1:Value)(h:Heap)(K:KTy):Prop:=nwM (some x0.cells) qcZ h fun a b=>nwM (some x1.cells) qcZ b fun c d=>ov (faV (some 2) a) fun e=>ov (ldV (some none) e d) fun f=>ov (faV (some 2) c) fun g=>ov (ldV (some none) g d) fun i=>ov (binV BinOp.gtr 2 false f i) fun j=>gM (isB j false) (fun k=>ov (faV (some 2) a) fun l=>k l d) d fun m n=>gM (isB j false) (fun o=>ov (ldV (some none) m n) fun p=>o p n) n fun q r=>gM (isB j false) (fun s=>ov (faV (some 2) c) fun t=>s t r) r fun u v=>gM (isB j false) (fun w=>ov (ldV (some none) u v) fun x=>w x v) v fun y z=>gM (isB j false) (fun aa=>ov (binV BinOp.eql 2 false q y) fun ab=>aa ab z) z fun ac ad=>gM (isB j false) (fun ae=>ae ac ad) ad fun af ag=>gM (isB af true) (fun ah=>ov (faV (some 0) a) fun ai=>ah ai ag) ag fun aj ak=>gM (isB af true) (fun al=>ov (ldV (some none) aj ak) fun am=>al am ak) ak fun an ao=>gM (isB af true) (fun ap=>ov (faV (some 0) c) fun aq=>ap aq ao) ao fun ar au=>gM (isB af true) (fun av=>ov (ldV (some none) ar au) fun aw=>av aw au) au fun ax ay=>gM (isB af true) (fun az=>ov (binV BinOp.lss 2 false an ax) fun ba=>az ba ay) ay fun bb bc=>gM (isB j false) (fun bd=>ov (pkV af bb (Value.bool false)) fun be=>bd be bc) bc fun bf bg=>ov (pkV j (Value.bool true) bf) fun bh=>K bh bg
theorem quUZ {x0 x1:Value}{h:Heap}(hd:qpXZ x0 x1 h K):callM P qpcZ #[x0,x1] h K :=
 call_of good mixed (fn:=Tryz.f283) (args:=[x0,x1]) Tryz.func283 rfl (by kernel_rfl) (of_decide_eq_true rfl) (B:=qpXZ x0 x1 h K) (by kernel_rfl) hd
def qbmZ (a:Post)(m:List Nat)(b:Env)(c d e f:Value)(g:Heap):Prop:=a .ret m (puts b [(9,c),(10,(b 8)),(5,(b 8)),(11,(b 1)),(12,(b 0)),(13,(b 8)),(14,d),(15,e),(16,f),(17,(b 8)),(4,(b 8))]) g
def qbnZ (a:Env)(b:Post)(m:List Nat)(c d e f:Value)(g:Heap):Prop:=ov (binV BinOp.add 2 true (a 8) (Value.int IntKind.i64 1)) fun h=>b .normal m (puts a [(9,c),(10,(a 8)),(5,(a 8)),(11,(a 1)),(12,(a 0)),(13,(a 8)),(14,d),(15,e),(16,f),(18,h),(8,h)]) g
def qboZ (a:Value)(b:Post)(m:List Nat)(c:Env)(d e f:Value)(g:Heap):Prop:=cdM a (qbmZ b m c d e f a g) (qbnZ c b m d e f a g)
def qbpZ (a:Env)(b:Heap)(c:Post)(m:List Nat)(e:Value):Prop:=ov (iaV (some (none,4)) (a 0) (a 8)) fun f=>ov (ldV (some (some 4)) f b) fun g=>nxM P (do let d ← Deferred.ofValue (a 1) #[g] ; invoke d.target d.args) b fun h i=>qboZ h c m a e f g i
def qbqZ (a:Env)(b:Heap)(c:Post)(m:List Nat):Prop:=ov (binV BinOp.lss 2 false (a 8) (a 7)) fun d=>cdM d (qbpZ a b c m d) (c (.exit 0) m (puts a [(9,d)]) b)
def qbrZ (x0 x1:Value)(h:Heap)(a:Post):Prop:=ov (lnV 7 x0) fun b=>loopM (fun m c d e=>qbqZ c d e m) [] (puts (envOf [x0,x1]) [(4,(Value.int IntKind.i64 0)),(6,x0),(7,b),(8,(Value.int IntKind.i64 0))]) h (blkM 0 a)
def qZZ (x0 x1:Value)(h:Heap)(K:KTy):Prop:=seqM (fun a=>qbrZ x0 x1 h a) (fun m b c=>(retM P [.tmp 4] K) .ret m (puts b [(4,(Value.int IntKind.i64 (-1)))]) c) (retM P [.tmp 4] K)
theorem qghZ {x0 x1:Value}{h:Heap}(hd:qZZ x0 x1 h K):callM P qVZ #[x0,x1] h K :=
 call_of good mixed (fn:=Tryz.f284) (args:=[x0,x1]) Tryz.func284 rfl (by kernel_rfl) (of_decide_eq_true rfl) (B:=qZZ x0 x1 h K) (by kernel_rfl) hd
def qaaZ (a:Value)(b:Post)(m:List Nat)(c:Env)(d e f g h i j k:Value)(l:Heap):Prop:=ov (binV BinOp.add 2 true a (Value.int IntKind.i64 1)) fun n=>b .normal m (puts c [(15,(c 9)),(16,(c 10)),(17,d),(18,(c 9)),(19,(c 10)),(20,e),(21,f),(22,g),(23,a),(11,a),(24,(c 2)),(25,(c 0)),(26,a),(27,h),(28,i),(29,(c 1)),(30,j),(31,k),(32,a),(33,n),(9,n)]) l
def qabZ (a:Post)(m:List Nat)(b:Env)(c d e f g h i j k:Value)(l:Heap):Prop:=a .normal m (puts b [(15,(b 9)),(16,(b 10)),(17,c),(18,(b 9)),(19,(b 10)),(20,d),(21,e),(22,f),(23,g),(11,g),(24,(b 2)),(25,(b 0)),(26,g),(27,h),(28,i),(29,(b 1)),(30,j),(31,k),(34,g),(10,g)]) l
def qacZ (a b:Value)(c:Post)(m:List Nat)(d:Env)(e f g h i j:Value)(k:Heap):Prop:=ov (binV BinOp.lss 2 true a (Value.int IntKind.i64 0)) fun l=>cdM l (qaaZ b c m d e f g h i j a l k) (qabZ c m d e f g h b i j a l k)
def qadZ (a:Env)(b:Heap)(c:Post)(m:List Nat)(e:Value):Prop:=ov (binV BinOp.add 2 false (a 9) (a 10)) fun f=>ov (cvV (some .u64) f) fun g=>ov (binV BinOp.shr 2 true g (Value.int IntKind.u64 1)) fun h=>ov (cvV (some .i64) h) fun i=>ov (iaV (some (none,4)) (a 0) i) fun j=>ov (ldV (some (some 4)) j b) fun k=>nxM P (do let d ← Deferred.ofValue (a 2) #[k,(a 1)] ; invoke d.target d.args) b fun l n=>qacZ l i c m a e f g h j k n
def qaeZ (a:Env)(b:Heap)(c:Post)(m:List Nat):Prop:=ov (binV BinOp.lss 2 false (a 9) (a 10)) fun d=>cdM d (qadZ a b c m d) (c (.exit 0) m (puts a [(15,(a 9)),(16,(a 10)),(17,d)]) b)
def qafZ (x0 x1 x2 a:Value)(h:Heap)(b:Post):Prop:=loopM (fun m c d e=>qaeZ c d e m) [] (puts (envOf [x0,x1,x2]) [(6,(Value.int IntKind.i64 0)),(7,(Value.bool false)),(12,x0),(13,a),(8,a),(14,a),(9,(Value.int IntKind.i64 0)),(10,a)]) h (blkM 0 b)
def qagZ (a:Env)(b:Heap)(K:KTy)(m:List Nat):Prop:=ov (binV BinOp.lss 2 false (a 9) (a 8)) fun c=>gM (isB c true) (fun e=>e (a 2) b) b fun f g=>gM (isB c true) (fun h=>h (a 0) g) g fun i j=>gM (isB c true) (fun k=>k (a 9) j) j fun l n=>gM (isB c true) (fun o=>ov (iaV (some (none,4)) i l) fun p=>o p n) n fun q r=>gM (isB c true) (fun s=>ov (ldV (some (some 4)) q r) fun t=>s t r) r fun u v=>gM (isB c true) (fun w=>w (a 1) v) v fun x y=>gM (isB c true) (fun z=>nxM P (do let d ← Deferred.ofValue f #[u,x] ; invoke d.target d.args) y fun aa ab=>z aa ab) y fun ac ad=>gM (isB c true) (fun ae=>ov (binV BinOp.eql 2 true ac (Value.int IntKind.i64 0)) fun af=>ae af ad) ad fun ag ah=>ov (pkV c ag (Value.bool false)) fun ai=>(retM P [.tmp 6,.tmp 7] K) .ret m (puts a [(35,(a 9)),(36,(a 9)),(37,(a 8)),(38,c),(39,c),(40,f),(41,i),(42,l),(43,q),(44,u),(45,x),(46,ac),(47,ag),(48,ai),(6,(a 9)),(7,ai)]) ah
def qCZ (x0 x1 x2:Value)(h:Heap)(K:KTy):Prop:=ov (lnV 7 x0) fun a=>seqM (fun b=>qafZ x0 x1 x2 a h b) (fun m c d=>qagZ c d K m) (retM P [.tmp 6,.tmp 7] K)
theorem qdBZ {x0 x1 x2:Value}{h:Heap}(hd:qCZ x0 x1 x2 h K):callM P qahZ #[x0,x1,x2] h K :=
 call_of good mixed (fn:=Tryz.f285) (args:=[x0,x1,x2]) Tryz.func285 rfl (by kernel_rfl) (of_decide_eq_true rfl) (B:=qCZ x0 x1 x2 h K) (by kernel_rfl) hd
def qplZ (x0 x1:Value)(h:Heap)(K:KTy):Prop:=nwM (some x0.cells) qcZ h fun a b=>ov (faV (some 0) a) fun c=>ov (ldV (some none) c b) fun d=>callM P qjtZ #[d,x1] b fun e f=>K e f
theorem quMZ {x0 x1:Value}{h:Heap}(hd:qplZ x0 x1 h K):callM P qffZ #[x0,x1] h K :=
 call_of good mixed (fn:=Tryz.f286) (args:=[x0,x1]) Tryz.func286 rfl (by kernel_rfl) (of_decide_eq_true rfl) (B:=qplZ x0 x1 h K) (by kernel_rfl) hd
def qoUZ (x0 x1:Value)(K:KTy)(a:Heap):Prop:=ov (binV BinOp.lss 2 false x0 x1) fun b=>cdM b (K (Value.int IntKind.i64 (-1)) a) (ov (binV BinOp.gtr 2 false x0 x1) fun c=>cdM c (K (Value.int IntKind.i64 1) a) (K (Value.int IntKind.i64 0) a))
def qoVZ (a:Value)(K:KTy)(b:Heap)(x0 x1:Value):Prop:=cdM a (K (Value.int IntKind.i64 1) b) (qoUZ x0 x1 K b)
def qoWZ (a b:Value)(K:KTy)(c:Heap)(x0 x1:Value):Prop:=cdM a (cdM b (K (Value.int IntKind.i64 0) c) (K (Value.int IntKind.i64 (-1)) c)) (qoVZ b K c x0 x1)
def qoXZ (x1:Value)(a:Heap)(b:Value)(K:KTy)(x0:Value):Prop:=callM P qhHZ #[x1] a fun c d=>qoWZ b c K d x0 x1
def qkHZ (x0 x1:Value)(h:Heap)(K:KTy):Prop:=callM P qhHZ #[x0] h fun a b=>qoXZ x1 b a K x0
theorem qukZ {x0 x1:Value}{h:Heap}(hd:qkHZ x0 x1 h K):callM P qjtZ #[x0,x1] h K :=
 call_of good mixed (fn:=Tryz.f287) (args:=[x0,x1]) Tryz.func287 rfl (by kernel_rfl) (of_decide_eq_true rfl) (B:=qkHZ x0 x1 h K) (by kernel_rfl) hd
def qccZ (a b:Value)(c:Heap)(K:KTy):Prop:=ov (lnV 7 a) fun d=>ov (slV (some (none,4)) a (some d) (some b)) fun e=>vvM P (Builtin.clear_ #[qeZ] qtWZ #[e]) c fun f g=>K a g
def qcdZ (x0 x1 x2:Value)(h:Heap)(K:KTy):Prop:=ov (lnV 7 x0) fun a=>ov (slV (some (none,4)) x0 none (some x1)) fun b=>ov (slV (some (none,4)) x0 (some x2) none) fun c=>vvM P (Builtin.append_ #[qeZ,qeZ] qeZ #[b,c]) h fun d e=>qccZ d a e K
def qaCZ (x0 x1 x2:Value)(h:Heap)(K:KTy):Prop:=ov (lnV 7 x0) fun a=>ov (sl3V (some (none,4)) x0 (some x1) x2 a) fun b=>ov (binV BinOp.eql 2 false x1 x2) fun c=>cdM c (K x0 h) (qcdZ x0 x1 x2 h K)
theorem qjiZ {x0 x1 x2:Value}{h:Heap}(hd:qaCZ x0 x1 x2 h K):callM P qauZ #[x0,x1,x2] h K :=
 call_of good mixed (fn:=Tryz.f290) (args:=[x0,x1,x2]) Tryz.func290 rfl (by kernel_rfl) (of_decide_eq_true rfl) (B:=qaCZ x0 x1 x2 h K) (by kernel_rfl) hd
def qcCZ (h:Heap)(x0:Value)(K:KTy):Prop:=bsM (bsI P qeZ) 0 [] h fun a b=>vvM P (Builtin.append_ #[qeZ,qeZ] qeZ #[a,x0]) b fun c d=>K c d
def qaOZ (x0:Value)(h:Heap)(K:KTy):Prop:=ov (binV BinOp.eql 7 true x0 (Value.slice none 0 0)) fun a=>cdM a (K (Value.slice none 0 0) h) (qcCZ h x0 K)
theorem qjUZ {x0:Value}{h:Heap}(hd:qaOZ x0 h K):callM P qdZ #[x0] h K :=
 call_of good mixed (fn:=Tryz.f291) (args:=[x0]) Tryz.func291 rfl (by kernel_rfl) (of_decide_eq_true rfl) (B:=qaOZ x0 h K) (by kernel_rfl) hd
def qceZ (x1 a b x0:Value)(c:Heap)(K:KTy):Prop:=ov (binV BinOp.add 2 false x1 a) fun d=>ov (slV (some (none,4)) b (some d) none) fun e=>ov (slV (some (none,4)) x0 (some x1) none) fun f=>vvM P (Builtin.copy_ #[qeZ,qeZ] qsZ #[e,f]) c fun g h=>K b h
def qcfZ (a x1 x2:Value)(b:Heap)(c x0:Value)(K:KTy):Prop:=ov (slV (some (none,4)) a (some x1) none) fun d=>vvM P (Builtin.copy_ #[qeZ,qeZ] qsZ #[d,x2]) b fun e f=>qceZ x1 c a x0 f K
def qcgZ (x0 x1 a b:Value)(c:Heap)(x2:Value)(K:KTy):Prop:=ov (slV (some (none,4)) x0 none (some x1)) fun d=>ov (binV BinOp.add 2 false a b) fun e=>ov (binV BinOp.sub 2 false e x1) fun f=>vvM P (Builtin.append_ #[qeZ,qsZ] qeZ #[d,f]) c fun g h=>qcfZ g x1 x2 h b x0 K
def qbYZ (a x1 x2:Value)(b:Heap)(K:KTy):Prop:=ov (slV (some (none,4)) a (some x1) none) fun c=>vvM P (Builtin.copy_ #[qeZ,qeZ] qsZ #[c,x2]) b fun d e=>K a e
def qchZ (x1 a b:Value)(c:Heap)(x2:Value)(K:KTy):Prop:=ov (binV BinOp.add 2 false x1 a) fun d=>ov (slV (some (none,4)) b (some d) none) fun e=>ov (slV (some (none,4)) b (some x1) none) fun f=>vvM P (Builtin.copy_ #[qeZ,qeZ] qsZ #[e,f]) c fun g h=>qbYZ b x1 x2 h K
def qhWZ (a b x2:Value)(c:Heap)(x1 d:Value)(K:KTy):Prop:=ov (slV (some (none,4)) a (some b) none) fun e=>vvM P (Builtin.copy_ #[qeZ,qeZ] qsZ #[e,x2]) c fun f g=>ov (slV (some (none,4)) a (some x1) none) fun h=>callM P qlLZ #[h,d] g fun i j=>K a j
def qciZ (a x1 b c:Value)(d:Heap)(x2:Value)(K:KTy)(e:Value):Prop:=ov (unV UnOp.not a) fun f=>cdM f (qchZ x1 b c d x2 K) (qhWZ c e x2 d x1 b K)
def qcjZ (a b x0 x1 x2:Value)(c:Heap)(K:KTy):Prop:=ov (binV BinOp.add 2 false a b) fun d=>ov (slV (some (none,4)) x0 none (some d)) fun e=>ov (binV BinOp.add 2 false x1 b) fun f=>ov (slV (some (none,4)) e (some f) none) fun g=>nxM P (callFunc qfzZ #[x2,g]) c fun h i=>qciZ h x1 b e i x2 K a
def qckZ (a b x0 x1 c d:Value)(e:Heap)(x2:Value)(K:KTy):Prop:=ov (binV BinOp.gtr 2 false a b) fun f=>cdM f (qcgZ x0 x1 c d e x2 K) (qcjZ c d x0 x1 x2 e K)
def qclZ (a b x0:Value)(h:Heap)(x1 x2:Value)(K:KTy):Prop:=ov (binV BinOp.add 2 false a b) fun c=>vvM P (Builtin.cap_ #[qeZ] qsZ #[x0]) h fun d e=>qckZ c d x0 x1 a b e x2 K
def qcmZ (x0 x1 x2:Value)(h:Heap)(K:KTy)(a:Value):Prop:=ov (lnV 7 x0) fun b=>ov (binV BinOp.eql 2 false x1 b) fun c=>cdM c (vvM P (Builtin.append_ #[qeZ,qeZ] qeZ #[x0,x2]) h fun d e=>K d e) (qclZ b a x0 h x1 x2 K)
def qaDZ (x0 x1 x2:Value)(h:Heap)(K:KTy):Prop:=ov (slV (some (none,4)) x0 (some x1) none) fun a=>ov (lnV 7 x2) fun b=>ov (binV BinOp.eql 2 true b (Value.int IntKind.i64 0)) fun c=>cdM c (K x0 h) (qcmZ x0 x1 x2 h K b)
theorem qjjZ {x0 x1 x2:Value}{h:Heap}(hd:qaDZ x0 x1 x2 h K):callM P qiZ #[x0,x1,x2] h K :=
 call_of good mixed (fn:=Tryz.f292) (args:=[x0,x1,x2]) Tryz.func292 rfl (by kernel_rfl) (of_decide_eq_true rfl) (B:=qaDZ x0 x1 x2 h K) (by kernel_rfl) hd
def qoYZ (a x1:Value)(b:Heap)(x0:Value)(K:KTy):Prop:=gM (isB a true) (fun c=>c x1 b) b fun d e=>gM (isB a true) (fun f=>callM P qeKZ #[d] e fun g h=>f g h) e fun i j=>gM (isB a true) (fun k=>ov (unV UnOp.not i) fun l=>k l j) j fun m n=>ov (pkV a m (Value.bool false)) fun o=>gM (isB o false) (fun p=>p x0 n) n fun q r=>gM (isB o false) (fun s=>s x1 r) r fun t u=>gM (isB o false) (fun v=>ov (binV BinOp.lss 3 false q t) fun w=>v w u) u fun x y=>ov (pkV o (Value.bool true) x) fun z=>K z y
def qkIZ (x0 x1:Value)(h:Heap)(K:KTy):Prop:=callM P qeKZ #[x0] h fun a b=>qoYZ a x1 b x0 K
theorem qulZ {x0 x1:Value}{h:Heap}(hd:qkIZ x0 x1 h K):callM P qjuZ #[x0,x1] h K :=
 call_of good mixed (fn:=Tryz.f298) (args:=[x0,x1]) Tryz.func298 rfl (by kernel_rfl) (of_decide_eq_true rfl) (B:=qkIZ x0 x1 h K) (by kernel_rfl) hd
def qgiZ (x0:Value)(h:Heap)(K:KTy):Prop:=ov (binV BinOp.neq 3 false x0 x0) fun a=>K a h
theorem qscZ {x0:Value}{h:Heap}(hd:qgiZ x0 h K):callM P qcYZ #[x0] h K :=
 call_of good mixed (fn:=Tryz.f299) (args:=[x0]) Tryz.func299 rfl (by kernel_rfl) (of_decide_eq_true rfl) (B:=qgiZ x0 h K) (by kernel_rfl) hd
def qqDZ (a:Post)(m:List Nat)(b:Env)(c d e f g h i j k l n o p q:Value)(r:Heap):Prop:=a .ret m (puts b [(9,c),(10,d),(11,e),(5,f),(12,g),(13,h),(14,i),(15,j),(16,k),(17,k),(18,l),(19,n),(20,o),(21,p),(22,q)]) r
def qlUZ (a:Env)(b:Post)(m:List Nat)(c d e f g h i j k l n o p q:Value)(r:Heap):Prop:=ov (binV BinOp.add 2 true (a 8) (Value.int IntKind.i64 1)) fun s=>b .normal m (puts a [(9,c),(10,d),(11,e),(5,f),(12,g),(13,h),(14,i),(15,j),(16,k),(17,k),(18,l),(19,n),(20,o),(21,p),(22,q),(23,s),(8,s)]) r
def qqEZ (a:Value)(b:Env)(c:Heap)(e:Value)(f:Post)(m:List Nat)(g h i j k l:Value):Prop:=ov (unV UnOp.not a) fun n=>gM (isB n true) (fun o=>o (b 0) c) c fun p q=>gM (isB n true) (fun r=>ov (ldV (some (some 4)) e q) fun s=>r s q) q fun t u=>gM (isB n true) (fun v=>nxM P (do let d ← Deferred.ofValue p #[t] ; invoke d.target d.args) u fun w x=>v w x) u fun y z=>gM (isB n true) (fun aa=>ov (unV UnOp.not y) fun ab=>aa ab z) z fun ac ad=>ov (pkV n ac (Value.bool false)) fun ae=>cdM ae (qqDZ f m b g h i e j k l a n p t y ac ae ad) (qlUZ b f m g h i e j k l a n p t y ac ae ad)
def qqFZ (a:Env)(b:Heap)(c:Post)(m:List Nat)(d:Value):Prop:=ov (iaV (some (none,4)) (a 6) (a 8)) fun e=>ov (ldV (some (some 4)) e b) fun f=>nwM (zc P qcZ) qcZ b fun g h=>stM (some 4) g f h fun i=>ov (ldV (some none) (a 2) i) fun j=>ov (faV (some 3) g) fun k=>ov (ldV (some none) k i) fun l=>callM P qmVZ #[j,l] i fun n o=>qqEZ n a o g c m d e f j k l
def qqGZ (a:Env)(b:Heap)(c:Post)(m:List Nat):Prop:=ov (binV BinOp.lss 2 false (a 8) (a 7)) fun d=>cdM d (qqFZ a b c m d) (c (.exit 0) m (puts a [(9,d)]) b)
def qpmZ (x0 x1 x2:Value)(h:Heap)(K:KTy):Prop:=ov (ldV (some none) x1 h) fun a=>ov (lnV 7 a) fun b=>loopM (fun m c d e=>qqGZ c d e m) [] (puts (envOf [x0,x1,x2]) [(6,a),(7,b),(8,(Value.int IntKind.i64 0))]) h (blkM 0 (retM P [] K))
theorem quNZ {x0 x1 x2:Value}{h:Heap}(hd:qpmZ x0 x1 x2 h K):callM P qmWZ #[x0,x1,x2] h K :=
 call_of good mixed (fn:=Tryz.f300) (args:=[x0,x1,x2]) Tryz.func300 rfl (by kernel_rfl) (of_decide_eq_true rfl) (B:=qpmZ x0 x1 x2 h K) (by kernel_rfl) hd
def qobZ (x0:Value)(h:Heap)(K:KTy):Prop:=ov (binV BinOp.neq 2 false x0 x0) fun a=>K a h
theorem quHZ {x0:Value}{h:Heap}(hd:qobZ x0 h K):callM P qhHZ #[x0] h K :=
 call_of good mixed (fn:=Tryz.f301) (args:=[x0]) Tryz.func301 rfl (by kernel_rfl) (of_decide_eq_true rfl) (B:=qobZ x0 h K) (by kernel_rfl) hd
def qjVZ (x0:Value)(h:Heap)(K:KTy):Prop:=ov (binV BinOp.neq 3 false x0 x0) fun a=>K a h
theorem qtVZ {x0:Value}{h:Heap}(hd:qjVZ x0 h K):callM P qeKZ #[x0] h K :=
 call_of good mixed (fn:=Tryz.f307) (args:=[x0]) Tryz.func307 rfl (by kernel_rfl) (of_decide_eq_true rfl) (B:=qjVZ x0 h K) (by kernel_rfl) hd
end Go.Proofs.YtmbningljbcpkaaGreat
namespace Go.Proofs.YtmbningljbcpkaaGreat
open Go Go.Den Go.MapKept
set_option linter.unusedSimpArgs false
set_option linter.unusedVariables false
set_option maxRecDepth 20000
def ringC (r:Ring)(lv:Value):List Value:=[.int .i64 r.room,lv,.bool r.lost]
def RingR (T:Tags)(h:Heap)(g:Tag)(p:Nat)(r:Ring):Prop :=
 ∃ lv,h p=some (.cells (ringC r lv).toArray qQZ (0,0))∧T p=g++[0]∧Rw T h (g++[1]) 8 qtZ lv r.l.length (r.l.flatMap evC)
theorem RingR.kp {U:Tag→Prop}{T T':Tags}{h h':Heap}{g:Tag}{p:Nat}{r:Ring}(x:RingR T h g p r)(k:Kp U T h T' h')(o:Off U g):RingR T' h' g p r:=by
 obtain⟨lv,h1,h2,h3⟩:=x
 obtain⟨h4,h5⟩:=k.at h1 h2 (o.at _)
 exact⟨lv,h4,h5,h3.kp k (o.at _)⟩
def feedG (kv vv:Value)(q:Nat→Value):Nat→Value
 | 0=>kv
 | 1=>vv
 | k+2=>q k
def feedC (kv vv:Value)(q:Nat→Value):List Value:=(List.range 10).map (feedG kv vv q)
abbrev ptr (b:Nat):Value:=.pointer (some ⟨b,0,none⟩)
def FeedR (T:Tags)(h:Heap)(g:Tag)(p:Nat)(f:Feed):Prop :=
 ∃ (kv vv:Value) (q:Nat→Nat),h p=some (.cells (feedC kv vv fun j=>ptr (q j)).toArray qexZ (0,0))∧T p=g++[0]∧Sl 1 StrR (fz T h) kv (f.ws.map (·.1))∧Sl 1 MaskR (fz T h) vv (f.ws.map (·.2)) ∧
  (∀ j,j<8→RingR T h (g++[1,j]) (q j) (f.qs j))∧Sn kv∧Sn vv
theorem FeedR.kp {U:Tag→Prop}{T T':Tags}{h h':Heap}{g:Tag}{p:Nat}{f:Feed}(x:FeedR T h g p f)(k:Kp U T h T' h')(o:Off U g)(n:¬ U []):FeedR T' h' g p f:=by
 obtain⟨kv,vv,q,h1,h2,h3,h4,h5,h5s⟩:=x
 obtain⟨h6,h7⟩:=k.at h1 h2 (o.at _)
 exact⟨kv,vv,q,h6,h7,h3.ext (@StrR.ext) (k.ext n),h4.ext (@MaskR.ext) (k.ext n),fun j hj=>(h5 j hj).kp k (o.app _),h5s⟩
structure SV where
 sk:Value
 sv:Value
 bk:Value
 bv:Value
 fp:Nat
def strC (x:Strp)(y:SV):List Value:=[.int .i64 x.who,.int .u64 x.v,.int .u64 x.bound,y.sk,y.sv,y.bk,y.bv,ptr y.fp]
def StrpR (T:Tags)(h:Heap)(g:Tag)(x:Strp)(y:SV):Prop:=BookR (fz T h) y.sk y.sv x.snap∧BookR (fz T h) y.bk y.bv x.book∧FeedR T h g y.fp x.feed
theorem StrpR.kp {U:Tag→Prop}{T T':Tags}{h h':Heap}{g:Tag}{x:Strp}{y:SV}(r:StrpR T h g x y)(k:Kp U T h T' h')(o:Off U g)(n:¬ U []):StrpR T' h' g x y :=
 ⟨r.1.ext (k.ext n),r.2.1.ext (k.ext n),r.2.2.kp k o n⟩
def hallC (H:Hall)(sv av:Value):List Value:=[.int .i64 H.c.stripes,.int .i64 H.c.sessions,.int .i64 H.c.queue,.int .i64 H.c.watches,.int .i64 H.c.retries,.int .u64 H.c.epochs,.int .u64 H.c.start,
 .int .u64 H.t.now,.int .u64 H.t.seq,.bool H.t.closed,sv,av]
structure HallX (T:Tags)(h:Heap)(g:Tag)(p:Nat)(H:Hall)(sv av:Value)(Y:Nat→SV):Prop where
 hp:h p=some (.cells (hallC H sv av).toArray qaKZ (0,0))
 tp:T p=g++[0]
 st:Rw T h (g++[1]) 8 qKZ sv H.n (seqF H.n fun i=>strC (H.ss i) (Y i))
 ac:Rw T h (g++[2]) 3 qbuZ av H.acts.length (H.acts.flatMap actC)
 sr:∀ i,i<H.n→StrpR T h (g++[3,i]) (H.ss i) (Y i)
def HallR (T:Tags)(h:Heap)(g:Tag)(p:Nat)(H:Hall):Prop:=∃ sv av Y,HallX T h g p H sv av Y
theorem HallR.kp {U:Tag→Prop}{T T':Tags}{h h':Heap}{g:Tag}{p:Nat}{H:Hall}(x:HallR T h g p H)(k:Kp U T h T' h')(o:Off U g)(n:¬ U []):HallR T' h' g p H:=by
 obtain⟨sv,av,Y,x⟩:=x
 obtain⟨h1,h2⟩:=k.at x.hp x.tp (o.at _)
 exact⟨sv,av,Y,h1,h2,x.st.kp k (o.at _),x.ac.kp k (o.at _),fun i hi=>(x.sr i hi).kp k (o.app _) n⟩
theorem bsAct:bsI P qHZ=some (qbuZ,3,#[.int .i64 0,.int .i64 0,.int .i64 0]):=by kernel_rfl
theorem unSlAct:P.underlying qHZ=some (.slice qbuZ):=by kernel_rfl
theorem apAct:apC P qbuZ=some (3,24,3):=by kernel_rfl
theorem bdAct (a b c:Int):bdV (binf P qbuZ) [(0,.int .i64 a),(1,.int .i64 b),(2,.int .i64 c)]=some (.agg #[.int .i64 a,.int .i64 b,.int .i64 c]):=by kernel_rfl
theorem zcTime:zc P qzZ=some #[.int .u64 0,.int .u64 0,.bool false]:=by kernel_rfl
theorem zcCfg:zc P qaoZ=some #[.int .i64 0,.int .i64 0,.int .i64 0,.int .i64 0,.int .i64 0,.int .u64 0,.int .u64 0]:=by kernel_rfl
theorem bdTime (a:Int):bdV (binf P qzZ) [(0,.int .u64 a)]=some (.agg #[.int .u64 a,.int .u64 0,.bool false]):=by kernel_rfl
theorem bdHall (a b c d e f g t s:Int)(k:Bool):bdV (binf P qaKZ) [(0,.agg #[.int .i64 a,.int .i64 b,.int .i64 c,.int .i64 d,.int .i64 e,.int .u64 f,.int .u64 g]),(1,.agg #[.int .u64 t,.int .u64 s,.bool k])] =
 some (.agg #[.int .i64 a,.int .i64 b,.int .i64 c,.int .i64 d,.int .i64 e,.int .u64 f,.int .u64 g,.int .u64 t,.int .u64 s,.bool k,.slice none 0 0,.slice none 0 0]):=by kernel_rfl
theorem bdStripe (v b:Int)(fp:Option Addr):bdV (binf P qKZ) [(1,.agg #[.int .u64 v,.int .u64 b]),(4,.pointer fp)] =
 some (.agg #[.int .i64 0,.int .u64 v,.int .u64 b,.slice none 0 0,.slice none 0 0,.slice none 0 0,.slice none 0 0,.pointer fp]):=by kernel_rfl
theorem bsStripe:bsI P qbZZ=some (qKZ,8,#[.int .i64 0,.int .u64 0,.int .u64 0,.slice none 0 0,.slice none 0 0,.slice none 0 0,.slice none 0 0,.pointer none]):=by kernel_rfl
theorem unSlStripe:P.underlying qbZZ=some (.slice qKZ):=by kernel_rfl
theorem apStripe:apC P qKZ=some (8,128,8):=by kernel_rfl
theorem bdFeed:bdV (binf P qexZ) []=some (.agg #[.slice none 0 0,.slice none 0 0,.pointer none,.pointer none,.pointer none,.pointer none,.pointer none,.pointer none,.pointer none,.pointer none]):=by kernel_rfl
theorem bdRing (n:Int):bdV (binf P qQZ) [(0,.int .i64 n)]=some (.agg #[.int .i64 n,.slice none 0 0,.bool false]):=by kernel_rfl
theorem bdCell (n:Int):bdV (binf P qPZ) [(1,.int .u64 n)]=some (.agg #[.int .u64 0,.int .u64 n]):=by kernel_rfl
theorem zcCell:zc P qPZ=some #[.int .u64 0,.int .u64 0]:=by kernel_rfl
theorem zcLatch:zc P qnZ=some #[.int .i64 0]:=by kernel_rfl
theorem bdLatch (n:Int):bdV (binf P qnZ) [(0,.int .i64 n)]=some (.agg #[.int .i64 n]):=by kernel_rfl
theorem bdLatch0:bdV (binf P qnZ) []=some (.agg #[.int .i64 0]):=by kernel_rfl
variable {K:KTy}
theorem within_ok (n lo hi:Int){h:Heap}(hk:K (.bool (decide (lo≤n∧n≤hi))) h):callM P qayZ #[.int .i64 n,.int .i64 lo,.int .i64 hi] h K:=by
 apply quLZ
 unfold qpgZ
 by_cases h1:lo≤n<;>simpa [h1] using hk
theorem place_ok (s w:Int){h:Heap}(hs:0≤s∧s<1000∧0≤w∧w<10)(hk:K (.int .i64 (4*s+w)) h):callM P qbsZ #[.int .i64 s,.int .i64 w] h K:=by
 apply quWZ
 unfold qqqZ
 simp only[bin_mul,bin_add,ov_s,wrap64_id (n:=4*s) (by omega) (by omega),wrap64_id (n:=4*s+w) (by omega) (by omega)]
 exact hk
end Go.Proofs.YtmbningljbcpkaaGreat
namespace Go.Proofs.YtmbningljbcpkaaGreat
open Go Go.Den Go.MapKept
set_option linter.unusedSimpArgs false
set_option linter.unusedVariables false
set_option maxRecDepth 20000
variable {K:KTy}
theorem hashRight_ok (s:ByteArray){h:Heap}(hk:K (.bool (nameB s)) h):callM P qfcZ #[.string s] h K:=by
 apply quZZ
 unfold qqyZ
 have:nameB s=(!decide (s=⟨#[]⟩) && decide ((s.size:Int)≤16)):=by
  unfold nameB; by_cases h0:s.size=0
  ·rw[(str_empty s).2 h0]; rfl
  ·have:¬ s=⟨#[]⟩:=fun e=>h0 ((str_empty s).1 e)
   rw[Bool.eq_iff_iff]; simp[this]; omega
 rw[this] at hk
 simp +contextual -implicitDefEqProofs[-Bool.decide_eq_true]
 exact hk
theorem refName_ok (s:ByteArray){h:Heap}(hk:K (.bool (nameB s)) h):callM P qaQZ #[.string s] h K:=by
 apply qteZ
 unfold qiTZ
 have:nameB s=(decide ((0:Int)<s.size) && decide ((s.size:Int)<17)):=by
  unfold nameB; rw[← Bool.decide_and]; congr 1; simp; omega
 rw[this] at hk
 simp +contextual -implicitDefEqProofs
 simpa using hk
theorem sessRight_ok (a b c:Int){h:Heap}(hk:K (.bool (decide (0≤a∧a≤255∧1≤b∧b≤9∧0≤c∧c≤9))) h):callM P qpMZ #[.int .i64 a,.int .i64 b,.int .i64 c] h K:=by
 apply qvaZ
 unfold qqzZ
 simp +contextual -implicitDefEqProofs
 simpa [Bool.decide_and,and_assoc,Bool.and_assoc] using hk
theorem modRight_ok (c:Cfg){h:Heap}(hk:∀ h',Ext h h'→K (.bool (rightB c)) h'):callM P qoZZ #[.agg (cfgC c).toArray] h K:=by
 apply quOZ
 unfold qpPZ
 refine nw_agg fun v1 h2 n2 e2 c2=>?_
 simp only[cfgC] at c2
 simp only[faV_p,ov_s,ldV_c,cel_of c2,Nat.zero_add,List.getElem?_toArray,List.getElem?_cons_zero]
 refine within_ok _ _ _ ?_
 unfold qqLZ
 simp +contextual -implicitDefEqProofs[cel_of c2]
 refine gM_call0 (a:=.bool (decide (1≤c.sessions∧c.sessions≤8))) (fun hc K' hk'=>within_ok _ _ _ hk') ?_
 simp +contextual -implicitDefEqProofs[cel_of c2]
 refine gM_call0 (a:=.bool (decide (1≤c.queue∧c.queue≤16))) (fun hc K' hk'=>within_ok _ _ _ hk') ?_
 simp +contextual -implicitDefEqProofs[cel_of c2]
 refine gM_call0 (a:=.bool (decide (1≤c.watches∧c.watches≤8))) (fun hc K' hk'=>within_ok _ _ _ hk') ?_
 simp +contextual -implicitDefEqProofs[cel_of c2]
 refine gM_call0 (a:=.bool (decide (0≤c.retries∧c.retries≤4))) (fun hc K' hk'=>within_ok _ _ _ hk') ?_
 simp +contextual -implicitDefEqProofs[cel_of c2]
 refine kb (hk h2 e2) ?_
 rw[Bool.eq_iff_iff]; simp[rightB]; omega
theorem refRight_ok (c:Cfg){h:Heap}(hk:∀ h',Ext h h'→K (.bool (rightB c)) h'):callM P qfGZ #[.agg (cfgC c).toArray] h K:=by
 apply qsgZ
 unfold qhJZ
 refine nw_agg fun v1 h2 n2 e2 c2=>?_
 simp only[cfgC] at c2
 simp +contextual -implicitDefEqProofs[cel_of c2]
 have:=hk h2 e2
 refine kb this ?_
 rw[Bool.eq_iff_iff]; simp[rightB]; omega
end Go.Proofs.YtmbningljbcpkaaGreat
namespace Go.Den
open Go
set_option linter.unusedVariables false
def fnvX (h b:Int):Int:=IntKind.u64.wrap (BitVec.ofInt 64 h ^^^ BitVec.ofInt 64 b).toNat
def fnvStep (h b:Int):Int:=IntKind.u64.wrap (fnvX h b*1099511628211)
def byteAt (s:ByteArray)(i:Nat):Int:=match s[i]? with
 | some b=>b.toNat
 | none=>0
def fnvTo (s:ByteArray):Nat→Int
 | 0=>14695981039346656037
 | i+1=>fnvStep (fnvTo s i) (byteAt s i)
def fnv (s:ByteArray):Int:=fnvTo s s.size
theorem wrapU_rng (n:Int):0≤IntKind.u64.wrap n∧IntKind.u64.wrap n≤18446744073709551615:=by
 simp only[IntKind.wrap,IntKind.bits,IntKind.signed]
 simp
 omega
theorem wrapU_id {n:Int}(h0:0≤n)(h1:n≤18446744073709551615):IntKind.u64.wrap n=n:=by
 simp only[IntKind.wrap,IntKind.bits,IntKind.signed]
 simp
 omega
theorem andNot1 (b:Int)(hb:U64 b):IntKind.u64.wrap (BitVec.ofInt 64 b &&& ~~~BitVec.ofInt 64 1).toNat=evn b:=by
 obtain⟨n,rfl⟩:∃ n:Nat,b=n:=⟨b.toNat,by have:=hb.1; omega⟩
 have hn:n<18446744073709551616:=by have:=hb.2; omega
 have e:(BitVec.ofInt 64 n &&& ~~~BitVec.ofInt 64 1).toNat=n / 2*2:=by
  rw[BitVec.toNat_and]
  have h0:(BitVec.ofInt 64 (n:Int)).toNat=n:=by simp; omega
  have h1:(~~~BitVec.ofInt 64 1).toNat=(2 ^ 63-1)*2 ^ 1:=by rfl
  rw[h0,h1]
  apply Nat.eq_of_testBit_eq
  intro i
  rw[Nat.testBit_and,Nat.testBit_mul_two_pow,Nat.testBit_two_pow_sub_one,show n / 2*2=(n / 2)*2 ^ 1 by omega,Nat.testBit_mul_two_pow,Nat.testBit_div_two]
  by_cases h:1≤i
  ·rw[show i-1+1=i by omega]
   by_cases h2:i-1<63
   ·simp[h,h2]
   ·have:n.testBit i=false:=Nat.testBit_lt_two_pow (Nat.lt_of_lt_of_le hn (by rw[show 18446744073709551616=2 ^ 64 by rfl]; exact Nat.pow_le_pow_right (by omega) (by omega)))
    simp[this]
  ·simp[h]
 rw[e,wrapU_id (by omega) (by omega)]
 unfold evn; omega
theorem and1 (b:Int)(hb:U64 b):IntKind.u64.wrap (BitVec.ofInt 64 b &&& BitVec.ofInt 64 1).toNat=b % 2:=by
 obtain⟨n,rfl⟩:∃ n:Nat,b=n:=⟨b.toNat,by have:=hb.1; omega⟩
 have hn:n<18446744073709551616:=by have:=hb.2; omega
 have e:(BitVec.ofInt 64 n &&& BitVec.ofInt 64 1).toNat=n % 2:=by
  rw[BitVec.toNat_and]
  have:(BitVec.ofInt 64 (n:Int)).toNat=n:=by simp; omega
  rw[this]
  have:(BitVec.ofInt 64 1).toNat=1:=by rfl
  rw[this,Nat.and_one_is_mod]
 rw[e,wrapU_id (by omega) (by omega)]
 omega
theorem bin_and1 (t:Nat)(c:Bool){b:Int}(hb:U64 b):binV .and t c (.int .u64 b) (.int .u64 1)=some (.int .u64 (b % 2)):=by
 have:binV .and t c (.int .u64 b) (.int .u64 1)=some (.int .u64 (IntKind.u64.wrap (BitVec.ofInt 64 b &&& BitVec.ofInt 64 1).toNat)):=rfl
 rw[this,and1 b hb]
theorem bin_andNot1 (t:Nat)(c:Bool){b:Int}(hb:U64 b):binV .andNot t c (.int .u64 b) (.int .u64 1)=some (.int .u64 (evn b)):=by
 have:binV .andNot t c (.int .u64 b) (.int .u64 1)=some (.int .u64 (IntKind.u64.wrap (BitVec.ofInt 64 b &&& ~~~BitVec.ofInt 64 1).toNat)):=rfl
 rw[this,andNot1 b hb]
theorem bin_fnvX (t:Nat)(c:Bool)(a b:Int):binV .xor t c (.int .u64 a) (.int .u64 b)=some (.int .u64 (fnvX a b)):=rfl
theorem fnv_rng (s:ByteArray):0≤fnv s∧fnv s≤18446744073709551615:=by
 unfold fnv
 cases s.size with
 | zero=>simp[fnvTo]
 | succ n=>exact wrapU_rng _
def stripeOf (s:ByteArray)(n:Int):Int:=if n<1 then 0 else fnv s % n
def late (now until_:Int):Bool:=decide (until_≤now)
def better (a b:Sess):Bool:=decide (b.pr<a.pr) || (decide (a.pr=b.pr) && decide (a.id<b.id))
def ofStep (now:Int)(x:Sess × Nat)(s:Sess):Sess × Nat:=if late now s.un then x else (if x.2=0 || better s x.1 then s else x.1,x.2+1)
def ofAcc (l:List Sess)(now:Int):Sess × Nat:=l.foldl (ofStep now) (⟨0,0,0,0⟩,0)
def presOf (l:List Sess)(now:Int):Pres:=⟨(ofAcc l now).1.st,(ofAcc l now).1.pr,(ofAcc l now).2⟩
def ent0:Ent:=⟨[],⟨0,0,0⟩⟩
def entOf:Book→ByteArray→Ent
 | [],_=>ent0
 | (k,e)::r,u=>if k=u then e else entOf r u
def presB (b:Book)(u:ByteArray)(now:Int):Pres:=presOf (entOf b u).ss now
structure RP where
 who:Int
 users:List ByteArray
 of:Int
 ss:List Nat
 ph:Int
 at_:Nat
 tries:Int
 ep:Nat→Int
 valid:Bool
 spent:Bool
 seen:Int→Option Book
 t:Tm
 looked:Int
 placed:Int
 err:Int
 vals:List Pres
def RP.k (p:RP):Nat:=p.ss.length
def RP.s (p:RP):Nat:=p.ss.getD p.at_ 0
def RP.begin (p:RP):RP:={ p with ph:=0,at_:=0,ep:=fun _=>0,valid:=true,spent:=false,seen:=fun _=>none }
def RP.tell (p:RP)(u:ByteArray):Pres:=presB ((p.seen (stripeOf u p.of)).getD []) u p.t.now
def RP.answer (p:RP):RP:=if p.t.closed then { p with placed:=p.looked,err:=5,vals:=[] } else { p with placed:=p.looked,vals:=p.vals++p.users.map p.tell }
def RP.next (p:RP)(ph:Int):RP:=if p.at_+1<p.k then { p with at_:=p.at_+1 } else { p with ph:=ph,at_:=0 }
def RP.last (p:RP):Bool:=!decide (p.at_+1<p.k)
def RP.judge (p:RP):RP :=
 if p.t.closed || p.valid then { p.answer with ph:=8 }
 else if p.spent || decide (p.tries=0) then { p with ph:=4 }
 else RP.begin { p with tries:=p.tries-1 }
def RP.enabled (p:RP)(H:Hall):Bool:=!decide (p.ph=8) && (!decide (p.ph=4) || decide ((H.ss p.s).who=0))
def epset (f:Nat→Int)(i:Nat)(v:Int):Nat→Int:=fun k=>if k=i then v else f k
def seenset (f:Int→Option Book)(i:Int)(v:Book):Int→Option Book:=fun k=>if k=i then some v else f k
def validB (a b bound:Int):Bool:=decide (a=b) && (decide (a % 2=0) && decide (a<evn bound))
def RP.go (p:RP)(H:Hall)(n:Int):RP × Hall :=
 if p.ph=0 then (RP.next { p with ep:=epset p.ep p.at_ (H.ss p.s).v,spent:=p.spent || decide (evn H.c.epochs≤(H.ss p.s).v) } 1,H.epoch p.who p.s)
 else if p.ph=1 then (RP.next { p with seen:=seenset p.seen p.s (H.ss p.s).snap } 2,H.snap p.who p.s)
 else if p.ph=2 then ({ p with t:=H.t,looked:=n,ph:=3 },H.look p.who)
 else if p.ph=5 then ({ p with t:=H.t,looked:=n,ph:=6,placed:=n },H.look p.who)
 else if p.ph=3 then
  let q:RP:={ p with valid:=p.valid && validB (p.ep p.at_) (H.ss p.s).v H.c.epochs }
  (if q.last then (q.next 8).judge else q.next 8,H.epoch p.who p.s)
 else if p.ph=4 then (p.next 5,H.lock p.who p.s)
 else if p.ph=6 then (RP.next { p with seen:=seenset p.seen p.s (H.ss p.s).book } 7,H.read p.who p.s)
 else (if p.last then (p.next 8).answer else p.next 8,H.unlock p.who p.s)
def RP.step (p:RP)(H:Hall)(n:Int):RP × Hall :=
 if p.enabled H=false then (p,H) else if p.ss=[] then ({ p with err:=1,vals:=[],placed:=n,ph:=8 },H) else p.go H n
end Go.Den
namespace Go.Proofs.YtmbningljbcpkaaGreat
open Go Go.Den Go.MapKept
set_option linter.unusedSimpArgs false
set_option linter.unusedVariables false
set_option maxRecDepth 20000
theorem st_byte {s:ByteArray}{i:Nat}(hi:i<s.size){k:IntKind}:stV (.string s) (.int k i)=some (.int .u8 (byteAt s i)):=by
 have:s[i]?=some s[i]:=by simp[hi]
 simp -implicitDefEqProofs[stV,byteAt,this]
theorem byte_rng (s:ByteArray)(i:Nat):0≤byteAt s i∧byteAt s i≤255:=by
 unfold byteAt
 split
 ·rename_i b _; have:=b.toNat_lt; omega
 ·omega
variable {K:KTy}
theorem hashOf_ok (s : ByteArray) (hs : s.size ≤ maxLen) {h : Heap} (hk : K (.int .u64 (fnv s)) h) : callM P qsdZ #[.string s] h K := by
  apply qvsZ
  unfold qtFZ
  rw [seqM_eq]
  unfold quoZ
  simp -implicitDefEqProofs only [lnV_t, ov_s]
  refine loop_on [0, 5, 6] (fun t h' => h' = h ∧ ∃ i : Nat, i ≤ s.size ∧ t 7 = .int .i64 i ∧ t 3 = .int .u64 (fnvTo s i)) (fun t _ => (s.size - num (t 7)).toNat) ⟨rfl, 0, by omega, rfl, rfl⟩ ?_
  rintro t h1 hf ⟨rfl, i, hi, t7, t3⟩
  have t0 : t 0 = .string s := by simpa using hf 0 (by simp)
  have t5 : t 5 = .string s := by simpa using hf 5 (by simp)
  have t6 : t 6 = .int .i64 s.size := by simpa using hf 6 (by simp)
  unfold maxLen at hs
  unfold qunZ
  simp -implicitDefEqProofs only [t7, t6, bin_lss, ov_s, cd_b]
  refine ⟨fun hc => ?_, fun hc => ?_⟩
  · have hlt : i < s.size := by have : ((i : Int) < s.size) := by simpa using hc
                                omega
    have hb := byte_rng s i
    unfold qumZ
    have hw : IntKind.i64.wrap ((i : Int) + 1) = i + 1 := wrap64_id (by omega) (by omega)
    simp -implicitDefEqProofs [t0, t7, t3, st_byte hlt, wrapU_id (n := byteAt s i) (by omega) (by omega), bin_fnvX, hw, t5, t6]
    exact ⟨⟨i + 1, by omega, by simp, by simp [fnvTo, fnvStep]⟩, by omega⟩
  · have : i = s.size := by have : ¬ ((i : Int) < s.size) := by simpa using hc
                            omega
    subst this
    simp -implicitDefEqProofs [t3]
    exact hk
theorem stripe_ok (s:ByteArray)(n:Int)(hn:n≤1000)(hs:s.size≤maxLen){h:Heap}(hk:K (.int .i64 (stripeOf s n)) h):callM P qpaZ #[.string s,.int .i64 n] h K:=by
 apply quQZ
 unfold qpSZ
 simp -implicitDefEqProofs only[bin_lss,ov_s,cd_b]
 refine⟨fun hc=>?_,fun hc=>?_⟩
 ·have:n<1:=by simpa using hc
  simpa [stripeOf,this] using hk
 ·have hn1:¬ n<1:=by simpa using hc
  unfold qqOZ
  refine hashOf_ok s hs ?_
  have hf:=fnv_rng s
  have hm:(fnv s).tmod n=fnv s % n:=Int.tmod_eq_emod_of_nonneg hf.1
  have hl:=Int.emod_nonneg (fnv s) (show n≠0 by omega)
  have hu:=Int.emod_lt_of_pos (fnv s) (show 0<n by omega)
  simp -implicitDefEqProofs[wrapU_id (n:=n) (by omega) (by omega),show n≠0 by omega,hm,wrap64_id (n:=fnv s % n) (by omega) (by omega)]
  simpa [stripeOf,hn1] using hk
theorem stripeOf_rng (s:ByteArray){n:Int}(hn:1≤n):0≤stripeOf s n∧stripeOf s n<n:=by
 unfold stripeOf
 rw[if_neg (by omega)]
 exact⟨Int.emod_nonneg _ (by omega),Int.emod_lt_of_pos _ (by omega)⟩
def cellC (v b:Int):List Value:=[.int .u64 v,.int .u64 b]
theorem cellNew_ok (b:Int)(hb:U64 b){h:Heap}(hk:∀ h',Ext h h'→K (.agg (cellC 0 (evn b)).toArray) h'):callM P qreZ #[.int .u64 b] h K:=by
 apply qvoZ
 unfold qskZ
 simp -implicitDefEqProofs only[zcCell,nwM_s,bin_andNot1 _ _ hb,ov_s,bdCell]
 intro v1 n1
 simp -implicitDefEqProofs[stm_upd,ld_same,cel_same,over]
 exact hk _ (Ext.upd n1 _)
theorem spent_ok (v b:Int){h:Heap}(hk:∀ h',Ext h h'→K (.bool (decide (b≤v))) h'):callM P qjqZ #[.agg (cellC v b).toArray] h K:=by
 apply quiZ
 unfold qkFZ
 simp -implicitDefEqProofs only[nwM_s,cells_agg,cellC]
 intro v1 n1
 simp -implicitDefEqProofs[cel_same]
 exact hk _ (Ext.upd n1 _)
theorem writing_ok (v b:Int)(hv:U64 v){h:Heap}(hk:∀ h',Ext h h'→K (.bool (wrt v)) h'):callM P qbMZ #[.agg (cellC v b).toArray] h K:=by
 apply qtaZ
 unfold qiOZ
 simp -implicitDefEqProofs only[nwM_s,cells_agg,cellC]
 intro v1 n1
 simp -implicitDefEqProofs[cel_same,bin_and1 _ _ hv]
 exact kb (hk _ (Ext.upd n1 _)) (by simp[wrt])
theorem tgCell:tagg P qPZ=some (some 2):=by kernel_rfl
theorem begin_ok (v b:Int)(hv:U64 v)(hb:U64 b){h:Heap}(hk:∀ h',Ext h h'→K (.agg (cellC (bgn v b) b).toArray) h'):callM P qjoZ #[.agg (cellC v b).toArray] h K:=by
 apply qudZ
 unfold qkAZ
 refine nw_agg fun v1 h1 n1 e1 c1=>?_
 rw[zcCell]
 refine nw_intro fun v3 h2 n3 e3 c3=>?_
 have hne:=ne_fresh c1 n3
 have c1:=e3 _ _ c1
 rw[seqM_eq]
 unfold qoGZ
 simp -implicitDefEqProofs only[ld_box c1 (n:=2) rfl,ov_s]
 refine spent_ok v b fun h3 e4=>?_
 have c1:=e4 _ _ c1
 have c3:=e4 _ _ c3
 have e0:=(e1.trans e3).trans e4
 have n3:=fresh_of e1 n3
 unfold qoFZ
 simp -implicitDefEqProofs only[cellC] at c1
 by_cases hbv:b≤v
 ·simp -implicitDefEqProofs[hbv,ld_at c1,cel_of c1,stm_at c1,ld_at c3,cel_of c3,stm_at c3,stm_upd,ld_same,cel_same,over,tgCell]
  exact kv (hk _ (ext_upd n3 e0)) (by simp[cellC,bgn,show ¬ v<b by omega])
 ·simp -implicitDefEqProofs[hbv,ld_at c1,cel_of c1,stm_at c1,stm_upd,ld_same,cel_same,over]
  refine writing_ok v b hv fun h4 e5=>?_
  have c1:=e5 _ _ c1
  have c3:=e5 _ _ c3
  have e0:=e0.trans e5
  unfold qoEZ
  cases hw:wrt v
  ·have:IntKind.u64.wrap (v+1)=v+1:=wrapU_id (by have:=hv.1; omega) (by have:=hb.2; omega)
   simp -implicitDefEqProofs[ld_at c1,cel_of c1,stm_at c1,ld_at c3,cel_of c3,stm_at c3,stm_skip hne,stm_skip (Ne.symm hne),ld_skip hne,ld_skip (Ne.symm hne),cel_skip hne,cel_skip (Ne.symm hne),stm_upd,ld_same,cel_same,over,this,tgCell]
   exact kv (hk _ (ext_upd n1 (ext_upd n3 e0))) (by simp[cellC,bgn,show v<b by omega,hw])
  ·simp -implicitDefEqProofs[ld_at c1,cel_of c1,stm_at c1,ld_at c3,cel_of c3,stm_at c3,stm_upd,ld_same,cel_same,over,tgCell]
   exact kv (hk _ (ext_upd n3 e0)) (by simp[cellC,bgn,hw])
theorem lfree_ok (w:Int){h:Heap}(hk:∀ h',Ext h h'→K (.bool (decide (w=0))) h'):callM P qcvZ #[.agg #[.int .i64 w]] h K:=by
 apply qtAZ
 unfold qjCZ
 simp -implicitDefEqProofs only[nwM_s,cells_agg]
 intro v1 n1
 simp -implicitDefEqProofs[cel_same]
 exact hk _ (Ext.upd n1 _)
theorem lowner_ok (w:Int)(hw:-1000000≤w∧w≤1000000){h:Heap}(hk:∀ h',Ext h h'→K (.int .i64 (w-1)) h'):callM P qhEZ #[.agg #[.int .i64 w]] h K:=by
 apply qtfZ
 unfold qiUZ
 simp -implicitDefEqProofs only[nwM_s,cells_agg]
 intro v1 n1
 simp -implicitDefEqProofs[cel_same,wrap64_id (n:=w-1) (by omega) (by omega)]
 exact hk _ (Ext.upd n1 _)
theorem ltake_ok (w who:Int)(hw:-1000≤who∧who≤1000000){h:Heap}(hk:∀ h',Ext h h'→K (.tuple #[.agg #[.int .i64 (if canTake w who then who+1 else w)],.bool (canTake w who)]) h'):callM P qiBZ #[.agg #[.int .i64 w],.int .i64 who] h K:=by
 apply qtCZ
 unfold qjEZ
 refine nw_agg fun v1 h1 n1 e1 c1=>?_
 rw[zcLatch]
 refine nw_intro fun v3 h2 n3 e3 c3=>?_
 have hne:=ne_fresh c1 n3
 have c1:=e3 _ _ c1
 have n3:=fresh_of e1 n3
 have e0:=e1.trans e3
 unfold qnDZ qnEZ
 by_cases hw0:who<0
 ·simp -implicitDefEqProofs[hw0,ld_at c1,cel_of c1,stm_at c1,ld_at c3,cel_of c3,stm_at c3,stm_upd,ld_same,cel_same,over]
  exact kv (hk _ (ext_upd n3 e0)) (by simp[canTake,show ¬ 0≤who by omega])
 ·simp -implicitDefEqProofs[hw0,ld_at c1,cel_of c1,stm_at c1,stm_upd,ld_same,cel_same,over]
  refine lfree_ok w fun h4 e5=>?_
  have c1:=e5 _ _ c1
  have c3:=e5 _ _ c3
  have e0:=e0.trans e5
  by_cases hw:w=0
  ·simp -implicitDefEqProofs[hw,ld_at c3,cel_of c3,stm_at c3,stm_upd,ld_same,cel_same,over,bdLatch,wrap64_id (n:=who+1) (by omega) (by omega)]
   exact kv (hk _ (ext_upd n3 e0)) (by simp[canTake,hw,show 0≤who by omega])
  ·simp -implicitDefEqProofs[hw,ld_at c1,cel_of c1,stm_at c1,ld_at c3,cel_of c3,stm_at c3,stm_upd,ld_same,cel_same,over]
   exact kv (hk _ (ext_upd n3 e0)) (by simp[canTake,hw])
theorem lgive_ok (w who:Int)(hw:-1000000≤w∧w≤1000000){h:Heap}(hk:∀ h',Ext h h'→K (.tuple #[.agg #[.int .i64 (if canGive w who then 0 else w)],.bool (canGive w who)]) h'):callM P qiCZ #[.agg #[.int .i64 w],.int .i64 who] h K:=by
 apply qtDZ
 unfold qjFZ
 refine nw_agg fun v1 h1 n1 e1 c1=>?_
 rw[zcLatch]
 refine nw_intro fun v3 h2 n3 e3 c3=>?_
 have hne:=ne_fresh c1 n3
 have c1:=e3 _ _ c1
 have n3:=fresh_of e1 n3
 have e0:=e1.trans e3
 simp -implicitDefEqProofs[ld_at c1,cel_of c1,stm_at c1,stm_upd,ld_same,cel_same,over]
 refine lfree_ok w fun h4 e5=>?_
 have c1:=e5 _ _ c1
 have c3:=e5 _ _ c3
 have e0:=e0.trans e5
 unfold qnHZ qnFZ qnGZ
 by_cases hw0:w=0
 ·simp -implicitDefEqProofs[hw0,ld_at c1,cel_of c1,stm_at c1,ld_at c3,cel_of c3,stm_at c3,stm_upd,ld_same,cel_same,over]
  exact kv (hk _ (ext_upd n3 e0)) (by simp[canGive,hw0])
 ·simp -implicitDefEqProofs[hw0,ld_at c1,cel_of c1,stm_at c1,stm_upd,ld_same,cel_same,over]
  refine lowner_ok w hw fun h4 e5=>?_
  have c1:=e5 _ _ c1
  have c3:=e5 _ _ c3
  have e0:=e0.trans e5
  by_cases hg:w-1=who
  ·simp -implicitDefEqProofs[hg,ld_at c3,cel_of c3,stm_at c3,stm_upd,ld_same,cel_same,over,bdLatch0]
   exact kv (hk _ (ext_upd n3 e0)) (by simp[canGive,hw0,hg])
  ·simp -implicitDefEqProofs[hg,ld_at c1,cel_of c1,stm_at c1,ld_at c3,cel_of c3,stm_at c3,stm_upd,ld_same,cel_same,over]
   exact kv (hk _ (ext_upd n3 e0)) (by simp[canGive,hg])
end Go.Proofs.YtmbningljbcpkaaGreat
namespace Go.Proofs.YtmbningljbcpkaaGreat
open Go Go.Den Go.MapKept
set_option linter.unusedSimpArgs false
set_option linter.unusedVariables false
set_option maxRecDepth 20000
variable {K:KTy}
theorem ringNew_ok (room:Int){T:Tags}{h:Heap}(w:Wf T h){g:Tag}(gg:Gd g)(hk:∀ T' h' p,Only (pre g) T h T' h'→RingR T' h' g p (ring0 room)→K (ptr p) h'):callM P qfKZ #[.int .i64 room] h K:=by
 apply qsmZ
 unfold qhNZ
 refine vv_max ?_
 simp -implicitDefEqProofs only[bdRing,ov_s,nwM_s]
 intro p n
 exact hk (tset T p (g++[0])) _ p (Only.new _ w n) ⟨_,upd_same' _ _ _,tset_same _ _ _,Rw.nil _ _ _ _ _⟩
theorem ia_arr {n p o i:Nat}{k:IntKind}(hi:i<n):iaV (some (some n,1)) (.pointer (some ⟨p,o,none⟩)) (.int k i)=some (.pointer (some ⟨p,o+i,none⟩)):=by
 have h1:(0:Int)≤i∧(i:Int)<n:=by omega
 simp -implicitDefEqProofs[iaV,h1]
theorem feed_over {kv vv : Value} {q : Nat → Value} {j : Nat} {x : Value} (hj : j < 8) : over (feedC kv vv q).toArray (2 + j) [x] = (feedC kv vv fun k => if k = j then x else q k).toArray := by
  unfold feedC
  rw [over_map1 (by omega)]
  congr 1
  apply List.map_congr_left
  intro k _
  match k with
  | 0 => simp [feedG]; omega
  | 1 => simp [feedG]; omega
  | k + 2 => simp only [feedG]; by_cases h : k = j
             · subst h; rw [if_pos (by omega), if_pos rfl]
             · rw [if_neg (by omega), if_neg h]
theorem feedC_len (kv vv:Value)(q:Nat→Value):(feedC kv vv q).length=10:=by simp[feedC]
theorem feedC_congr {kv vv:Value}{q q':Nat→Value}(h:∀ k,k<8→q k=q' k):feedC kv vv q=feedC kv vv q':=by
 unfold feedC
 apply List.map_congr_left
 intro k hk
 match k with
 | 0=>rfl
 | 1=>rfl
 | k+2=>simp only[feedG]; exact h k (by have:=List.mem_range.1 hk; omega)
def FeedNewI (T : Tags) (h : Heap) (g : Tag) (p : Nat) (room : Int) (v : Value) (h' : Heap) : Prop := ∃ (T' : Tags) (j : Nat) (q : Nat → Nat), Only (pre g) T h T' h' ∧ h' p = some (.cells (feedC (.slice none 0 0) (.slice none 0 0) fun k => if k < j then ptr (q k) else .pointer none).toArray qexZ (0, 0)) ∧ T' p = g ++ [0] ∧
      (∀ k, k < j → RingR T' h' (g ++ [1, k]) (q k) (ring0 room)) ∧ j ≤ 8 ∧ v = .int .i64 j
theorem feedNew_ok (room : Int) {T : Tags} {h : Heap} (w : Wf T h) {g : Tag} (gg : Gd g) (hk : ∀ T' h' p, Only (pre g) T h T' h' → FeedR T' h' g p (feed0 room) → K (ptr p) h') : callM P qrfZ #[.int .i64 room] h K := by
  apply qvpZ
  unfold qslZ
  simp -implicitDefEqProofs only [bdFeed, ov_s, nwM_s]
  intro p n
  rw [seqM_eq]
  unfold qtyZ
  refine loop_on [0, 3] (fun s h' => FeedNewI T h g p room (s 7) h') (fun s _ => (8 - num (s 7)).toNat)
    ⟨tset T p (g ++ [0]), 0, fun _ => 0, Only.new _ w n, upd_same' _ _ _, tset_same _ _ _, fun k hk => by omega, by omega, rfl⟩ ?_
  rintro s h1 hf ⟨T1, j, q, o1, hp, tp, hr, hj, s7⟩
  have s0 : s 0 = .int .i64 room := by simpa using hf 0 (by simp)
  have s3 : s 3 = ptr p := by simpa using hf 3 (by simp)
  unfold qtxZ
  simp -implicitDefEqProofs only [s7, bin_lss, ov_s, cd_b]
  refine ⟨fun hc => ?_, fun hc => ?_⟩
  · have hlt : j < 8 := by have : ((j : Int) < 8) := by simpa using hc
                           omega
    unfold qtwZ
    simp -implicitDefEqProofs only [s0, s3, ptr, ncV_p, ov_s, faV_p]
    refine ringNew_ok room o1.wf (gg.app [1, j]) fun T2 h2 p2 o2 r2 => ?_
    unfold qtvZ
    have hp2 := o2.k.at hp tp (not_pre (by simp))
    simp -implicitDefEqProofs only [s7, Nat.zero_add, ia_arr hlt, ov_s, ptr]
    rw [stm_at hp2.1 (by simp) (by simp [feedC_len]; omega) (by simp)]
    simp -implicitDefEqProofs only [cells_p, feed_over hlt]
    have hw : IntKind.i64.wrap ((j : Int) + 1) = j + 1 := wrap64_id (by omega) (by omega)
    simp -implicitDefEqProofs [s7, s0, s3, hw]
    have o3 : Only (fun t => t = g ++ [0]) T2 h2 T2 (upd h2 p (.cells (feedC (.slice none 0 0) (.slice none 0 0) fun k => if k = j then ptr p2 else if k < j then ptr (q k) else .pointer none).toArray qexZ (0, 0))) := Only.upd o2.wf hp2.1 hp2.2
    refine ⟨?_, by omega⟩
    refine ⟨T2, j + 1, fun k => if k = j then p2 else q k, (o1.trans (o2.mono fun t => pre_trans)).st hp2.1 (by rw [hp2.2]; exact pre_app g _), ?_, hp2.2, fun k hk => ?_, by omega, by simp⟩
    · rw [upd_same']
      congr 3
      apply feedC_congr
      intro k hk
      by_cases e : k = j
      · subst e; simp [ptr]
      · simp -implicitDefEqProofs only [if_neg e, ptr]; by_cases hkj : k < j
        · rw [if_pos hkj, if_pos (by omega)]
        · rw [if_neg hkj, if_neg (by omega)]
    · by_cases e : k = j
      · subst e; simp only [if_true]
        exact r2.kp o3.k (off_eq (by simp))
      · simp -implicitDefEqProofs only [if_neg e]
        exact ((hr k (by omega)).kp o2.k (off_pre (by simp; omega) (by simp; omega))).kp o3.k (off_eq (by simp))
  · have : j = 8 := by have : ¬ ((j : Int) < 8) := by simpa using hc
                       omega
    subst this
    simp -implicitDefEqProofs [s3]
    refine hk T1 h1 p o1 ⟨.slice none 0 0, .slice none 0 0, q, ?_, tp, .inl ⟨rfl, _, _, rfl⟩, .inl ⟨rfl, _, _, rfl⟩, fun k hk => hr k hk, Sn.nil, Sn.nil⟩
    rw [hp]
    congr 3
end Go.Proofs.YtmbningljbcpkaaGreat
namespace Go.Proofs.YtmbningljbcpkaaGreat
open Go Go.Den Go.MapKept
set_option linter.unusedSimpArgs false
set_option linter.unusedVariables false
set_option maxRecDepth 20000
def U02 (g t:Tag):Prop:=t=g++[0]∨t=g++[2]
def U012 (g t:Tag):Prop:=t=g++[0]∨t=g++[1]∨t=g++[2]
theorem U02.up {g t:Tag}(h:U02 g t):U012 g t:=h.elim .inl fun h=>.inr (.inr h)
theorem U012.pre {g t:Tag}(h:U012 g t):Den.pre g t:=by rcases h with rfl | rfl | rfl<;>exact pre_app _ _
theorem U02.one (g:Tag):¬ U02 g (g++[1]):=by rintro (h | h)<;>exact ne_tag (by simp) h
theorem U012.nil (g:Tag):¬ U012 g []:=by rintro (h | h | h)<;>simp at h
theorem U012.off (g:Tag)(i:Nat):Off (U012 g) (g++[3,i]):=fun t ht=>by
 rintro (h | h | h)
 ·exact off_eq (by simp) t ht h
 ·exact off_eq (by simp) t ht h
 ·exact off_eq (by simp) t ht h
variable {K:KTy}
theorem did_ok (who kind place:Int){T:Tags}{h:Heap}{g:Tag}{p:Nat}{H:Hall}(w:Wf T h)(gg:Gd g){sv av:Value}{Y:Nat→SV}(x:HallX T h g p H sv av Y)(hl:H.acts.length<1000000)
  (hk:∀ T' h' av',Only (U02 g) T h T' h'→HallX T' h' g p (H.did who kind place) sv av' Y→K (.tuple #[]) h'):callM P qRZ #[ptr p,.int .i64 who,.int .i64 kind,.int .i64 place] h K:=by
 apply quBZ
 unfold qnrZ
 have hp:=x.hp
 simp -implicitDefEqProofs only[hallC] at hp
 simp -implicitDefEqProofs[cel_of hp,bdAct]
 refine Rw.app bsAct unSlAct apAct (by omega) (by simp) (by simp) w x.ac (by unfold maxLen; omega) (by omega) (by omega) (app_ne _ _) fun a av' T1 h1 o1 r1=>?_
 have hp1:=o1.k.at x.hp x.tp (ne_tag (by simp))
 have ho:=r1.one
 rw[stm_at hp1.1 (by simp[ho.2]) (by simp[hallC]) (by simp[ho.1,ho.2])]
 have o2:Only (U02 g) T h T1 (upd h1 p (.cells (over (hallC H sv av).toArray 11 av'.cells.toList) qaKZ (0,0))) :=
  (o1.mono fun t e=>.inr e).trans (Only.upd o1.wf hp1.1 (.inl hp1.2))
 refine hk T1 _ av' o2 ⟨?_,hp1.2,x.st.kp o2.k (U02.one g),?_,fun i hi=>(x.sr i hi).kp (o2.mono fun t=>U02.up).k (U012.off g i) (U012.nil g)⟩
 ·rw[upd_same']; simp[ho.2,hallC,over,Hall.did]
 ·have o3:Only (fun t=>t=g++[0]) T1 h1 T1 (upd h1 p (.cells (over (hallC H sv av).toArray 11 av'.cells.toList) qaKZ (0,0))):=Only.upd o1.wf hp1.1 hp1.2
  have:=r1.kp o3.k (ne_tag (by simp))
  simpa [Hall.did,actC] using this
def HallNewI (T:Tags)(h:Heap)(g:Tag)(p:Nat)(c:Cfg)(v:Value)(h':Heap):Prop :=
 ∃ (T':Tags) (i:Nat),Only (pre g) T h T' h'∧HallR T' h' g p (hall0 c i)∧i≤c.stripes.toNat∧v = .int .i64 i
theorem hallNew_ok (c : Cfg) (cw : CfgW c) {T : Tags} {h : Heap} (w : Wf T h) {g : Tag} (gg : Gd g)
    (hk1 : rightB c = true → ∀ T' h' p, Only (pre g) T h T' h' → HallR T' h' g p (hall0 c c.stripes.toNat) → K (.tuple #[ptr p, .int .i64 0]) h')
    (hk2 : rightB c = false → ∀ h', Ext h h' → K (.tuple #[.pointer none, .int .i64 1]) h') : callM P qppZ #[.agg (cfgC c).toArray] h K := by
  apply qvnZ
  unfold qsfZ
  refine nw_agg fun v1 h1 n1 e1 c1 => ?_
  have c1' := c1
  simp -implicitDefEqProofs only [cfgC] at c1
  simp -implicitDefEqProofs [ld_at c1, cel_of c1, stm_at c1, stm_upd, ld_same, cel_same, over]
  have ec : Value.agg #[.int .i64 c.stripes, .int .i64 c.sessions, .int .i64 c.queue, .int .i64 c.watches, .int .i64 c.retries, .int .u64 c.epochs, .int .u64 c.start] = .agg (cfgC c).toArray := rfl
  rw [ec]
  refine modRight_ok c fun h2 e2 => ?_
  have c1 := e2 _ _ c1
  have e0 := e1.trans e2
  unfold qtoZ
  simp -implicitDefEqProofs only [unV_n, ov_s, cd_b]
  refine ⟨fun hr => hk2 (by simpa using hr) _ e0, fun hr => ?_⟩
  have hr : rightB c = true := by simpa using hr
  have hn : 1 ≤ c.stripes ∧ c.stripes ≤ 8 := by simp [rightB] at hr; omega
  unfold qtnZ
  simp -implicitDefEqProofs [ld_at c1, cel_of c1, stm_at c1, stm_upd, ld_same, cel_same, over, bdTime, bdHall]
  have w2 := w.ext e0
  refine nw_tag w2 (g ++ [0]) fun p T3 h3 n3 o3 t3 c3 => ?_
  rw [seqM_eq]
  unfold qtmZ
  have b1 : h2 v1 = _ ∧ T v1 = [] := ⟨c1, w v1 n1⟩
  have b1 := o3.see b1 (not_non _)
  have c1 := b1.1
  simp -implicitDefEqProofs [ld_at c1, cel_of c1, stm_at c1, stm_upd, ld_same, cel_same, over]
  have o0 : Only (pre g) T h T3 h3 := (Only.of_ext w e0).up o3 non_up
  have x0 : HallR T3 h3 g p (hall0 c 0) := ⟨.slice none 0 0, .slice none 0 0, fun _ => ⟨.slice none 0 0, .slice none 0 0, .slice none 0 0, .slice none 0 0, 0⟩, c3, t3, Rw.nil _ _ _ _ _, Rw.nil _ _ _ _ _, fun i hi => by simp [hall0] at hi⟩
  refine loop_on [1, 4, 15] (fun s h' => HallNewI T3 h3 g p c (s 16) h') (fun s _ => (c.stripes.toNat - num (s 16)).toNat) ⟨T3, 0, Only.refl o3.wf, x0, by omega, rfl⟩ ?_
  rintro s h4 hf ⟨T4, i, o4, x4, hi, s16⟩
  have s1 : s 1 = ptr v1 := by simpa using hf 1 (by simp)
  have s4 : s 4 = ptr p := by simpa using hf 4 (by simp)
  have s15 : s 15 = .int .i64 c.stripes := by simpa using hf 15 (by simp)
  have b1 := o4.see b1 gg.nil
  have c1 := b1.1
  unfold qtlZ
  simp -implicitDefEqProofs only [s16, s15, bin_lss, ov_s, cd_b]
  refine ⟨fun hc => ?_, fun hc => ?_⟩
  rotate_left
  · have : i = c.stripes.toNat := by have : ¬ ((i : Int) < c.stripes) := by simpa using hc
                                     omega
    subst this
    simp -implicitDefEqProofs [s4]
    exact hk1 hr T4 h4 p (o0.trans o4) x4
  have hlt : i < c.stripes.toNat := by have : ((i : Int) < c.stripes) := by simpa using hc
                                       omega
  obtain ⟨sv, av, Y, x⟩ := x4
  have bp : h4 p = _ ∧ T4 p = _ := ⟨x.hp, x.tp⟩
  simp -implicitDefEqProofs only [hallC] at bp
  have cp := bp.1
  unfold qtkZ
  simp -implicitDefEqProofs [s1, s4, ld_at c1, cel_of c1, stm_at c1, ld_at cp, cel_of cp, stm_at cp, stm_upd, ld_same, cel_same, over]
  refine cellNew_ok _ cw.u1 fun h5 e5 => ?_
  have w4 := o4.wf
  have o5 : Only non T4 h4 T4 h5 := Only.of_ext w4 e5
  have c1 := e5 _ _ c1
  have bp := o5.see bp (not_non _)
  have cp := bp.1
  unfold qtjZ
  simp -implicitDefEqProofs [s1, s4, ld_at c1, cel_of c1, stm_at c1, ld_at cp, cel_of cp, stm_at cp, stm_upd, ld_same, cel_same, over]
  refine feedNew_ok _ o5.wf (gg.app [3, i]) fun T6 h6 fp o6 r6 => ?_
  have bp := o6.see bp (not_pre (by simp))
  have cp := bp.1
  simp -implicitDefEqProofs [ld_at cp, cel_of cp, stm_at cp, stm_upd, ld_same, cel_same, over, cellC, bdStripe]
  refine bs_one bsStripe (by simp) (by omega) fun sb h7 n7 e7 c7 => ?_
  have o7 : Only non T6 h6 T6 h7 := Only.of_ext o6.wf e7
  have bp := o7.see bp (not_non _)
  have cp := bp.1
  have r7 := r6.kp o7.k (Off.non _) (not_non _)
  refine ⟨by simp [ld_at cp, cel_of cp, stm_at cp, stm_upd, ld_same, cel_same, over], ?_⟩
  have st4 : Rw T6 h6 (g ++ [1]) 8 qKZ sv i _ := (x.st.kp o5.k (not_non _)).kp o6.k (not_pre (by simp))
  have st7 := st4.kp o7.k (not_non _)
  refine Rw.app1 (m := 1) (news := _) unSlStripe apStripe (by omega) o7.wf st7 (cels_one c7 (by simp)) (by simp) (by unfold maxLen; omega) (by omega) fun sv' T8 h8 o8 st8 => ?_
  have bp := o8.see bp (ne_tag (by simp))
  have cp := bp.1
  have ho := st8.one
  have hw : IntKind.i64.wrap ((i : Int) + 1) = i + 1 := wrap64_id (by omega) (by omega)
  simp -implicitDefEqProofs [ld_at cp, cel_of cp, stm_at cp, stm_upd, ld_same, cel_same, over, ho.1, ho.2, s16, s15, s1, s4, hw]
  refine ⟨?_, by omega⟩
  have o9 := fun o' => Only.upd (U := fun t => t = g ++ [0]) (o' := o') o8.wf bp.1 bp.2
  refine ⟨T8, i + 1, ((((o4.up o5 non_up).up o6 fun t => pre_trans).up o7 non_up).up o8 fun t e => e ▸ pre_app _ _).up (o9 _) fun t e => e ▸ pre_app _ _,
    ⟨sv', av, fun k => if k = i then ⟨.slice none 0 0, .slice none 0 0, .slice none 0 0, .slice none 0 0, fp⟩ else Y k, upd_same' _ _ _, bp.2, ?_, ?_, fun k hk => ?_⟩, by omega, by simp⟩
  · have := st8.kp (o9 (.cells #[.int .i64 c.stripes, .int .i64 c.sessions, .int .i64 c.queue, .int .i64 c.watches, .int .i64 c.retries, .int .u64 c.epochs, .int .u64 c.start, .int .u64 c.start, .int .u64 0, .bool false, sv', av] qaKZ (0, 0))).k (ne_tag (by simp))
    simp -implicitDefEqProofs only [hall0]
    rw [seqF_succ]
    have e1 : seqF i (fun k => strC (strp0 c) (if k = i then ⟨.slice none 0 0, .slice none 0 0, .slice none 0 0, .slice none 0 0, fp⟩ else Y k)) = seqF i fun k => strC (strp0 c) (Y k) := seqF_congr fun k hk => by rw [if_neg (by omega)]
    rw [e1]
    simpa [hall0, strC, strp0] using this
  · exact ((((x.ac.kp o5.k (not_non _)).kp o6.k (not_pre (by simp))).kp o7.k (not_non _)).kp o8.k (ne_tag (by simp))).kp (o9 _).k (ne_tag (by simp))
  · have f9 := (o9 (.cells #[.int .i64 c.stripes, .int .i64 c.sessions, .int .i64 c.queue, .int .i64 c.watches, .int .i64 c.retries, .int .u64 c.epochs, .int .u64 c.start, .int .u64 c.start, .int .u64 0, .bool false, sv', av] qaKZ (0, 0))).k
    have a8 : ∀ k, Off (fun t => t = g ++ [1]) (g ++ [3, k]) := fun k => off_eq (by simp)
    have a9 : ∀ k, Off (fun t => t = g ++ [0]) (g ++ [3, k]) := fun k => off_eq (by simp)
    by_cases hki : k = i
    · subst hki
      simp -implicitDefEqProofs only [if_true]
      have := (r7.kp o8.k (a8 _) (by simp)).kp f9 (a9 _) (by simp)
      exact ⟨BookR.nil _, BookR.nil _, this⟩
    · simp -implicitDefEqProofs only [if_neg hki]
      have hki' : k < i := by simp [hall0] at hk; omega
      exact ((((((x.sr k hki').kp o5.k (Off.non _) (not_non _))).kp o6.k (off_pre (by simp; omega) (by simp; omega)) ((gg.app _).nil)).kp o7.k (Off.non _) (not_non _)).kp o8.k (a8 _) (by simp)).kp f9 (a9 _) (by simp)
end Go.Proofs.YtmbningljbcpkaaGreat
namespace Go.Proofs.YtmbningljbcpkaaGreat
open Go Go.Den Go.MapKept
set_option linter.unusedSimpArgs false
set_option linter.unusedVariables false
set_option maxRecDepth 20000
theorem HallR.up {T T':Tags}{h h':Heap}{g:Tag}{p:Nat}{H:Hall}{U:Tag→Prop}(x:HallR T h g p H)(o:Only U T h T' h')(f:Off U g)(n:¬ U []):HallR T' h' g p H:=x.kp o.k f n
theorem strC_len (X:Strp)(y:SV):(strC X y).length=8:=rfl
theorem HallX.lds {T:Tags}{h:Heap}{g:Tag}{p:Nat}{H:Hall}{sv av:Value}{Y:Nat→SV}(x:HallX T h g p H sv av Y){s:Nat}(hs:s<H.n){k:IntKind}:∃ b o,rowOf sv=some b∧h b=some o∧T b=g++[1] ∧
  iaV (some (none,8)) sv (.int k s)=some (.pointer (some ⟨b,s*8,none⟩)) ∧
  ldV (some (some 1)) (.pointer (some ⟨b,s*8,none⟩)) h=some (.agg #[.int .i64 (H.ss s).who]) ∧
  ldV (some (some 2)) (.pointer (some ⟨b,s*8+1,none⟩)) h=some (.agg (cellC (H.ss s).v (H.ss s).bound).toArray) ∧
  ldV (some (some 2)) (.pointer (some ⟨b,s*8+3,none⟩)) h=some (.agg #[(Y s).sk,(Y s).sv]) ∧
  ldV (some (some 2)) (.pointer (some ⟨b,s*8+5,none⟩)) h=some (.agg #[(Y s).bk,(Y s).bv]) ∧
  cel h b (s*8+7)=some (ptr (Y s).fp) ∧
  ldV (some (some 8)) (.pointer (some ⟨b,s*8,none⟩)) h=some (.agg (strC (H.ss s) (Y s)).toArray):=by
 obtain⟨b,h1,h2⟩:=x.st.1.ia (k:=k) hs
 obtain⟨o,ho⟩:=x.st.1.lt b h1
 have hc:∀ off m,off+m≤8→cels h b (s*8+off) m=some (((strC (H.ss s) (Y s)).drop off).take m):=fun off m hm=>by
  rw[x.st.1.cels h1 (o:=s*8+off) (m:=m) (by have:(s+1)*8≤H.n*8:=Nat.mul_le_mul_right _ hs; omega)]
  have:=seqF_at (F:=fun i=>strC (H.ss i) (Y i)) (sz:=8) (fun i _=>strC_len _ _) hs
  rw[← this,List.drop_take,List.take_take,List.drop_drop,Nat.min_eq_left (by omega)]
 refine⟨b,o,h1,ho,x.st.2 b h1,h2,?_,?_,?_,?_,?_,?_⟩
 ·have:=hc 0 1 (by omega); rw[Nat.add_zero] at this; simp[ldV,this,strC]
 ·simp -implicitDefEqProofs[ldV,hc 1 2 (by omega),strC,cellC]
 ·simp -implicitDefEqProofs[ldV,hc 3 2 (by omega),strC]
 ·simp -implicitDefEqProofs[ldV,hc 5 2 (by omega),strC]
 ·have:=hc 7 1 (by omega)
  obtain⟨h3,h4⟩:=cels_get this
  have:=h4 0 (by simp[strC])
  simpa [strC] using this
 ·have:=hc 0 8 (by omega); rw[Nat.add_zero] at this; simp[ldV,this,strC]
theorem HallX.stw {T:Tags}{h:Heap}{g:Tag}{p:Nat}{H:Hall}{sv av:Value}{Y:Nat→SV}(x:HallX T h g p H sv av Y)(w:Wf T h){s b:Nat}(hs:s<H.n)(hb:rowOf sv=some b){off m o:Nat}{v:Value}{X':Strp}{y':SV}
  (eo:o=s*8+off) (hm:v.cells.size=m) (ho:off+m≤8) (h1:v.cells.toList.all (fun u=>u.oneCell')=true) (hc:spl (strC (H.ss s) (Y s)) off v.cells.toList=strC X' y') (hr:StrpR T h (g++[3,s]) X' y') {K:Heap→Prop}
  (hk:∀ h',Only (fun t=>t=g++[1]) T h T h'→HallX T h' g p (H.put s X') sv av (fun k=>if k=s then y' else Y k)→K h'):stM (some m) (.pointer (some ⟨b,o,none⟩)) v h K:=by
 subst eo
 have tb:=x.st.2 b hb
 refine x.st.1.st hb hm (by have:(s+1)*8≤H.n*8:=Nat.mul_le_mul_right _ hs; omega) (List.all_eq_true.1 h1) fun h' hk' hrow=>?_
 obtain⟨ob,hob⟩:=x.st.1.lt b hb
 obtain⟨ob',hob'⟩:=hrow.lt b hb
 have e:h'=upd h b ob':=upd_of hk' hob'
 have o1:Only (fun t=>t=g++[1]) T h T h':=by rw[e]; exact Only.upd w hob tb
 have off3:∀ i,Off (fun t=>t=g++[1]) (g++[3,i]):=fun i=>off_eq (by simp)
 refine hk h' o1 ⟨(o1.k.at x.hp x.tp (ne_tag (by simp))).1,x.tp,⟨?_,x.st.2⟩,x.ac.kp o1.k (ne_tag (by simp)),fun i hi=>?_⟩
 ·rw[seqF_spl (fun i _=>strC_len _ _) hs (by rw[Array.length_toList]; omega)] at hrow
  have:seqF H.n (fset (fun i=>strC (H.ss i) (Y i)) s (spl (strC (H.ss s) (Y s)) off v.cells.toList))=seqF (H.put s X').n fun i=>strC ((H.put s X').ss i) (if i=s then y' else Y i):=by
   refine seqF_congr fun i hi=>?_
   simp -implicitDefEqProofs only[fset,Hall.put,sput]
   by_cases his:i=s
   ·subst his; simp only[if_true]; exact hc
   ·simp -implicitDefEqProofs only[if_neg his]
  rw[this] at hrow
  exact hrow
 ·simp -implicitDefEqProofs only[Hall.put,sput]
  by_cases his:i=s
  ·subst his; simp only[if_true]; exact hr.kp o1.k (off3 _) (by simp)
  ·simp -implicitDefEqProofs only[if_neg his]; exact (x.sr i hi).kp o1.k (off3 _) (by simp)
theorem lc_ne (g:Tag)(gg:Gd g)(s:Tag):¬ (lc=g++s):=by obtain⟨k,r,rfl⟩:=gg; simp
theorem lc_U02 {g:Tag}(gg:Gd g):¬ U02 g lc:=by rintro (h | h)<;>exact lc_ne g gg _ h
theorem U02.pre {g t:Tag}(h:U02 g t):Den.pre g t:=h.up.pre
theorem Only.lst {T:Tags}{h:Heap}{b:Nat}{o o':Obj}(w:Wf T h)(e:h b=some o∧T b=lc):Only (fun t=>t=lc) T h T (upd h b o'):=Only.upd w e.1 e.2
theorem HallR.lst {T:Tags}{h:Heap}{g:Tag}{p:Nat}{H:Hall}(x:HallR T h g p H)(gg:Gd g){b:Nat}{o o':Obj}(w:Wf T h)(e:h b=some o∧T b=lc):HallR T (upd h b o') g p H :=
 x.kp (Only.lst w e).k gg.off (by simp)
end Go.Proofs.YtmbningljbcpkaaGreat
namespace Go.Proofs.YtmbningljbcpkaaGreat
open Go Go.Den Go.MapKept
set_option linter.unusedSimpArgs false
set_option linter.unusedVariables false
set_option maxRecDepth 20000
theorem zcMap:zc P qaZ=some #[.slice none 0 0,.slice none 0 0]:=by kernel_rfl
theorem eq_pre {g s t:Tag}(h:t=g++s):pre g t:=h▸pre_app _ _
variable {K:KTy}
theorem begin2_ok (who:Int){s:Nat}{T:Tags}{h:Heap}{g:Tag}{p:Nat}{H:Hall}(w:Wf T h)(gg:Gd g)(x:HallR T h g p H)(hs:s<H.n)(h8:H.n≤8)(hl:H.acts.length<1000000)(hv:U64 (H.ss s).v)(hb:U64 (H.ss s).bound)
  (hk:∀ T' h',Only (pre g) T h T' h'→HallR T' h' g p (H.begin who s)→K (.tuple #[]) h'):callM P qjlZ #[ptr p,.int .i64 who,.int .i64 s] h K:=by
 apply quaZ
 unfold qkxZ
 refine place_ok s 2 (by omega) ?_
 unfold qoqZ
 obtain⟨sv,av,Y,x⟩:=x
 refine did_ok who 4 _ w gg x hl fun T2 h2 av2 o2 x2=>?_
 have bp:h2 p=_∧T2 p=_:=⟨x2.hp,x2.tp⟩
 simp -implicitDefEqProofs only[hallC] at bp
 have cp:=bp.1
 obtain⟨b,ob,rb,hb1,tb,ia,l1,l2,l3,l4,l5,l6⟩:=x2.lds (s:=s) (k:=.i64) hs
 unfold qopZ
 simp -implicitDefEqProofs[ld_at cp,cel_of cp,stm_at cp,stm_upd,ld_same,cel_same,over,ia,l2]
 refine begin_ok _ _ hv hb fun h3 e3=>?_
 have o3:Only non T2 h2 T2 h3:=Only.of_ext o2.wf e3
 have bp:=o3.see bp (not_non _)
 have cp:=bp.1
 have x3:HallX T2 h3 g p (H.did who 4 (4*s+2)) sv av2 Y:=⟨e3 _ _ x2.hp,x2.tp,x2.st.kp o3.k (not_non _),x2.ac.kp o3.k (not_non _),fun i hi=>(x2.sr i hi).kp o3.k (Off.non _) (not_non _)⟩
 unfold qooZ
 simp -implicitDefEqProofs[ld_at cp,cel_of cp,stm_at cp,stm_upd,ld_same,cel_same,over,ia]
 refine x3.stw o3.wf (off:=1) (X':={ H.ss s with v:=bgn (H.ss s).v (H.ss s).bound }) (y':=Y s) hs rb rfl (by rfl) (by omega) (by simp[cellC,Hall.did]) (by simp[spl,strC,cellC,Hall.did]) (x3.sr s hs) fun h4 o4 x4=>?_
 exact hk T2 h4 (((o2.mono fun _=>U02.pre).up o3 non_up).up o4 fun t=>eq_pre) ⟨sv,av2,_,x4⟩
theorem free_ok {s:Nat}{T:Tags}{h:Heap}{g:Tag}{p:Nat}{H:Hall}(x:HallR T h g p H)(hs:s<H.n)
  (hk:∀ h',Ext h h'→K (.bool (decide ((H.ss s).who=0))) h'):callM P qfDZ #[ptr p,.int .i64 s] h K:=by
 apply qusZ
 unfold qlNZ
 obtain⟨sv,av,Y,x2⟩:=x
 have cp:=x2.hp
 simp -implicitDefEqProofs only[hallC] at cp
 obtain⟨b,ob,rb,hb1,tb,ia,l1,l2,l3,l4,l5,l6⟩:=x2.lds (s:=s) (k:=.i64) hs
 simp -implicitDefEqProofs[ld_at cp,cel_of cp,stm_at cp,stm_upd,ld_same,cel_same,over,ia,l1]
 exact lfree_ok _ hk
theorem hstripe_ok (u:ByteArray)(hu:u.size≤maxLen){T:Tags}{h:Heap}{g:Tag}{p:Nat}{H:Hall}(x:HallR T h g p H)(hc:H.c.stripes≤8)
  (hk:K (.int .i64 (stripeOf u H.c.stripes)) h):callM P qixZ #[ptr p,.string u] h K:=by
 apply qtrZ
 unfold qjxZ
 obtain⟨sv,av,Y,x2⟩:=x
 have cp:=x2.hp
 simp -implicitDefEqProofs only[hallC] at cp
 simp -implicitDefEqProofs[ld_at cp,cel_of cp,stm_at cp,stm_upd,ld_same,cel_same,over]
 exact stripe_ok u _ (by omega) hu hk
theorem lock_ok (who:Int){s:Nat}{T:Tags}{h:Heap}{g:Tag}{p:Nat}{H:Hall}(w:Wf T h)(gg:Gd g)(x:HallR T h g p H)(hs:s<H.n)(h8:H.n≤8)(hl:H.acts.length<1000000)(hw:-1000≤who∧who≤1000000)
  (hk:∀ T' h',Only (pre g) T h T' h'→HallR T' h' g p (H.lock who s)→K (.bool (canTake (H.ss s).who who)) h'):callM P qktZ #[ptr p,.int .i64 who,.int .i64 s] h K:=by
 apply quuZ
 unfold qlPZ
 obtain⟨sv,av,Y,x⟩:=x
 have cp:=x.hp
 simp -implicitDefEqProofs only[hallC] at cp
 obtain⟨b,ob,rb,hb1,tb,ia,l1,l2,l3,l4,l5,l6⟩:=x.lds (s:=s) (k:=.i64) hs
 simp -implicitDefEqProofs[ld_at cp,cel_of cp,stm_at cp,stm_upd,ld_same,cel_same,over,ia,l1]
 refine ltake_ok _ _ hw fun h1 e1=>?_
 have o1:Only non T h T h1:=Only.of_ext w e1
 unfold qpAZ
 simp -implicitDefEqProofs only[exV_0,exV_1,ov_s,zcLatch]
 refine nw_tag o1.wf lc fun v1 T2 h2 n2 o2 t2 c2=>?_
 simp -implicitDefEqProofs[ld_at c2,cel_of c2,stm_at c2,stm_upd,ld_same,cel_same,over]
 have n0:h v1=none:=o1.fresh n2
 have o0:=(o1.trans o2).own (o':=.cells #[.int .i64 (if canTake (H.ss s).who who then who+1 else (H.ss s).who)] qnZ (0,0)) n0 c2
 have x2:HallX T2 (upd h2 v1 (.cells #[.int .i64 (if canTake (H.ss s).who who then who+1 else (H.ss s).who)] qnZ (0,0))) g p H sv av Y :=
  ⟨(o0.k.at x.hp x.tp (not_non _)).1,(o0.k.at x.hp x.tp (not_non _)).2,x.st.kp o0.k (not_non _),x.ac.kp o0.k (not_non _),fun i hi=>(x.sr i hi).kp o0.k (Off.non _) (not_non _)⟩
 rw[seqM_eq]
 unfold qpzZ
 cases hc:canTake (H.ss s).who who with
 | false =>
  simp -implicitDefEqProofs only[hc] at x2 o0
  unfold qpyZ
  simp -implicitDefEqProofs
  exact kb (hk T2 _ (o0.mono non_up) (by simp only[Hall.lock,hc]; exact⟨sv,av,Y,x2⟩)) hc
 | true =>
  simp -implicitDefEqProofs only[hc,if_true] at x2 o0 ⊢
  have b1:(upd h2 v1 (.cells #[.int .i64 (who+1)] qnZ (0,0))) v1=_∧T2 v1=lc:=⟨upd_same' _ _ _,t2⟩
  simp -implicitDefEqProofs only[cd_b,true_implies]
  refine⟨?_,fun hx=>by cases hx⟩
  unfold qpxZ
  refine place_ok s 1 (by omega) ?_
  unfold qpwZ
  refine did_ok who 5 _ o0.wf gg x2 hl fun T3 h3 av3 o3 x3=>?_
  have b1:=o3.see b1 (lc_U02 gg)
  have c1:=b1.1
  have cp:=x3.hp
  simp -implicitDefEqProofs only[hallC] at cp
  obtain⟨b,ob,rb,hb1,tb,ia,l1,l2,l3,l4,l5,l6⟩:=x3.lds (s:=s) (k:=.i64) hs
  unfold qpvZ
  simp -implicitDefEqProofs[ld_at cp,cel_of cp,stm_at cp,ld_at c1,cel_of c1,stm_at c1,stm_upd,ld_same,cel_same,over,ia]
  refine x3.stw o3.wf (off:=0) (X':={ H.ss s with who:=who+1 }) (y':=Y s) hs rb rfl (by rfl) (by omega) (by simp) (by simp[spl,strC,Hall.did]) (x3.sr s hs) fun h4 o4 x4=>?_
  exact kb (hk T3 h4 (((o0.mono non_up).up o3 fun _=>U02.pre).up o4 fun t=>eq_pre) (by simp only[Hall.lock,hc]; exact⟨sv,av3,_,x4⟩)) hc
theorem unlock_ok (who:Int){s:Nat}{T:Tags}{h:Heap}{g:Tag}{p:Nat}{H:Hall}(w:Wf T h)(gg:Gd g)(x:HallR T h g p H)(hs:s<H.n)(h8:H.n≤8)(hl:H.acts.length<1000000)(hw:-1000000≤(H.ss s).who∧(H.ss s).who≤1000000)
  (hk:∀ T' h',Only (pre g) T h T' h'→HallR T' h' g p (H.unlock who s)→K (.bool (canGive (H.ss s).who who)) h'):callM P qizZ #[ptr p,.int .i64 who,.int .i64 s] h K:=by
 apply qtzZ
 unfold qjBZ
 obtain⟨sv,av,Y,x⟩:=x
 have cp:=x.hp
 simp -implicitDefEqProofs only[hallC] at cp
 obtain⟨b,ob,rb,hb1,tb,ia,l1,l2,l3,l4,l5,l6⟩:=x.lds (s:=s) (k:=.i64) hs
 simp -implicitDefEqProofs[ld_at cp,cel_of cp,stm_at cp,stm_upd,ld_same,cel_same,over,ia,l1]
 refine lgive_ok _ _ hw fun h1 e1=>?_
 have o1:Only non T h T h1:=Only.of_ext w e1
 unfold qnpZ
 simp -implicitDefEqProofs only[exV_0,exV_1,ov_s,zcLatch]
 refine nw_tag o1.wf lc fun v1 T2 h2 n2 o2 t2 c2=>?_
 simp -implicitDefEqProofs[ld_at c2,cel_of c2,stm_at c2,stm_upd,ld_same,cel_same,over]
 have n0:h v1=none:=o1.fresh n2
 have o0:=(o1.trans o2).own (o':=.cells #[.int .i64 (if canGive (H.ss s).who who then 0 else (H.ss s).who)] qnZ (0,0)) n0 c2
 have x2:HallX T2 (upd h2 v1 (.cells #[.int .i64 (if canGive (H.ss s).who who then 0 else (H.ss s).who)] qnZ (0,0))) g p H sv av Y :=
  ⟨(o0.k.at x.hp x.tp (not_non _)).1,(o0.k.at x.hp x.tp (not_non _)).2,x.st.kp o0.k (not_non _),x.ac.kp o0.k (not_non _),fun i hi=>(x.sr i hi).kp o0.k (Off.non _) (not_non _)⟩
 rw[seqM_eq]
 unfold qnoZ
 cases hc:canGive (H.ss s).who who with
 | false =>
  simp -implicitDefEqProofs only[hc] at x2 o0
  unfold qnnZ
  simp -implicitDefEqProofs
  exact kb (hk T2 _ (o0.mono non_up) (by simp only[Hall.unlock,hc]; exact⟨sv,av,Y,x2⟩)) hc
 | true =>
  simp -implicitDefEqProofs only[hc,if_true] at x2 o0 ⊢
  have b1:(upd h2 v1 (.cells #[.int .i64 0] qnZ (0,0))) v1=_∧T2 v1=lc:=⟨upd_same' _ _ _,t2⟩
  simp -implicitDefEqProofs only[cd_b,true_implies]
  refine⟨?_,fun hx=>by cases hx⟩
  unfold qnmZ
  refine place_ok s 1 (by omega) ?_
  unfold qnlZ
  refine did_ok who 6 _ o0.wf gg x2 hl fun T3 h3 av3 o3 x3=>?_
  have b1:=o3.see b1 (lc_U02 gg)
  have c1:=b1.1
  have cp:=x3.hp
  simp -implicitDefEqProofs only[hallC] at cp
  obtain⟨b,ob,rb,hb1,tb,ia,l1,l2,l3,l4,l5,l6⟩:=x3.lds (s:=s) (k:=.i64) hs
  unfold qnkZ
  simp -implicitDefEqProofs[ld_at cp,cel_of cp,stm_at cp,ld_at c1,cel_of c1,stm_at c1,stm_upd,ld_same,cel_same,over,ia]
  refine x3.stw o3.wf (off:=0) (X':={ H.ss s with who:=0 }) (y':=Y s) hs rb rfl (by rfl) (by omega) (by simp) (by simp[spl,strC,Hall.did]) (x3.sr s hs) fun h4 o4 x4=>?_
  exact kb (hk T3 h4 (((o0.mono non_up).up o3 fun _=>U02.pre).up o4 fun t=>eq_pre) (by simp only[Hall.unlock,hc]; exact⟨sv,av3,_,x4⟩)) hc
theorem acts_ok {T:Tags}{h:Heap}{g:Tag}{p:Nat}{H:Hall}(w:Wf T h)(x:HallR T h g p H)(hl:H.acts.length<1000000)
  (hk':∀ v h',Ext h h'→Sl 3 ActR (fz T h') v H.acts→K v h'):callM P qkrZ #[ptr p] h K:=by
 apply qurZ
 unfold qlMZ
 obtain⟨sv,av,Y,x⟩:=x
 refine bs_none bsAct fun v h1 e1 r1 _ f1=>?_
 have o1:Only non T h T h1:=Only.of_ext w e1
 have cp:=e1 _ _ x.hp
 simp -implicitDefEqProofs only[hallC] at cp
 simp -implicitDefEqProofs[ld_at cp,cel_of cp,stm_at cp,stm_upd,ld_same,cel_same,over]
 have ra:=(x.ac.kp o1.k (not_non _)).1
 have sa:Sl 3 ActR h1 av H.acts:=Row.slE (enc:=actC) (fun _=>rfl) (fun _=>rfl) ra
 exact copy_intro (enc:=actC) (R:=ActR) unSlAct apAct (by omega) w e1 r1 f1 id (fun _ _=>rfl) (fun _=>rfl) sa (by simp[actC]) (by unfold maxLen; omega) (by omega) hk'
end Go.Proofs.YtmbningljbcpkaaGreat
