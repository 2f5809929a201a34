/- Words, plain data and contracts of the Go functions that this claim reaches. No condition beyond the hypotheses that each theorem states. -/
import Derived.Test.YtcnphhhcknhhaaaGreatWs1
set_option linter.unusedSimpArgs false
set_option linter.unusedVariables false
namespace Go.Proofs.YtcnphhhcknhhaaaGreat
open Go Go.Den
set_option maxRecDepth 100000
set_option linter.unusedVariables false
def qlkZ (a:Value)(b:Heap)(c d e f:Value)(g:Env)(h:Post)(m:List Nat)(i j k l:Value):Prop:=ldV (some none) a b=some c∧ldV (some none) d b=some e∧callM P qjEZ #[e] b fun n o=>ldV (some none) a o=some c∧ov (bdV (binf P qxZ) [(1,f),(4,n)]) fun p=>bsM (bsI P qbwZ) 1 [(0,p)] o fun q r=>ldV (some none) a r=some c∧vvM P (Builtin.append_ #[qbwZ,qbwZ] qbwZ #[c,q]) r fun s t=>ov (ncV (g 4)) fun u=>ov (faV (some 10) u) fun v=>stM (some 1) v s t fun w=>ov (binV BinOp.add 2 true (g 16) (Value.int IntKind.i64 1)) fun x=>h .normal m (puts g [(17,i),(18,(g 4)),(19,(g 4)),(20,j),(21,a),(22,c),(23,k),(24,l),(26,d),(27,e),(25,f),(28,n),(29,p),(30,q),(31,s),(32,u),(33,v),(34,x),(16,x)]) w
def qllZ (a:Env)(b:Heap)(c:Post)(m:List Nat)(d:Value):Prop:=ov (ncV (a 4)) fun e=>ov (faV (some 10) e) fun f=>ov (ldV (some none) f b) fun g=>ov (faV (some 5) (a 1)) fun h=>ov (ldV (some none) h b) fun i=>ov (faV (some 2) (a 1)) fun j=>ov (ldV (some none) j b) fun k=>callM P qjDZ #[i] b fun l n=>qlkZ f n g j k l a c m d e h i
def qlmZ (a:Env)(b:Heap)(c:Post)(m:List Nat):Prop:=ov (binV BinOp.lss 2 false (a 16) (a 15)) fun d=>cdM d (qllZ a b c m d) (c (.exit 0) m (puts a [(17,d)]) b)
def qlnZ (a:Value)(b:Heap)(x0 c d e f g h i j k:Value)(l:Post):Prop:=ov (faV (some 0) a) fun n=>ov (ldV (some none) n b) fun o=>loopM (fun m p q r=>qlmZ p q r m) [] (puts (envOf [x0]) [(1,a),(2,(Value.pointer none)),(3,(Value.int IntKind.i64 0)),(5,c),(6,d),(7,e),(8,f),(9,g),(10,h),(11,i),(12,j),(13,k),(4,k),(14,n),(15,o),(16,(Value.int IntKind.i64 0))]) b (blkM 0 l)
def qloZ (a:Value)(b:Heap)(x0 c d e:Value)(K:KTy):Prop:=ov (ldV (some (some 7)) a b) fun f=>ov (faV (some 6) a) fun g=>ov (ldV (some none) g b) fun h=>ov (bdV (binf P qsZ) [(0,h)]) fun i=>ov (bdV (binf P qaoZ) [(0,f),(1,i)]) fun j=>nwM (some j.cells) qaoZ b fun k l=>seqM (fun n=>qlnZ a l x0 c d e f g h i j k n) (fun m o p=>(retM P [.tmp 2,.tmp 3] K) .ret m (puts o [(35,(o 4)),(2,(o 4)),(3,(Value.int IntKind.i64 0))]) p) (retM P [.tmp 2,.tmp 3] K)
def qlpZ (a:Value)(K:KTy)(b:Heap)(c x0 d:Value):Prop:=ov (unV UnOp.not a) fun e=>cdM e (K (.tuple #[(Value.pointer none),(Value.int IntKind.i64 1)]) b) (qloZ c b x0 d a e K)
def qkzZ (x0:Value)(h:Heap)(K:KTy):Prop:=nwM (some x0.cells) qaUZ h fun a b=>ov (ldV (some (some 7)) a b) fun c=>callM P qhNZ #[c] b fun d e=>qlpZ d K e a x0 c
variable {K:KTy}
theorem qmXZ {x0:Value}{h:Heap}(hd:qkzZ x0 h K):callM P qibZ #[x0] h K :=
 call_of good mixed (fn:=Tryz.f28) (args:=[x0]) Tryz.func28 rfl (by kernel_rfl) (of_decide_eq_true rfl) (B:=qkzZ x0 h K) (by kernel_rfl) hd
def qfvZ (x0 x1:Value)(h:Heap)(K:KTy):Prop:=ov (ncV x0) fun a=>ov (faV (some 0) a) fun b=>ov (faV (some 0) b) fun c=>ov (ldV (some none) c h) fun d=>callM P qhOZ #[x1,d] h fun e f=>K e f
theorem qlqZ {x0 x1:Value}{h:Heap}(hd:qfvZ x0 x1 h K):callM P qePZ #[x0,x1] h K :=
 call_of good mixed (fn:=Tryz.f43) (args:=[x0,x1]) Tryz.func43 rfl (by kernel_rfl) (of_decide_eq_true rfl) (B:=qfvZ x0 x1 h K) (by kernel_rfl) hd
def qfXZ (a:Env)(b:Post)(m:List Nat)(c d e f g h:Value)(i:Heap):Prop:=ov (binV BinOp.add 2 true (a 4) (Value.int IntKind.i64 1)) fun j=>b .normal m (puts a [(19,(a 4)),(20,c),(21,c),(22,d),(23,e),(24,f),(25,g),(26,(a 3)),(27,(a 1)),(28,(a 4)),(29,h),(30,(a 4)),(31,j),(4,j)]) i
def qfYZ (a:Env)(b:Heap)(c:Post)(m:List Nat)(d e f g h:Value):Prop:=callM P qaXZ #[(a 3),(a 1),(a 4)] b fun i j=>qfXZ a c m d e f g h i j
def qfZZ (a:Env)(b:Heap)(c:Post)(m:List Nat):Prop:=ov (binV BinOp.lss 2 true (a 4) (Value.int IntKind.i64 9)) fun d=>gM (isB d true) (fun e=>e (a 3) b) b fun f g=>gM (isB d true) (fun h=>callM P qAZ #[f] g fun i j=>h i j) g fun k l=>gM (isB d true) (fun n=>ov (unV UnOp.not k) fun o=>n o l) l fun p q=>ov (pkV d p (Value.bool false)) fun r=>cdM r (qfYZ a q c m d f k p r) (c (.exit 0) m (puts a [(19,(a 4)),(20,d),(21,d),(22,f),(23,k),(24,p),(25,r)]) q)
def qgaZ (a b c d e f g h i j:Value)(k:Heap)(l:Post):Prop:=loopM (fun m n o p=>qfZZ n o p m) [] (puts (envOf []) [(0,(Value.bool false)),(6,a),(7,b),(5,b),(8,c),(9,d),(1,c),(2,d),(10,d),(11,e),(12,e),(13,f),(14,g),(15,h),(16,c),(17,i),(18,j),(3,j),(4,(Value.int IntKind.i64 0))]) k (blkM 0 l)
def qgbZ (a:Env)(b:Heap)(K:KTy)(m:List Nat):Prop:=ov (binV BinOp.eql 2 true (a 4) (Value.int IntKind.i64 7)) fun c=>gM (isB c true) (fun d=>d (a 3) b) b fun e f=>gM (isB c true) (fun g=>callM P qdeZ #[e] f fun h i=>g h i) f fun j k=>gM (isB c true) (fun l=>ov (binV BinOp.eql 2 true j (Value.int IntKind.i64 2)) fun n=>l n k) k fun o p=>ov (pkV c o (Value.bool false)) fun q=>gM (isB q true) (fun r=>r (a 3) p) p fun s t=>gM (isB q true) (fun u=>callM P qAZ #[s] t fun v w=>u v w) t fun x y=>ov (pkV q x (Value.bool false)) fun z=>gM (isB z true) (fun aa=>aa (a 1) y) y fun ab ac=>gM (isB z true) (fun ad=>callM P qeRZ #[ab] ac fun ae af=>ad ae af) ac fun ag ah=>gM (isB z true) (fun ai=>ov (binV BinOp.eql 2 true ag (Value.int IntKind.i64 1)) fun aj=>ai aj ah) ah fun ak al=>ov (pkV z ak (Value.bool false)) fun am=>(retM P [.tmp 0] K) .ret m (puts a [(32,(a 4)),(33,c),(34,c),(35,e),(36,j),(37,o),(38,q),(39,q),(40,s),(41,x),(42,z),(43,z),(44,ab),(45,ag),(46,ak),(47,am),(0,am)]) al
def qgcZ (a b c d e f g h i j:Value)(k:Heap)(K:KTy):Prop:=seqM (fun l=>qgaZ a b c d e f g h i j k l) (fun m n o=>qgbZ n o K m) (retM P [.tmp 0] K)
def qgdZ (a:Value)(b:Heap)(c d e f g h i:Value)(K:KTy):Prop:=ov (bdV (binf P qeyZ) [(0,(Value.int IntKind.i64 1)),(1,(Value.string { data:=#[97,110,110] })),(3,(Value.int IntKind.i64 1)),(5,(Value.int IntKind.u64 5))]) fun j=>callM P qgCZ #[a,(Value.int IntKind.i64 0),j] b fun k l=>qgcZ c d a e f g h i j k l K
def qgeZ (a:Value)(b:Heap)(K:KTy)(c:Value):Prop:=ov (exV a 0) fun d=>ov (exV a 1) fun e=>ov (binV BinOp.neq 2 true e (Value.int IntKind.i64 0)) fun f=>gM (isB f false) (fun g=>g d b) b fun h i=>gM (isB f false) (fun j=>ov (binV BinOp.eql 4 true h (Value.pointer none)) fun k=>j k i) i fun l m=>ov (pkV f (Value.bool true) l) fun n=>cdM n (K (Value.bool false) m) (qgdZ d m c a e f h l n K)
def qgfZ (a:Value)(b:Heap)(K:KTy):Prop:=callM P qibZ #[a] b fun c d=>qgeZ c d K a
def qeFZ (h:Heap)(K:KTy):Prop:=callM P qcLZ #[] h fun a b=>qgfZ a b K
theorem qkAZ {h:Heap}(hd:qeFZ h K):callM P qeqZ #[] h K :=
 call_of good mixed (fn:=Tryz.f46) (args:=[]) Tryz.func46 rfl (by kernel_rfl) (of_decide_eq_true rfl) (B:=qeFZ h K) (by kernel_rfl) hd
def qkIZ (a b:Value)(c:Heap)(d:Post)(x0 e f g h i:Value):Prop:=ov (unV UnOp.not a) fun j=>gM (isB j false) (fun k=>ov (faV (some 2) b) fun l=>k l c) c fun m n=>gM (isB j false) (fun o=>ov (ldV (some none) m n) fun p=>o p n) n fun q r=>gM (isB j false) (fun s=>ov (faV (some 3) b) fun t=>s t r) r fun u v=>gM (isB j false) (fun w=>ov (ldV (some none) u v) fun x=>w x v) v fun y z=>gM (isB j false) (fun aa=>ov (faV (some 4) b) fun ab=>aa ab z) z fun ac ad=>gM (isB j false) (fun ae=>ov (ldV (some none) ac ad) fun af=>ae af ad) ad fun ag ah=>gM (isB j false) (fun ai=>callM P qixZ #[q,y,ag] ah fun aj ak=>ai aj ak) ah fun al am=>gM (isB j false) (fun an=>ov (unV UnOp.not al) fun ao=>an ao am) am fun ap aq=>ov (pkV j (Value.bool true) ap) fun ar=>d .ret [] (puts (envOf [x0]) [(1,b),(2,(Value.bool false)),(5,e),(6,f),(8,g),(7,g),(9,h),(10,i),(11,a),(12,j),(13,j),(14,m),(15,q),(16,u),(17,y),(18,ac),(19,ag),(20,al),(21,ap),(22,ar),(2,ar)]) aq
def qkJZ (a:Value)(b:Heap)(c:Post)(x0 d e f:Value):Prop:=ov (faV (some 1) a) fun g=>ov (ldV (some none) g b) fun h=>callM P qdIZ #[h] b fun i j=>qkIZ i a j c x0 d e f g h
def qkKZ (a:Value)(b:Post)(x0 c d e f:Value)(g:Heap):Prop:=ov (binV BinOp.eql 2 true a (Value.int IntKind.i64 3)) fun h=>b .normal [] (puts (envOf [x0]) [(1,c),(2,(Value.bool false)),(5,d),(6,a),(8,e),(7,e),(24,f),(23,f),(25,h),(23,h)]) g
def qkLZ (a:Value)(b:Post)(x0 c d e:Value)(f:Heap):Prop:=ov (binV BinOp.eql 2 true a (Value.int IntKind.i64 2)) fun g=>cdM g (b .normal [] (puts (envOf [x0]) [(1,c),(2,(Value.bool false)),(5,d),(6,a),(8,e),(7,e),(24,g),(23,g)]) f) (qkKZ a b x0 c d e g f)
def qkMZ (a:Value)(b:Env)(c:Heap)(d:Post)(m:List Nat)(e f:Value):Prop:=ov (unV UnOp.not a) fun g=>gM (isB g false) (fun h=>ov (faV (some 2) (b 1)) fun i=>h i c) c fun j k=>gM (isB g false) (fun l=>ov (ldV (some none) j k) fun n=>l n k) k fun o p=>gM (isB g false) (fun q=>callM P qagZ #[o,(Value.int IntKind.i64 0),(Value.int IntKind.i64 255)] p fun r s=>q r s) p fun t u=>gM (isB g false) (fun v=>ov (unV UnOp.not t) fun w=>v w u) u fun x y=>ov (pkV g (Value.bool true) x) fun z=>d .ret m (puts b [(26,e),(27,f),(28,a),(29,g),(30,g),(31,j),(32,o),(33,t),(34,x),(35,z),(2,z)]) y
def qkNZ (a:Env)(b:Heap)(c:Post)(m:List Nat):Prop:=ov (faV (some 1) (a 1)) fun d=>ov (ldV (some none) d b) fun e=>callM P qdIZ #[e] b fun f g=>qkMZ f a g c m d e
def qjOZ (a:Env)(b:Post)(m:List Nat)(c d:Value)(e:Heap):Prop:=ov (binV BinOp.eql 2 true (a 6) (Value.int IntKind.i64 7)) fun f=>b .normal m (puts a [(37,c),(36,c),(38,d),(36,d),(39,f),(36,f)]) e
def qjPZ (a:Env)(b:Post)(m:List Nat)(c:Value)(d:Heap):Prop:=ov (binV BinOp.eql 2 true (a 6) (Value.int IntKind.i64 6)) fun e=>cdM e (b .normal m (puts a [(37,c),(36,c),(38,e),(36,e)]) d) (qjOZ a b m c e d)
def qjQZ (a:Env)(b:Post)(m:List Nat)(c:Heap):Prop:=ov (binV BinOp.eql 2 true (a 6) (Value.int IntKind.i64 4)) fun d=>cdM d (b .normal m (puts a [(37,d),(36,d)]) c) (qjPZ a b m d c)
def qjRZ (a:Env)(b:Heap)(c:Post)(m:List Nat):Prop:=ov (faV (some 1) (a 1)) fun d=>ov (ldV (some none) d b) fun e=>callM P qdIZ #[e] b fun f g=>ov (unV UnOp.not f) fun h=>c .ret m (puts a [(40,d),(41,e),(42,f),(43,h),(2,h)]) g
def qjSZ (a:Env)(b:Post)(m:List Nat)(c d e f g:Value)(h:Heap):Prop:=ov (binV BinOp.add 2 true (a 49) (Value.int IntKind.i64 1)) fun i=>b .normal m (puts a [(50,c),(51,d),(52,e),(4,e),(53,e),(54,f),(55,g),(56,i),(49,i)]) h
def qjTZ (a:Value)(b:Post)(m:List Nat)(c:Env)(d e f:Value)(g:Heap):Prop:=ov (unV UnOp.not a) fun h=>cdM h (b .ret m (puts c [(50,d),(51,e),(52,f),(4,f),(53,f),(54,a),(55,h),(2,(Value.bool true))]) g) (qjSZ c b m d e f a h g)
def qjUZ (a:Env)(b:Heap)(c:Post)(m:List Nat)(d:Value):Prop:=ov (iaV (some (none,1)) (a 47) (a 49)) fun e=>ov (ldV (some none) e b) fun f=>callM P qdIZ #[f] b fun g h=>qjTZ g c m a d e f h
def qjVZ (a:Env)(b:Heap)(c:Post)(m:List Nat):Prop:=ov (binV BinOp.lss 2 false (a 49) (a 48)) fun d=>cdM d (qjUZ a b c m d) (c (.exit 1) m (puts a [(50,d)]) b)
def qjWZ (a:Env)(b:Heap)(m:List Nat)(c:Value)(d:Post):Prop:=ov (faV (some 6) (a 1)) fun e=>ov (ldV (some none) e b) fun f=>ov (lnV 7 f) fun g=>loopM (fun m h i j=>qjVZ h i j m) m (puts a [(45,c),(44,c),(46,e),(47,f),(48,g),(49,(Value.int IntKind.i64 0))]) b (blkM 1 d)
def qjXZ (a:Env)(b:Heap)(c:Post)(m:List Nat):Prop:=ov (faV (some 6) (a 1)) fun d=>ov (ldV (some none) d b) fun e=>ov (lnV 7 e) fun f=>callM P qagZ #[f,(Value.int IntKind.i64 1),(Value.int IntKind.i64 8)] b fun g h=>ov (unV UnOp.not g) fun i=>c .ret m (puts a [(57,d),(58,e),(59,f),(60,g),(61,i),(2,i)]) h
def qjYZ (a:Env)(b:Heap)(m:List Nat)(c:Value)(d:Post):Prop:=seqM (fun e=>qjWZ a b m c e) (fun m f g=>qjXZ f g d m) (blkM 0 d)
def qjZZ (a:Env)(b:Post)(m:List Nat)(c d:Value)(e:Heap):Prop:=ov (binV BinOp.eql 2 true (a 6) (Value.int IntKind.i64 9)) fun f=>b .normal m (puts a [(45,c),(44,c),(63,d),(62,d),(64,f),(62,f)]) e
def qkaZ (a:Env)(b:Post)(m:List Nat)(c:Value)(d:Heap):Prop:=ov (binV BinOp.eql 2 true (a 6) (Value.int IntKind.i64 8)) fun e=>cdM e (b .normal m (puts a [(45,c),(44,c),(63,e),(62,e)]) d) (qjZZ a b m c e d)
def qkbZ (a:Env)(m:List Nat)(b:Value)(c:Heap)(d:Post):Prop:=seqM (fun e=>qkaZ a e m b c) (fun m f g=>cdM (f 62) (d .ret m (puts f [(2,(Value.bool false))]) g) (d .normal m f g)) (blkM 0 d)
def qkcZ (a:Env)(b:Heap)(m:List Nat)(c:Post):Prop:=ov (binV BinOp.eql 2 true (a 6) (Value.int IntKind.i64 5)) fun d=>cdM d (qjYZ a b m d c) (qkbZ a m d b c)
def qhSZ (a:Env)(b:Heap)(c:Post)(m:List Nat):Prop:=cdM (a 36) (qjRZ a b c m) (qkcZ a b m c)
def qkdZ (a:Env)(m:List Nat)(b:Heap)(c:Post):Prop:=seqM (fun d=>qjQZ a d m b) (fun m e f=>qhSZ e f c m) (blkM 0 c)
def qizZ (a:Env)(b:Heap)(c:Post)(m:List Nat):Prop:=cdM (a 23) (qkNZ a b c m) (qkdZ a m b c)
def qkOZ (a x0 b c d:Value)(e:Heap)(f:Post):Prop:=seqM (fun g=>qkLZ a g x0 b c d e) (fun m h i=>qizZ h i f m) (blkM 0 f)
def qkPZ (a:Value)(b:Heap)(c:Post)(x0:Value):Prop:=ov (faV (some 0) a) fun d=>ov (ldV (some none) d b) fun e=>ov (binV BinOp.eql 2 true e (Value.int IntKind.i64 1)) fun f=>cdM f (qkJZ a b c x0 d e f) (qkOZ e x0 a d f b c)
def qjGZ (x0:Value)(h:Heap)(K:KTy):Prop:=nwM (some x0.cells) qeyZ h fun a b=>seqM (fun c=>qkPZ a b c x0) (fun m d e=>(retM P [.tmp 2] K) .ret m (puts d [(2,(Value.bool true))]) e) (retM P [.tmp 2] K)
theorem qmPZ {x0:Value}{h:Heap}(hd:qjGZ x0 h K):callM P qiSZ #[x0] h K :=
 call_of good mixed (fn:=Tryz.f49) (args:=[x0]) Tryz.func49 rfl (by kernel_rfl) (of_decide_eq_true rfl) (B:=qjGZ x0 h K) (by kernel_rfl) hd
def qeGZ (h:Heap)(K:KTy):Prop:=nwM (zc P qaUZ) qaUZ h fun a b=>ov (bdV (binf P qaUZ) [(0,(Value.int IntKind.i64 3)),(1,(Value.int IntKind.i64 2)),(2,(Value.int IntKind.i64 16)),(3,(Value.int IntKind.i64 4)),(4,(Value.int IntKind.i64 1)),(5,(Value.int IntKind.u64 100))]) fun c=>stM (some 7) a c b fun d=>ov (ldV (some (some 7)) a d) fun e=>K e d
theorem qkBZ {h:Heap}(hd:qeGZ h K):callM P qcLZ #[] h K :=
 call_of good mixed (fn:=Tryz.f50) (args:=[]) Tryz.func50 rfl (by kernel_rfl) (of_decide_eq_true rfl) (B:=qeGZ h K) (by kernel_rfl) hd
def qkQZ (a:Value)(b:Heap)(c:Post)(x0 x1 x2 d e f g h i j k l m n:Value):Prop:=ov (ncV a) fun o=>ov (faV (some 2) o) fun p=>stM (some 1) p (Value.nilFunc) b fun q=>c .normal [] (puts (envOf [x0,x1,x2]) [(4,d),(5,e),(6,(Value.pointer none)),(9,x0),(10,f),(11,g),(12,h),(7,i),(13,j),(14,k),(15,l),(16,a),(8,a),(17,m),(18,n),(19,a),(20,o),(21,p)]) q
def qkRZ (a:Post)(x0 x1 x2 b c d e f g h i j k l m:Value)(n:Heap):Prop:=a .normal [] (puts (envOf [x0,x1,x2]) [(4,b),(5,c),(6,(Value.pointer none)),(9,x0),(10,d),(11,e),(12,f),(7,g),(13,h),(14,i),(15,j),(16,k),(8,k),(17,l),(18,m)]) n
def qkSZ (a b:Value)(c:Heap)(d:Post)(x0 x1 x2 e f g h i j k l m n:Value):Prop:=cdM a (qkQZ b c d x0 x1 x2 e f g h i j k l m n a) (qkRZ d x0 x1 x2 e f g h i j k l m b n a c)
def qkTZ (a:Value)(b:Heap)(c:Value)(d:Post)(x0 x1 x2 e f g h i j k l:Value):Prop:=ov (ldV (some (some 7)) a b) fun m=>callM P qiSZ #[m] b fun n o=>qkSZ n c o d x0 x1 x2 e a f g h i j k l m
def qkUZ (a:Value)(b:Heap)(c x0 x1 x2 d e f g h i j k:Value)(K:KTy):Prop:=seqM (fun l=>qkTZ a b c l x0 x1 x2 d e f g h i j k) (fun m n o=>(retM P [.tmp 6] K) .ret m (puts n [(22,(n 8)),(6,(n 8))]) o) (retM P [.tmp 6] K)
def qkVZ (a:Heap)(b c d x0 x1 x2 e f:Value)(K:KTy):Prop:=nwM (zc P qiZ) qiZ a fun g h=>stM (some 1) g b h fun i=>ov (ldV (some none) c i) fun j=>ov (ldV (some none) g i) fun k=>ov ((some (.func (Fn.func qdKZ) #[] #[c,g,d]):Option Value)) fun l=>callM P qeAZ #[j,k,l] i fun m n=>qkUZ d n m x0 x1 x2 c e f b g j k l K
def qjHZ (x0 x1 x2:Value)(h:Heap)(K:KTy):Prop:=nwM (some x1.cells) qiZ h fun a b=>nwM (some x2.cells) qeyZ b fun c d=>ov (faV (some 1) c) fun e=>ov (ldV (some none) e d) fun f=>callM P qePZ #[x0,f] d fun g i=>qkVZ i g a c x0 x1 x2 e f K
theorem qmQZ {x0 x1 x2:Value}{h:Heap}(hd:qjHZ x0 x1 x2 h K):callM P qgCZ #[x0,x1,x2] h K :=
 call_of good mixed (fn:=Tryz.f51) (args:=[x0,x1,x2]) Tryz.func51 rfl (by kernel_rfl) (of_decide_eq_true rfl) (B:=qjHZ x0 x1 x2 h K) (by kernel_rfl) hd
def qhjZ (a x0 b:Value)(c:Heap)(x2:Value)(K:KTy):Prop:=ov (lnV 7 a) fun d=>ov (ncV x0) fun e=>ov (faV (some 8) e) fun f=>stM (some 4) f b c fun g=>ov (ncV x0) fun h=>ov (faV (some 7) h) fun i=>stM (some 1) i x2 g fun j=>ov (ncV x0) fun k=>ov (faV (some 3) k) fun l=>stM (some 1) l d j fun m=>K (.tuple #[]) m
def qhkZ (a:Heap)(x0 x2:Value)(K:KTy):Prop:=ov (bdV (binf P qvZ) [(0,(Value.int IntKind.i64 1))]) fun b=>callM P qesZ #[] a fun c d=>qhjZ c x0 b d x2 K
def qeVZ (x0 x2:Value)(a:Heap)(b:Post)(x1 c d e f g h i j k l:Value):Prop:=ov (ncV x0) fun m=>ov (faV (some 7) m) fun n=>stM (some 1) n x2 a fun o=>b .normal [] (puts (envOf [x0,x1,x2]) [(6,x0),(7,x1),(8,c),(9,d),(10,x0),(11,e),(12,f),(13,g),(14,h),(28,x0),(29,i),(30,j),(31,k),(32,l),(33,x0),(34,x2),(35,m),(36,n)]) o
def qeWZ (a:Post)(x0 x1 x2 b c d e f g h i j k:Value)(l:Heap):Prop:=a .normal [] (puts (envOf [x0,x1,x2]) [(6,x0),(7,x1),(8,b),(9,c),(10,x0),(11,d),(12,e),(13,f),(14,g),(28,x0),(29,h),(30,i),(31,j),(32,k)]) l
def qeXZ (x0:Value)(a:Heap)(x2:Value)(b:Post)(x1 c d e f g h:Value):Prop:=ov (ncV x0) fun i=>ov (faV (some 3) i) fun j=>ov (ldV (some none) j a) fun k=>ov (binV BinOp.eql 2 true k (Value.int IntKind.i64 2)) fun l=>cdM l (qeVZ x0 x2 a b x1 c d e f g h i j k l) (qeWZ b x0 x1 x2 c d e f g h i j k l a)
def qeHZ (a:Env)(b:Heap)(K:KTy)(m:List Nat)(c d e f g h i:Value):Prop:=ov (ncV (a 0)) fun j=>ov (faV (some 3) j) fun k=>ov (ldV (some none) k b) fun l=>ov (binV BinOp.add 2 true l (Value.int IntKind.i64 1)) fun n=>ov (ncV (a 0)) fun o=>ov (faV (some 3) o) fun p=>stM (some 1) p n b fun q=>(retM P [] K) .normal m (puts a [(38,(a 0)),(39,c),(40,d),(41,e),(44,(a 0)),(45,(a 1)),(37,f),(42,g),(43,h),(46,i),(47,(a 0)),(48,j),(49,k),(50,l),(51,n),(52,o),(53,p)]) q
def qeIZ (a:Value)(b:Heap)(c e:Value)(f:Env)(K:KTy)(m:List Nat)(g:Value):Prop:=ldV (some none) a b=some c∧ov (iaV (some (none,1)) e c) fun h=>ov (ldV (some none) h b) fun i=>nxM P (do let d ← Deferred.ofValue i #[(f 0),(f 1)] ; invoke d.target d.args) b fun j k=>qeHZ f k K m g a c e h i j
def qbQZ (a:Env)(b:Heap)(K:KTy)(m:List Nat):Prop:=ov (ncV (a 0)) fun c=>ov (faV (some 3) c) fun d=>ov (ldV (some none) d b) fun e=>callM P qesZ #[] b fun f g=>qeIZ d g e f a K m c
def qeYZ (x0:Value)(a:Heap)(x2 x1 b c d e f g:Value)(K:KTy):Prop:=seqM (fun h=>qeXZ x0 a x2 h x1 b c d e f g) (fun m i j=>qbQZ i j K m) (retM P [] K)
def qeZZ (x0:Value)(a:Heap)(x2:Value)(K:KTy)(x1 b c:Value):Prop:=ov (ncV x0) fun d=>ov (faV (some 2) d) fun e=>ov (ldV (some none) e a) fun f=>ov (binV BinOp.eql 6 true f (Value.nilFunc)) fun g=>cdM g (qhkZ a x0 x2 K) (qeYZ x0 a x2 x1 b c d e f g K)
def qfaZ (a:Value)(K:KTy)(b:Heap)(x0 x2 x1:Value):Prop:=ov (unV UnOp.not a) fun c=>cdM c (K (.tuple #[]) b) (qeZZ x0 b x2 K x1 a c)
def qemZ (x0 x1 x2:Value)(h:Heap)(K:KTy):Prop:=callM P qcMZ #[x0,x1] h fun a b=>qfaZ a K b x0 x2 x1
theorem qiHZ {x0 x1 x2:Value}{h:Heap}(hd:qemZ x0 x1 x2 h K):callM P qaXZ #[x0,x1,x2] h K :=
 call_of good mixed (fn:=Tryz.f52) (args:=[x0,x1,x2]) Tryz.func52 rfl (by kernel_rfl) (of_decide_eq_true rfl) (B:=qemZ x0 x1 x2 h K) (by kernel_rfl) hd
def qenZ (x0:Value)(h:Heap)(K:KTy):Prop:=ov (ncV x0) fun a=>ov (faV (some 3) a) fun b=>ov (ldV (some none) b h) fun c=>callM P qesZ #[] h fun d e=>ldV (some none) b e=some c∧ov (lnV 7 d) fun f=>ov (binV BinOp.geq 2 false c f) fun g=>K g e
theorem qiIZ {x0:Value}{h:Heap}(hd:qenZ x0 h K):callM P qAZ #[x0] h K :=
 call_of good mixed (fn:=Tryz.f53) (args:=[x0]) Tryz.func53 rfl (by kernel_rfl) (of_decide_eq_true rfl) (B:=qenZ x0 h K) (by kernel_rfl) hd
def qdpZ (x0:Value)(h:Heap)(K:KTy):Prop:=ov (ncV x0) fun a=>ov (faV (some 7) a) fun b=>ov (ldV (some none) b h) fun c=>K c h
theorem qhlZ {x0:Value}{h:Heap}(hd:qdpZ x0 h K):callM P qdeZ #[x0] h K :=
 call_of good mixed (fn:=Tryz.f54) (args:=[x0]) Tryz.func54 rfl (by kernel_rfl) (of_decide_eq_true rfl) (B:=qdpZ x0 h K) (by kernel_rfl) hd
def qejZ (a x0:Value)(b:Heap)(x1:Value)(K:KTy):Prop:=ov (unV UnOp.not a) fun c=>gM (isB c true) (fun d=>d x0 b) b fun e f=>gM (isB c true) (fun g=>callM P qeQZ #[e] f fun h i=>g h i) f fun j k=>gM (isB c true) (fun l=>ov (binV BinOp.lss 2 true j (Value.int IntKind.i64 0)) fun m=>l m k) k fun n o=>gM (isB c true) (fun p=>p n o) o fun q r=>gM (isB q false) (fun s=>s x1 r) r fun t u=>gM (isB q false) (fun v=>v x0 u) u fun w x=>gM (isB q false) (fun y=>ov (ncV w) fun z=>y z x) x fun aa ab=>gM (isB q false) (fun ac=>ov (faV (some 1) aa) fun ad=>ac ad ab) ab fun ae af=>gM (isB q false) (fun ag=>ov (ldV (some none) ae af) fun ah=>ag ah af) af fun ai aj=>gM (isB q false) (fun ak=>callM P qcZZ #[t,ai] aj fun al am=>ak al am) aj fun an ao=>gM (isB c true) (fun ap=>ov (pkV q (Value.bool true) an) fun aq=>ap aq ao) ao fun ar au=>ov (pkV c ar (Value.bool false)) fun av=>K av au
def qdfZ (x0 x1:Value)(h:Heap)(K:KTy):Prop:=callM P qAZ #[x0] h fun a b=>qejZ a x0 b x1 K
theorem qgFZ {x0 x1:Value}{h:Heap}(hd:qdfZ x0 x1 h K):callM P qcMZ #[x0,x1] h K :=
 call_of good mixed (fn:=Tryz.f55) (args:=[x0,x1]) Tryz.func55 rfl (by kernel_rfl) (of_decide_eq_true rfl) (B:=qdfZ x0 x1 h K) (by kernel_rfl) hd
def qdOZ (x0:Value)(h:Heap)(K:KTy):Prop:=ov (ncV x0) fun a=>ov (faV (some 2) a) fun b=>ov (ldV (some none) b h) fun c=>ov (binV BinOp.eql 6 true c (Value.nilFunc)) fun d=>gM (isB d false) (fun e=>e x0 h) h fun f g=>gM (isB d false) (fun i=>ov (ncV f) fun j=>i j g) g fun k l=>gM (isB d false) (fun m=>ov (faV (some 3) k) fun n=>m n l) l fun o p=>gM (isB d false) (fun q=>ov (ldV (some none) o p) fun r=>q r p) p fun s t=>gM (isB d false) (fun u=>ov (binV BinOp.gtr 2 true s (Value.int IntKind.i64 0)) fun v=>u v t) t fun w x=>ov (pkV d (Value.bool true) w) fun y=>cdM y (K (Value.int IntKind.i64 (-1)) x) (ov (ncV x0) fun z=>ov (faV (some 1) z) fun aa=>ov (ldV (some none) aa x) fun ab=>K ab x)
theorem qidZ {x0:Value}{h:Heap}(hd:qdOZ x0 h K):callM P qeQZ #[x0] h K :=
 call_of good mixed (fn:=Tryz.f56) (args:=[x0]) Tryz.func56 rfl (by kernel_rfl) (of_decide_eq_true rfl) (B:=qdOZ x0 h K) (by kernel_rfl) hd
end Go.Proofs.YtcnphhhcknhhaaaGreat
namespace Go.Proofs.YtcnphhhcknhhaaaGreat
open Go Go.Den
set_option maxRecDepth 100000
set_option linter.unusedVariables false
def qgGZ (x0 x1 x2:Value)(h:Heap)(K:KTy):Prop:=ov (bdV (binf P qyZ) [(0,x0),(1,x1),(2,x2),(5,(Value.int IntKind.i64 (-1)))]) fun a=>nwM (some a.cells) qyZ h fun b c=>K b c
variable {K:KTy}
theorem qmjZ {x0 x1 x2:Value}{h:Heap}(hd:qgGZ x0 x1 x2 h K):callM P qeAZ #[x0,x1,x2] h K :=
 call_of good mixed (fn:=Tryz.f67) (args:=[x0,x1,x2]) Tryz.func67 rfl (by kernel_rfl) (of_decide_eq_true rfl) (B:=qgGZ x0 x1 x2 h K) (by kernel_rfl) hd
def qaZZ (x0 x1 x2 x3 x4:Value)(h:Heap)(K:KTy):Prop:=nwM (some x1.cells) qsZ h fun a b=>nwM (zc P qvZ) qvZ b fun c d=>ov (ldV (some none) x2 d) fun e=>ov (binV BinOp.add 2 true e (Value.int IntKind.i64 1)) fun f=>stM (some 1) x2 f d fun g=>ov (ldV (some (some 3)) a g) fun i=>stM (some 3) x3 i g fun j=>ov (ldV (some none) x4 j) fun k=>ov (cvV (some .i64) k) fun l=>ov (bdV (binf P qvZ) [(0,l)]) fun m=>stM (some 4) c m j fun n=>ov (ldV (some (some 4)) c n) fun o=>K o n
theorem qgBZ {x0 x1 x2 x3 x4:Value}{h:Heap}(hd:qaZZ x0 x1 x2 x3 x4 h K):callM P qpZ #[x0,x1,x2,x3,x4] h K :=
 call_of good mixed (fn:=Tryz.f68) (args:=[x0,x1,x2,x3,x4]) Tryz.func68 rfl (by kernel_rfl) (of_decide_eq_true rfl) (B:=qaZZ x0 x1 x2 x3 x4 h K) (by kernel_rfl) hd
def qgHZ (x0:Value)(a:Heap)(b:Value)(K:KTy):Prop:=ov (ncV x0) fun c=>ov (faV (some 8) c) fun d=>ov (ldV (some (some 4)) d a) fun e=>stM (some 4) b e a fun f=>ov (ldV (some (some 4)) b f) fun g=>K g f
def qgIZ (a b:Value)(c:Heap)(K:KTy)(x0:Value):Prop:=ov (unV UnOp.not a) fun d=>cdM d (ov (bdV (binf P qvZ) []) fun e=>stM (some 4) b e c fun f=>ov (ldV (some (some 4)) b f) fun g=>K g f) (qgHZ x0 c b K)
def qfwZ (x0:Value)(h:Heap)(K:KTy):Prop:=nwM (zc P qvZ) qvZ h fun a b=>callM P qAZ #[x0] b fun c d=>qgIZ c a d K x0
theorem qlrZ {x0:Value}{h:Heap}(hd:qfwZ x0 h K):callM P qdnZ #[x0] h K :=
 call_of good mixed (fn:=Tryz.f69) (args:=[x0]) Tryz.func69 rfl (by kernel_rfl) (of_decide_eq_true rfl) (B:=qfwZ x0 h K) (by kernel_rfl) hd
def qgqZ (x0 x1:Value)(h:Heap)(K:KTy):Prop:=ov (ncV x0) fun a=>ov (faV (some 10) a) fun b=>ov (ldV (some none) b h) fun c=>ov (iaV (some (none,8)) c x1) fun d=>ov (faV (some 0) d) fun e=>ov (ldV (some (some 1)) e h) fun f=>callM P qbPZ #[f] h fun g i=>K g i
theorem qmdZ {x0 x1:Value}{h:Heap}(hd:qgqZ x0 x1 h K):callM P qcZZ #[x0,x1] h K :=
 call_of good mixed (fn:=Tryz.f70) (args:=[x0,x1]) Tryz.func70 rfl (by kernel_rfl) (of_decide_eq_true rfl) (B:=qgqZ x0 x1 h K) (by kernel_rfl) hd
def qhmZ (a b:Value)(c:Heap)(K:KTy):Prop:=ov (unV UnOp.not a) fun d=>gM (isB d true) (fun e=>ov (faV (some 3) b) fun f=>e f c) c fun g h=>gM (isB d true) (fun i=>ov (ldV (some (some 2)) g h) fun j=>i j h) h fun k l=>gM (isB d true) (fun m=>ov (faV (some 5) b) fun n=>m n l) l fun o p=>gM (isB d true) (fun q=>ov (ldV (some (some 2)) o p) fun r=>q r p) p fun s t=>gM (isB d true) (fun u=>callM P qdjZ #[k,s] t fun v w=>u v w) t fun x y=>ov (pkV d x (Value.bool false)) fun z=>K z y
def qfNZ (x0 x1:Value)(h:Heap)(K:KTy):Prop:=ov (ncV x0) fun a=>ov (faV (some 10) a) fun b=>ov (ldV (some none) b h) fun c=>ov (iaV (some (none,8)) c x1) fun d=>ov (ldV (some (some 8)) d h) fun e=>nwM (zc P qxZ) qxZ h fun f g=>stM (some 8) f e g fun i=>ov (faV (some 1) f) fun j=>ov (ldV (some (some 2)) j i) fun k=>callM P qblZ #[k] i fun l m=>qhmZ l f m K
theorem qlPZ {x0 x1:Value}{h:Heap}(hd:qfNZ x0 x1 h K):callM P qfmZ #[x0,x1] h K :=
 call_of good mixed (fn:=Tryz.f71) (args:=[x0,x1]) Tryz.func71 rfl (by kernel_rfl) (of_decide_eq_true rfl) (B:=qfNZ x0 x1 h K) (by kernel_rfl) hd
def qgJZ (a:Env)(b:Value)(c:Post)(m:List Nat)(d e f g h i:Value)(j:Heap):Prop:=ov (binV BinOp.add 2 false (a 3) b) fun k=>ov (binV BinOp.add 2 true (a 11) (Value.int IntKind.i64 1)) fun l=>c .normal m (puts a [(12,d),(13,e),(14,f),(5,g),(15,(a 3)),(16,h),(17,i),(18,b),(19,k),(3,k),(20,l),(11,l)]) j
def qgKZ (a:Env)(b:Heap)(c:Post)(m:List Nat)(d:Value):Prop:=ov (iaV (some (none,8)) (a 9) (a 11)) fun e=>ov (ldV (some (some 8)) e b) fun f=>nwM (zc P qxZ) qxZ b fun g h=>stM (some 8) g f h fun i=>ov (faV (some 5) g) fun j=>ov (ldV (some (some 2)) j i) fun k=>callM P qbWZ #[k] i fun l n=>qgJZ a l c m d e f g j k n
def qgLZ (a:Env)(b:Heap)(c:Post)(m:List Nat):Prop:=ov (binV BinOp.lss 2 false (a 11) (a 10)) fun d=>cdM d (qgKZ a b c m d) (c (.exit 0) m (puts a [(12,d)]) b)
def qgMZ (x0:Value)(h:Heap)(a:Post):Prop:=ov (ncV x0) fun b=>ov (faV (some 10) b) fun c=>ov (ldV (some none) c h) fun d=>ov (lnV 7 d) fun e=>loopM (fun m f g i=>qgLZ f g i m) [] (puts (envOf [x0]) [(2,(Value.int IntKind.i64 0)),(3,(Value.int IntKind.i64 0)),(6,x0),(7,b),(8,c),(9,d),(10,e),(11,(Value.int IntKind.i64 0))]) h (blkM 0 a)
def qfxZ (x0:Value)(h:Heap)(K:KTy):Prop:=seqM (fun a=>qgMZ x0 h a) (fun m b c=>(retM P [.tmp 2] K) .ret m (puts b [(21,(b 3)),(2,(b 3))]) c) (retM P [.tmp 2] K)
theorem qlsZ {x0:Value}{h:Heap}(hd:qfxZ x0 h K):callM P qeRZ #[x0] h K :=
 call_of good mixed (fn:=Tryz.f81) (args:=[x0]) Tryz.func81 rfl (by kernel_rfl) (of_decide_eq_true rfl) (B:=qfxZ x0 h K) (by kernel_rfl) hd
def qaVZ (x0:Value)(h:Heap)(K:KTy):Prop:=nwM (some x0.cells) qaZ h fun a b=>ov ((some (.func (Fn.func qBZ) #[] #[a]):Option Value)) fun c=>K c b
theorem qgrZ {x0:Value}{h:Heap}(hd:qaVZ x0 h K):callM P qrZ #[x0] h K :=
 call_of good mixed (fn:=Tryz.f93) (args:=[x0]) Tryz.func93 rfl (by kernel_rfl) (of_decide_eq_true rfl) (B:=qaVZ x0 h K) (by kernel_rfl) hd
def qieZ (a x0:Value)(b:Heap)(c:Value)(K:KTy):Prop:=ov (exV a 0) fun d=>ov (exV a 1) fun e=>ov (ncV x0) fun f=>ov (faV (some 7) f) fun g=>stM (some 3) g d b fun h=>ov (ncV x0) fun i=>ov (faV (some 7) i) fun j=>ov (ldV (some (some 3)) j h) fun k=>stM (some 3) c k h fun l=>ov (ldV (some (some 3)) c l) fun m=>K m l
def qifZ (x0:Value)(a:Heap)(b:Value)(K:KTy):Prop:=ov (ncV x0) fun c=>ov (faV (some 7) c) fun d=>ov (ldV (some (some 3)) d a) fun e=>callM P qiTZ #[e] a fun f g=>qieZ f x0 g b K
def qgsZ (x0 x1:Value)(h:Heap)(K:KTy):Prop:=nwM (zc P qsZ) qsZ h fun a b=>callM P qFZ #[x0,x1,(Value.int IntKind.i64 4),(Value.int IntKind.i64 0)] b fun c d=>qifZ x0 d a K
theorem qmeZ {x0 x1:Value}{h:Heap}(hd:qgsZ x0 x1 h K):callM P qfLZ #[x0,x1] h K :=
 call_of good mixed (fn:=Tryz.f102) (args:=[x0,x1]) Tryz.func102 rfl (by kernel_rfl) (of_decide_eq_true rfl) (B:=qgsZ x0 x1 h K) (by kernel_rfl) hd
def qhnZ (a:Value)(b:Heap)(c:Post)(x0 x1 x2 x3 d e f g h i j:Value):Prop:=ov (exV a 0) fun k=>ov (exV a 1) fun l=>nwM (zc P qaZ) qaZ b fun m n=>stM (some 2) m k n fun o=>c .normal [] (puts (envOf [x0,x1,x2,x3]) [(7,d),(11,x0),(12,x1),(13,x2),(14,e),(8,e),(16,e),(17,f),(18,g),(19,h),(20,i),(21,j),(22,a),(15,a),(23,k),(24,l),(9,m),(10,l)]) o
def qhoZ (a b:Value)(c:Heap)(d:Post)(x0 x1 x2 x3 e f g h i:Value):Prop:=callM P qaTZ #[a,b] c fun j k=>qhnZ j k d x0 x1 x2 x3 e f g h a i b
def qhpZ (a:Heap)(b c d e:Value)(f:Post)(x0 x1 x2 x3 g h i:Value):Prop:=nwM (zc P qaZ) qaZ a fun j k=>ldV (some (some 2)) b k=some c∧ldV (some none) d k=some e∧callM P qaTZ #[c,e] k fun l m=>ov (exV l 0) fun n=>ov (exV l 1) fun o=>stM (some 2) j n m fun p=>f .normal [] (puts (envOf [x0,x1,x2,x3]) [(7,g),(11,x0),(12,x1),(13,x2),(14,h),(8,h),(16,h),(17,i),(18,b),(19,c),(20,d),(21,e),(9,j),(22,l),(15,l),(23,n),(24,o),(10,o)]) p
def qhqZ (a:Value)(b:Heap)(c:Value)(d:Post)(x0 x1 x2 x3:Value):Prop:=ov (ncV a) fun e=>ov (faV (some 5) e) fun f=>ov (ldV (some (some 2)) f b) fun g=>ov (faV (some 0) c) fun h=>ov (ldV (some none) h b) fun i=>(qhoZ g i b d x0 x1 x2 x3 c a e f h)∧(qhpZ b f g h i d x0 x1 x2 x3 c a e)
def qhrZ (K:KTy)(m:List Nat)(a:Env)(b c d e f g h i j:Value)(k:Heap):Prop:=(retM P [] K) .normal m (puts a [(25,(a 8)),(26,b),(27,c),(28,d),(29,(a 8)),(30,e),(31,f),(32,g),(33,(a 10)),(34,h),(35,i),(36,j)]) k
def qfbZ (a:Env)(b:Heap)(K:KTy)(m:List Nat):Prop:=ov (ldV (some (some 2)) (a 9) b) fun c=>ov (ncV (a 8)) fun d=>ov (faV (some 5) d) fun e=>stM (some 2) e c b fun f=>ov (ncV (a 8)) fun g=>ov (faV (some 7) g) fun h=>ov (ldV (some none) h f) fun i=>ov (faV (some 1) (a 7)) fun j=>ov (ldV (some none) j f) fun k=>callM P qdaZ #[i,(a 10),k] f fun l n=>qhrZ K m a c d e g h i j k l n
def qhsZ (a:Value)(b:Heap)(c x0 x1 x2 x3:Value)(K:KTy):Prop:=seqM (fun d=>qhqZ a b c d x0 x1 x2 x3) (fun m e f=>qfbZ e f K m) (retM P [] K)
def qfOZ (x0 x1 x2 x3:Value)(h:Heap)(K:KTy):Prop:=nwM (some x3.cells) qsZ h fun a b=>callM P qdLZ #[x0,x1,x2] b fun c d=>qhsZ c d a x0 x1 x2 x3 K
theorem qlQZ {x0 x1 x2 x3:Value}{h:Heap}(hd:qfOZ x0 x1 x2 x3 h K):callM P qfnZ #[x0,x1,x2,x3] h K :=
 call_of good mixed (fn:=Tryz.f103) (args:=[x0,x1,x2,x3]) Tryz.func103 rfl (by kernel_rfl) (of_decide_eq_true rfl) (B:=qfOZ x0 x1 x2 x3 h K) (by kernel_rfl) hd
def qgxZ (x0:Value)(a:Heap)(x2:Value)(K:KTy):Prop:=ov (ncV x0) fun b=>ov (faV (some 10) b) fun c=>ov (ldV (some none) c a) fun d=>ov (ncV x0) fun e=>ov (faV (some 10) e) fun f=>ov (ldV (some none) f a) fun g=>ov (iaV (some (none,8)) g x2) fun h=>ov (faV (some 5) h) fun i=>ov (ldV (some (some 2)) i a) fun j=>ov (iaV (some (none,8)) d x2) fun k=>ov (faV (some 3) k) fun l=>stM (some 2) l j a fun m=>K (.tuple #[]) m
def qgyZ (x0 x1 a:Value)(b:Heap)(x2:Value)(K:KTy):Prop:=callM P qFZ #[x0,x1,(Value.int IntKind.i64 4),a] b fun c d=>qgxZ x0 d x2 K
def qgzZ (x2:Value)(a:Heap)(x0 x1:Value)(K:KTy):Prop:=callM P qaSZ #[x2,(Value.int IntKind.i64 3)] a fun b c=>qgyZ x0 x1 b c x2 K
def qgAZ (x0 x1 a:Value)(b:Heap)(x2:Value)(K:KTy):Prop:=callM P qFZ #[x0,x1,(Value.int IntKind.i64 1),a] b fun c d=>qgzZ x2 d x0 x1 K
def qfcZ (x0 x1 x2:Value)(h:Heap)(K:KTy):Prop:=callM P qaSZ #[x2,(Value.int IntKind.i64 4)] h fun a b=>qgAZ x0 x1 a b x2 K
theorem qlgZ {x0 x1 x2:Value}{h:Heap}(hd:qfcZ x0 x1 x2 h K):callM P qeBZ #[x0,x1,x2] h K :=
 call_of good mixed (fn:=Tryz.f104) (args:=[x0,x1,x2]) Tryz.func104 rfl (by kernel_rfl) (of_decide_eq_true rfl) (B:=qfcZ x0 x1 x2 h K) (by kernel_rfl) hd
def qhtZ (a:Value)(b:Heap)(c:Post)(x0 x1 x2 x3 x4 d e f g h i j k l m n o p q r:Value):Prop:=ov (exV a 0) fun s=>ov (exV a 1) fun t=>ov (exV a 2) fun u=>nwM (zc P qaZ) qaZ b fun v w=>stM (some 2) v s w fun x=>c .normal [] (puts (envOf [x0,x1,x2,x3,x4]) [(8,d),(9,e),(10,(Value.int IntKind.i64 0)),(15,x0),(16,x1),(17,x2),(18,f),(11,f),(19,g),(20,h),(22,f),(23,i),(24,j),(25,k),(26,l),(27,m),(28,n),(29,x0),(30,o),(31,p),(32,q),(33,r),(34,a),(21,a),(35,s),(36,t),(37,u),(12,v),(13,t),(14,u)]) x
def qhuZ (a b c d:Value)(e:Heap)(f:Post)(x0 x1 x2 x3 x4 g h i j k l m n o p q:Value):Prop:=callM P qglZ #[a,b,c,d] e fun r s=>qhtZ r s f x0 x1 x2 x3 x4 g h i j k l m a b n c o p q d
def qhvZ (a:Heap)(b c d e f g h i:Value)(j:Post)(x0 x1 x2 x3 x4 k l m n o p q:Value):Prop:=nwM (zc P qaZ) qaZ a fun r s=>ldV (some (some 2)) b s=some c∧ldV (some (some 7)) d s=some e∧ldV (some none) f s=some g∧ldV (some none) h s=some i∧callM P qglZ #[c,e,g,i] s fun t u=>ov (exV t 0) fun v=>ov (exV t 1) fun w=>ov (exV t 2) fun x=>stM (some 2) r v u fun y=>j .normal [] (puts (envOf [x0,x1,x2,x3,x4]) [(8,d),(9,k),(10,(Value.int IntKind.i64 0)),(15,x0),(16,x1),(17,x2),(18,l),(11,l),(19,m),(20,n),(22,l),(23,o),(24,b),(25,c),(26,e),(27,f),(28,g),(29,x0),(30,p),(31,q),(32,h),(33,i),(12,r),(34,t),(21,t),(35,v),(36,w),(37,x),(13,w),(14,x)]) y
def qhwZ (a:Value)(b:Heap)(c d x0:Value)(e:Post)(x1 x2 x3 x4 f g:Value):Prop:=ov (ncV a) fun h=>ov (faV (some 5) h) fun i=>ov (ldV (some (some 2)) i b) fun j=>ov (ldV (some (some 7)) c b) fun k=>ov (faV (some 0) d) fun l=>ov (ldV (some none) l b) fun m=>ov (ncV x0) fun n=>ov (faV (some 0) n) fun o=>ov (faV (some 1) o) fun p=>ov (ldV (some none) p b) fun q=>(qhuZ j k m q b e x0 x1 x2 x3 x4 c d a f g h i l n o p)∧(qhvZ b i j c k l m p q e x0 x1 x2 x3 x4 d a f g h n o)
def qhxZ (K:KTy)(m:List Nat)(a:Env)(b c d e f g h i j:Value)(k:Heap):Prop:=(retM P [.tmp 10] K) .ret m (puts a [(38,(a 11)),(39,b),(40,c),(41,d),(42,(a 11)),(43,e),(44,f),(45,g),(46,(a 13)),(47,h),(48,i),(49,j),(50,(a 14)),(10,(a 14))]) k
def qfdZ (a:Env)(b:Heap)(K:KTy)(m:List Nat):Prop:=ov (ldV (some (some 2)) (a 12) b) fun c=>ov (ncV (a 11)) fun d=>ov (faV (some 5) d) fun e=>stM (some 2) e c b fun f=>ov (ncV (a 11)) fun g=>ov (faV (some 7) g) fun h=>ov (ldV (some none) h f) fun i=>ov (faV (some 1) (a 9)) fun j=>ov (ldV (some none) j f) fun k=>callM P qdaZ #[i,(a 13),k] f fun l n=>qhxZ K m a c d e g h i j k l n
def qhyZ (a:Value)(b:Heap)(c d x0 x1 x2 x3 x4 e f:Value)(K:KTy):Prop:=seqM (fun g=>qhwZ a b c d x0 g x1 x2 x3 x4 e f) (fun m h i=>qfdZ h i K m) (retM P [.tmp 10] K)
def qhzZ (a:Value)(b:Heap)(K:KTy)(c d x0 x1 x2 x3 x4:Value):Prop:=ov (faV (some 2) a) fun e=>ov (ldV (some none) e b) fun f=>cdM f (K (Value.int IntKind.i64 5) b) (qhyZ c b d a x0 x1 x2 x3 x4 e f K)
def qfPZ (x0 x1 x2 x3 x4:Value)(h:Heap)(K:KTy):Prop:=nwM (some x3.cells) qeyZ h fun a b=>nwM (some x4.cells) qsZ b fun c d=>callM P qdLZ #[x0,x1,x2] d fun e f=>qhzZ c f K e a x0 x1 x2 x3 x4
theorem qlRZ {x0 x1 x2 x3 x4:Value}{h:Heap}(hd:qfPZ x0 x1 x2 x3 x4 h K):callM P qfoZ #[x0,x1,x2,x3,x4] h K :=
 call_of good mixed (fn:=Tryz.f106) (args:=[x0,x1,x2,x3,x4]) Tryz.func106 rfl (by kernel_rfl) (of_decide_eq_true rfl) (B:=qfPZ x0 x1 x2 x3 x4 h K) (by kernel_rfl) hd
end Go.Proofs.YtcnphhhcknhhaaaGreat
namespace Go.Proofs.YtcnphhhcknhhaaaGreat
open Go Go.Den
set_option maxRecDepth 100000
set_option linter.unusedVariables false
def qjkZ (a b:Value)(c:Heap)(K:KTy):Prop:=gM (isB a true) (fun d=>ov (faV (some 1) b) fun e=>d e c) c fun f g=>gM (isB a true) (fun h=>ov (ldV (some none) f g) fun i=>h i g) g fun j k=>gM (isB a true) (fun l=>callM P qagZ #[j,(Value.int IntKind.i64 1),(Value.int IntKind.i64 8)] k fun m n=>l m n) k fun o p=>ov (pkV a o (Value.bool false)) fun q=>gM (isB q true) (fun r=>ov (faV (some 2) b) fun s=>r s p) p fun t u=>gM (isB q true) (fun v=>ov (ldV (some none) t u) fun w=>v w u) u fun x y=>gM (isB q true) (fun z=>callM P qagZ #[x,(Value.int IntKind.i64 1),(Value.int IntKind.i64 16)] y fun aa ab=>z aa ab) y fun ac ad=>ov (pkV q ac (Value.bool false)) fun ae=>gM (isB ae true) (fun af=>ov (faV (some 3) b) fun ag=>af ag ad) ad fun ah ai=>gM (isB ae true) (fun aj=>ov (ldV (some none) ah ai) fun ak=>aj ak ai) ai fun al am=>gM (isB ae true) (fun an=>callM P qagZ #[al,(Value.int IntKind.i64 1),(Value.int IntKind.i64 8)] am fun ao ap=>an ao ap) am fun aq ar=>ov (pkV ae aq (Value.bool false)) fun au=>gM (isB au true) (fun av=>ov (faV (some 4) b) fun aw=>av aw ar) ar fun ax ay=>gM (isB au true) (fun az=>ov (ldV (some none) ax ay) fun ba=>az ba ay) ay fun bb bc=>gM (isB au true) (fun bd=>callM P qagZ #[bb,(Value.int IntKind.i64 0),(Value.int IntKind.i64 4)] bc fun be bf=>bd be bf) bc fun bg bh=>ov (pkV au bg (Value.bool false)) fun bi=>K bi bh
def qiAZ (x0:Value)(h:Heap)(K:KTy):Prop:=nwM (some x0.cells) qaUZ h fun a b=>ov (faV (some 0) a) fun c=>ov (ldV (some none) c b) fun d=>callM P qagZ #[d,(Value.int IntKind.i64 1),(Value.int IntKind.i64 8)] b fun e f=>qjkZ e a f K
variable {K:KTy}
theorem qmxZ {x0:Value}{h:Heap}(hd:qiAZ x0 h K):callM P qhNZ #[x0] h K :=
 call_of good mixed (fn:=Tryz.f143) (args:=[x0]) Tryz.func143 rfl (by kernel_rfl) (of_decide_eq_true rfl) (B:=qiAZ x0 h K) (by kernel_rfl) hd
def qkCZ (x0:Value)(h:Heap)(K:KTy):Prop:=nwM (zc P qDZ) qDZ h fun a b=>ov (binV BinOp.andNot 2 true x0 (Value.int IntKind.u64 1)) fun c=>ov (bdV (binf P qDZ) [(1,c)]) fun d=>stM (some 2) a d b fun e=>ov (ldV (some (some 2)) a e) fun f=>K f e
theorem qmYZ {x0:Value}{h:Heap}(hd:qkCZ x0 h K):callM P qjDZ #[x0] h K :=
 call_of good mixed (fn:=Tryz.f144) (args:=[x0]) Tryz.func144 rfl (by kernel_rfl) (of_decide_eq_true rfl) (B:=qkCZ x0 h K) (by kernel_rfl) hd
def qltZ (a:Value)(b:Env)(c:Value)(d:Heap)(e:Post)(m:List Nat)(f g:Value):Prop:=ov (iaV (some (some 8,1)) a (b 7)) fun h=>stM (some 1) h c d fun i=>ov (binV BinOp.add 2 true (b 7) (Value.int IntKind.i64 1)) fun j=>e .normal m (puts b [(8,f),(9,(b 7)),(4,(b 7)),(10,(b 3)),(11,(b 7)),(12,(b 0)),(14,g),(15,a),(13,c),(16,h),(17,j),(7,j)]) i
def qluZ (a:Env)(b:Heap)(c:Post)(m:List Nat)(d:Value):Prop:=ov (ncV (a 3)) fun e=>ov (faV (some 2) e) fun f=>callM P qetZ #[(a 0)] b fun g h=>qltZ f a g h c m d e
def qlvZ (a:Env)(b:Heap)(c:Post)(m:List Nat):Prop:=ov (binV BinOp.lss 2 true (a 7) (Value.int IntKind.i64 8)) fun d=>cdM d (qluZ a b c m d) (c (.exit 0) m (puts a [(8,d)]) b)
def qlwZ (x0 a b:Value)(c:Heap)(d:Post):Prop:=loopM (fun m e f g=>qlvZ e f g m) [] (puts (envOf [x0]) [(2,(Value.pointer none)),(5,a),(6,b),(3,b),(7,(Value.int IntKind.i64 0))]) c (blkM 0 d)
def qkDZ (x0:Value)(h:Heap)(K:KTy):Prop:=ov (bdV (binf P qdlZ) []) fun a=>nwM (some a.cells) qdlZ h fun b c=>seqM (fun d=>qlwZ x0 a b c d) (fun m e f=>(retM P [.tmp 2] K) .ret m (puts e [(18,(e 3)),(2,(e 3))]) f) (retM P [.tmp 2] K)
theorem qmZZ {x0:Value}{h:Heap}(hd:qkDZ x0 h K):callM P qjEZ #[x0] h K :=
 call_of good mixed (fn:=Tryz.f145) (args:=[x0]) Tryz.func145 rfl (by kernel_rfl) (of_decide_eq_true rfl) (B:=qkDZ x0 h K) (by kernel_rfl) hd
def qgNZ (x0 x1 x2 x3:Value)(h:Heap)(K:KTy):Prop:=ov (ncV x0) fun a=>ov (faV (some 11) a) fun b=>ov (ldV (some none) b h) fun c=>ov (bdV (binf P qfIZ) [(0,x1),(1,x2),(2,x3)]) fun d=>bsM (bsI P qdJZ) 1 [(0,d)] h fun e f=>vvM P (Builtin.append_ #[qdJZ,qdJZ] qdJZ #[c,e]) f fun g i=>ov (ncV x0) fun j=>ov (faV (some 11) j) fun k=>stM (some 1) k g i fun l=>K (.tuple #[]) l
theorem qmkZ {x0 x1 x2 x3:Value}{h:Heap}(hd:qgNZ x0 x1 x2 x3 h K):callM P qFZ #[x0,x1,x2,x3] h K :=
 call_of good mixed (fn:=Tryz.f153) (args:=[x0,x1,x2,x3]) Tryz.func153 rfl (by kernel_rfl) (of_decide_eq_true rfl) (B:=qgNZ x0 x1 x2 x3 h K) (by kernel_rfl) hd
def qiVZ (x0 x1:Value)(h:Heap)(K:KTy):Prop:=ov (binV BinOp.mul 2 true (Value.int IntKind.i64 4) x0) fun a=>ov (binV BinOp.add 2 false a x1) fun b=>K b h
theorem qmGZ {x0 x1:Value}{h:Heap}(hd:qiVZ x0 x1 h K):callM P qaSZ #[x0,x1] h K :=
 call_of good mixed (fn:=Tryz.f154) (args:=[x0,x1]) Tryz.func154 rfl (by kernel_rfl) (of_decide_eq_true rfl) (B:=qiVZ x0 x1 h K) (by kernel_rfl) hd
end Go.Proofs.YtcnphhhcknhhaaaGreat
namespace Go.Proofs.YtcnphhhcknhhaaaGreat
open Go Go.Den
set_option maxRecDepth 100000
set_option linter.unusedVariables false
def qggZ (a b:Value)(c:Heap)(x1:Value)(K:KTy):Prop:=gM (isB a true) (fun d=>d b c) c fun e f=>gM (isB a true) (fun g=>g x1 f) f fun h i=>gM (isB a true) (fun j=>ov (binV BinOp.shr 2 false e h) fun k=>j k i) i fun l m=>gM (isB a true) (fun n=>ov (binV BinOp.and 2 true l (Value.int IntKind.u32 1)) fun o=>n o m) m fun p q=>gM (isB a true) (fun r=>ov (binV BinOp.eql 2 true p (Value.int IntKind.u32 1)) fun s=>r s q) q fun t u=>ov (pkV a t (Value.bool false)) fun v=>K v u
def qghZ (a x1:Value)(b:Heap)(K:KTy):Prop:=ov (exV a 0) fun c=>ov (exV a 1) fun d=>callM P qhPZ #[x1] b fun e f=>qggZ e c f x1 K
def qeJZ (x0 x1 x2:Value)(h:Heap)(K:KTy):Prop:=ov (ncV x0) fun a=>ov (faV (some 0) a) fun b=>ov (ldV (some (some 2)) b h) fun c=>callM P qbKZ #[c,x2] h fun d e=>qghZ d x1 e K
variable {K:KTy}
theorem qkEZ {x0 x1 x2:Value}{h:Heap}(hd:qeJZ x0 x1 x2 h K):callM P qerZ #[x0,x1,x2] h K :=
 call_of good mixed (fn:=Tryz.f156) (args:=[x0,x1,x2]) Tryz.func156 rfl (by kernel_rfl) (of_decide_eq_true rfl) (B:=qeJZ x0 x1 x2 h K) (by kernel_rfl) hd
def qjlZ (x0:Value)(h:Heap)(x1:Value)(K:KTy):Prop:=callM P qkyZ #[x0] h fun a b=>ov (cvV (some .u64) x1) fun c=>ov (binV BinOp.rem 2 false a c) fun d=>ov (cvV (some .i64) d) fun e=>K e b
def qiBZ (x0 x1:Value)(h:Heap)(K:KTy):Prop:=ov (binV BinOp.lss 2 true x1 (Value.int IntKind.i64 1)) fun a=>cdM a (K (Value.int IntKind.i64 0) h) (qjlZ x0 h x1 K)
theorem qmyZ {x0 x1:Value}{h:Heap}(hd:qiBZ x0 x1 h K):callM P qhOZ #[x0,x1] h K :=
 call_of good mixed (fn:=Tryz.f157) (args:=[x0,x1]) Tryz.func157 rfl (by kernel_rfl) (of_decide_eq_true rfl) (B:=qiBZ x0 x1 h K) (by kernel_rfl) hd
def qiWZ (x0:Value)(h:Heap)(K:KTy):Prop:=ov (binV BinOp.neq 3 true x0 (Value.string { data:=#[] })) fun a=>gM (isB a true) (fun b=>b x0 h) h fun c d=>gM (isB a true) (fun e=>ov (lnV 3 c) fun f=>e f d) d fun g i=>gM (isB a true) (fun j=>ov (binV BinOp.leq 2 true g (Value.int IntKind.i64 16)) fun k=>j k i) i fun l m=>ov (pkV a l (Value.bool false)) fun n=>K n m
theorem qmHZ {x0:Value}{h:Heap}(hd:qiWZ x0 h K):callM P qdIZ #[x0] h K :=
 call_of good mixed (fn:=Tryz.f158) (args:=[x0]) Tryz.func158 rfl (by kernel_rfl) (of_decide_eq_true rfl) (B:=qiWZ x0 h K) (by kernel_rfl) hd
def qiXZ (x0 x1 x2:Value)(h:Heap)(K:KTy):Prop:=ov (binV BinOp.geq 2 true x0 (Value.int IntKind.i64 0)) fun a=>gM (isB a true) (fun b=>b x0 h) h fun c d=>gM (isB a true) (fun e=>ov (binV BinOp.leq 2 true c (Value.int IntKind.i64 255)) fun f=>e f d) d fun g i=>ov (pkV a g (Value.bool false)) fun j=>gM (isB j true) (fun k=>k x1 i) i fun l m=>gM (isB j true) (fun n=>ov (binV BinOp.geq 2 true l (Value.int IntKind.i64 1)) fun o=>n o m) m fun p q=>ov (pkV j p (Value.bool false)) fun r=>gM (isB r true) (fun s=>s x1 q) q fun t u=>gM (isB r true) (fun v=>ov (binV BinOp.leq 2 true t (Value.int IntKind.i64 9)) fun w=>v w u) u fun x y=>ov (pkV r x (Value.bool false)) fun z=>gM (isB z true) (fun aa=>aa x2 y) y fun ab ac=>gM (isB z true) (fun ad=>ov (binV BinOp.geq 2 true ab (Value.int IntKind.i64 0)) fun ae=>ad ae ac) ac fun af ag=>ov (pkV z af (Value.bool false)) fun ah=>gM (isB ah true) (fun ai=>ai x2 ag) ag fun aj ak=>gM (isB ah true) (fun al=>ov (binV BinOp.leq 2 true aj (Value.int IntKind.i64 9)) fun am=>al am ak) ak fun an ao=>ov (pkV ah an (Value.bool false)) fun ap=>K ap ao
theorem qmIZ {x0 x1 x2:Value}{h:Heap}(hd:qiXZ x0 x1 x2 h K):callM P qixZ #[x0,x1,x2] h K :=
 call_of good mixed (fn:=Tryz.f159) (args:=[x0,x1,x2]) Tryz.func159 rfl (by kernel_rfl) (of_decide_eq_true rfl) (B:=qiXZ x0 x1 x2 h K) (by kernel_rfl) hd
def qhTZ (x0 x1 x2:Value)(h:Heap)(K:KTy):Prop:=ov (binV BinOp.geq 2 false x0 x1) fun a=>gM (isB a true) (fun b=>b x0 h) h fun c d=>gM (isB a true) (fun e=>e x2 d) d fun f g=>gM (isB a true) (fun i=>ov (binV BinOp.leq 2 false c f) fun j=>i j g) g fun k l=>ov (pkV a k (Value.bool false)) fun m=>K m l
theorem qmrZ {x0 x1 x2:Value}{h:Heap}(hd:qhTZ x0 x1 x2 h K):callM P qagZ #[x0,x1,x2] h K :=
 call_of good mixed (fn:=Tryz.f160) (args:=[x0,x1,x2]) Tryz.func160 rfl (by kernel_rfl) (of_decide_eq_true rfl) (B:=qhTZ x0 x1 x2 h K) (by kernel_rfl) hd
def qhUZ (x0 x1 x2 x3 x4:Value)(h:Heap)(K:KTy):Prop:=nwM (some x1.cells) qsZ h fun a b=>nwM (zc P qvZ) qvZ b fun c d=>ov (ldV (some none) x2 d) fun e=>ov (ldV (some none) x3 d) fun f=>ov (ldV (some (some 7)) x4 d) fun g=>ov (ldV (some (some 3)) a d) fun i=>callM P qfoZ #[x0,e,f,g,i] d fun j k=>ov (bdV (binf P qvZ) [(0,j)]) fun l=>stM (some 4) c l k fun m=>ov (ldV (some (some 4)) c m) fun n=>K n m
theorem qmsZ {x0 x1 x2 x3 x4:Value}{h:Heap}(hd:qhUZ x0 x1 x2 x3 x4 h K):callM P qdKZ #[x0,x1,x2,x3,x4] h K :=
 call_of good mixed (fn:=Tryz.f161) (args:=[x0,x1,x2,x3,x4]) Tryz.func161 rfl (by kernel_rfl) (of_decide_eq_true rfl) (B:=qhUZ x0 x1 x2 x3 x4 h K) (by kernel_rfl) hd
def qiCZ (h:Heap)(K:KTy):Prop:=bsM (bsI P qbxZ) 7 [(0,(.func (.func qalZ) #[] #[])),(1,(.func (.func qabZ) #[] #[])),(2,(.func (.func qamZ) #[] #[])),(3,(.func (.func qacZ) #[] #[])),(4,(.func (.func qKZ) #[] #[])),(5,(.func (.func qayZ) #[] #[])),(6,(.func (.func qUZ) #[] #[]))] h fun a b=>K a b
theorem qmzZ {h:Heap}(hd:qiCZ h K):callM P qesZ #[] h K :=
 call_of good mixed (fn:=Tryz.f162) (args:=[]) Tryz.func162 rfl (by kernel_rfl) (of_decide_eq_true rfl) (B:=qiCZ h K) (by kernel_rfl) hd
def qigZ (x0:Value)(a:Heap)(b x2:Value)(c:Post)(x1 d e f g h i j k l m n:Value):Prop:=ov (ncV x0) fun o=>ov (faV (some 10) o) fun p=>ov (ldV (some none) p a) fun q=>ov (ldV (some (some 1)) b a) fun r=>ov (iaV (some (none,8)) q x2) fun s=>ov (faV (some 0) s) fun t=>stM (some 1) t r a fun u=>c .normal [] (puts (envOf [x0,x1,x2]) [(6,(Value.bool false)),(10,x0),(11,d),(12,e),(13,f),(14,x2),(15,g),(16,h),(17,i),(18,x1),(19,j),(9,j),(20,k),(21,l),(7,b),(8,l),(22,l),(23,x0),(24,x1),(25,x2),(26,m),(27,n),(28,x0),(29,o),(30,p),(31,q),(32,x2),(33,r),(34,s),(35,t)]) u
def qihZ (x0 x1 a:Value)(b:Heap)(c x2:Value)(d:Post)(e f g h i j k l m:Value):Prop:=callM P qFZ #[x0,x1,(Value.int IntKind.i64 5),a] b fun n o=>qigZ x0 o c x2 d x1 e f g h i j k l m a n
def qiiZ (x2:Value)(a:Heap)(x0 x1 b:Value)(c:Post)(d e f g h i j k l:Value):Prop:=callM P qaSZ #[x2,(Value.int IntKind.i64 1)] a fun m n=>qihZ x0 x1 m n b x2 c d e f g h i j k l
def qijZ (a:Post)(x0 x1 x2 b c d e f g h i j k:Value)(l:Heap):Prop:=a .normal [] (puts (envOf [x0,x1,x2]) [(6,(Value.bool false)),(10,x0),(11,b),(12,c),(13,d),(14,x2),(15,e),(16,f),(17,g),(18,x1),(19,h),(9,h),(20,i),(21,j),(7,k),(8,j),(22,j)]) l
def qikZ (a x2:Value)(b:Heap)(x0 x1 c:Value)(d:Post)(e f g h i j k l:Value):Prop:=cdM a (qiiZ x2 b x0 x1 c d e f g h i j k l a) (qijZ d x0 x1 x2 e f g h i j k l a c b)
def qilZ (a:Value)(b:Heap)(x2 x0 x1 c d e f g h:Value)(K:KTy):Prop:=ov (exV a 0) fun i=>ov (exV a 1) fun j=>nwM (zc P qjZ) qjZ b fun k l=>stM (some 1) k i l fun n=>seqM (fun o=>qikZ j x2 n x0 x1 k o c d e f g h a i) (fun m p q=>(retM P [.tmp 6] K) .ret m (puts p [(36,(p 8)),(6,(p 8))]) q) (retM P [.tmp 6] K)
def qgtZ (x0 x1 x2:Value)(h:Heap)(K:KTy):Prop:=ov (ncV x0) fun a=>ov (faV (some 10) a) fun b=>ov (ldV (some none) b h) fun c=>ov (iaV (some (none,8)) c x2) fun d=>ov (faV (some 0) d) fun e=>ov (ldV (some (some 1)) e h) fun f=>callM P qeTZ #[f,x1] h fun g i=>qilZ g i x2 x0 x1 a b c d e f K
theorem qmfZ {x0 x1 x2:Value}{h:Heap}(hd:qgtZ x0 x1 x2 h K):callM P qfMZ #[x0,x1,x2] h K :=
 call_of good mixed (fn:=Tryz.f170) (args:=[x0,x1,x2]) Tryz.func170 rfl (by kernel_rfl) (of_decide_eq_true rfl) (B:=qgtZ x0 x1 x2 h K) (by kernel_rfl) hd
def qgOZ (x0:Value)(a:Heap)(b x2:Value)(c:Post)(x1 d e f g h i j k l m n:Value):Prop:=ov (ncV x0) fun o=>ov (faV (some 10) o) fun p=>ov (ldV (some none) p a) fun q=>ov (ldV (some (some 1)) b a) fun r=>ov (iaV (some (none,8)) q x2) fun s=>ov (faV (some 0) s) fun t=>stM (some 1) t r a fun u=>c .normal [] (puts (envOf [x0,x1,x2]) [(6,(Value.bool false)),(10,x0),(11,d),(12,e),(13,f),(14,x2),(15,g),(16,h),(17,i),(18,x1),(19,j),(9,j),(20,k),(21,l),(7,b),(8,l),(22,l),(23,x0),(24,x1),(25,x2),(26,m),(27,n),(28,x0),(29,o),(30,p),(31,q),(32,x2),(33,r),(34,s),(35,t)]) u
def qgPZ (x0 x1 a:Value)(b:Heap)(c x2:Value)(d:Post)(e f g h i j k l m:Value):Prop:=callM P qFZ #[x0,x1,(Value.int IntKind.i64 6),a] b fun n o=>qgOZ x0 o c x2 d x1 e f g h i j k l m a n
def qgQZ (x2:Value)(a:Heap)(x0 x1 b:Value)(c:Post)(d e f g h i j k l:Value):Prop:=callM P qaSZ #[x2,(Value.int IntKind.i64 1)] a fun m n=>qgPZ x0 x1 m n b x2 c d e f g h i j k l
def qgRZ (a:Post)(x0 x1 x2 b c d e f g h i j k:Value)(l:Heap):Prop:=a .normal [] (puts (envOf [x0,x1,x2]) [(6,(Value.bool false)),(10,x0),(11,b),(12,c),(13,d),(14,x2),(15,e),(16,f),(17,g),(18,x1),(19,h),(9,h),(20,i),(21,j),(7,k),(8,j),(22,j)]) l
def qgSZ (a x2:Value)(b:Heap)(x0 x1 c:Value)(d:Post)(e f g h i j k l:Value):Prop:=cdM a (qgQZ x2 b x0 x1 c d e f g h i j k l a) (qgRZ d x0 x1 x2 e f g h i j k l a c b)
def qgTZ (a:Value)(b:Heap)(x2 x0 x1 c d e f g h:Value)(K:KTy):Prop:=ov (exV a 0) fun i=>ov (exV a 1) fun j=>nwM (zc P qjZ) qjZ b fun k l=>stM (some 1) k i l fun n=>seqM (fun o=>qgSZ j x2 n x0 x1 k o c d e f g h a i) (fun m p q=>(retM P [.tmp 6] K) .ret m (puts p [(36,(p 8)),(6,(p 8))]) q) (retM P [.tmp 6] K)
def qfyZ (x0 x1 x2:Value)(h:Heap)(K:KTy):Prop:=ov (ncV x0) fun a=>ov (faV (some 10) a) fun b=>ov (ldV (some none) b h) fun c=>ov (iaV (some (none,8)) c x2) fun d=>ov (faV (some 0) d) fun e=>ov (ldV (some (some 1)) e h) fun f=>callM P qeUZ #[f,x1] h fun g i=>qgTZ g i x2 x0 x1 a b c d e f K
theorem qlxZ {x0 x1 x2:Value}{h:Heap}(hd:qfyZ x0 x1 x2 h K):callM P qeSZ #[x0,x1,x2] h K :=
 call_of good mixed (fn:=Tryz.f172) (args:=[x0,x1,x2]) Tryz.func172 rfl (by kernel_rfl) (of_decide_eq_true rfl) (B:=qfyZ x0 x1 x2 h K) (by kernel_rfl) hd
def qhAZ (a:Value)(b:Heap)(c x2 d:Value)(K:KTy):Prop:=ldV (some none) a b=some c∧ov (iaV (some (none,8)) c x2) fun e=>ov (faV (some 1) e) fun f=>stM (some 2) f d b fun g=>K (.tuple #[]) g
def qhBZ (x0:Value)(a:Heap)(x2:Value)(K:KTy):Prop:=ov (ncV x0) fun b=>ov (faV (some 10) b) fun c=>ov (ldV (some none) c a) fun d=>ov (ncV x0) fun e=>ov (faV (some 10) e) fun f=>ov (ldV (some none) f a) fun g=>ov (iaV (some (none,8)) g x2) fun h=>ov (faV (some 1) h) fun i=>ov (ldV (some (some 2)) i a) fun j=>callM P qfqZ #[j] a fun k l=>qhAZ c l d x2 k K
def qhCZ (x0 x1 a:Value)(b:Heap)(x2:Value)(K:KTy):Prop:=callM P qFZ #[x0,x1,(Value.int IntKind.i64 4),a] b fun c d=>qhBZ x0 d x2 K
def qfQZ (x0 x1 x2:Value)(h:Heap)(K:KTy):Prop:=callM P qaSZ #[x2,(Value.int IntKind.i64 2)] h fun a b=>qhCZ x0 x1 a b x2 K
theorem qlSZ {x0 x1 x2:Value}{h:Heap}(hd:qfQZ x0 x1 x2 h K):callM P qfpZ #[x0,x1,x2] h K :=
 call_of good mixed (fn:=Tryz.f174) (args:=[x0,x1,x2]) Tryz.func174 rfl (by kernel_rfl) (of_decide_eq_true rfl) (B:=qfQZ x0 x1 x2 h K) (by kernel_rfl) hd
def qiJZ (a:Value)(b:Heap)(c x2 d:Value)(K:KTy):Prop:=ldV (some none) a b=some c∧ov (iaV (some (none,8)) c x2) fun e=>ov (faV (some 1) e) fun f=>stM (some 2) f d b fun g=>K (.tuple #[]) g
def qiKZ (x0:Value)(a:Heap)(x2:Value)(K:KTy):Prop:=ov (ncV x0) fun b=>ov (faV (some 10) b) fun c=>ov (ldV (some none) c a) fun d=>ov (ncV x0) fun e=>ov (faV (some 10) e) fun f=>ov (ldV (some none) f a) fun g=>ov (iaV (some (none,8)) g x2) fun h=>ov (faV (some 1) h) fun i=>ov (ldV (some (some 2)) i a) fun j=>callM P qgoZ #[j] a fun k l=>qiJZ c l d x2 k K
def qiLZ (x0 x1 a:Value)(b:Heap)(x2:Value)(K:KTy):Prop:=callM P qFZ #[x0,x1,(Value.int IntKind.i64 4),a] b fun c d=>qiKZ x0 d x2 K
def qgUZ (x0 x1 x2:Value)(h:Heap)(K:KTy):Prop:=callM P qaSZ #[x2,(Value.int IntKind.i64 2)] h fun a b=>qiLZ x0 x1 a b x2 K
theorem qmlZ {x0 x1 x2:Value}{h:Heap}(hd:qgUZ x0 x1 x2 h K):callM P qgnZ #[x0,x1,x2] h K :=
 call_of good mixed (fn:=Tryz.f176) (args:=[x0,x1,x2]) Tryz.func176 rfl (by kernel_rfl) (of_decide_eq_true rfl) (B:=qgUZ x0 x1 x2 h K) (by kernel_rfl) hd
def qfzZ (x0:Value)(h:Heap)(K:KTy):Prop:=nwM (some x0.cells) qjZ h fun a b=>ov (faV (some 0) a) fun c=>ov (ldV (some none) c b) fun d=>ov (binV BinOp.eql 2 true d (Value.int IntKind.i64 0)) fun e=>K e b
theorem qlyZ {x0:Value}{h:Heap}(hd:qfzZ x0 h K):callM P qbPZ #[x0] h K :=
 call_of good mixed (fn:=Tryz.f185) (args:=[x0]) Tryz.func185 rfl (by kernel_rfl) (of_decide_eq_true rfl) (B:=qfzZ x0 h K) (by kernel_rfl) hd
def qfeZ (x0:Value)(h:Heap)(K:KTy):Prop:=nwM (some x0.cells) qDZ h fun a b=>ov (faV (some 0) a) fun c=>ov (ldV (some none) c b) fun d=>ov (binV BinOp.and 2 true d (Value.int IntKind.u64 1)) fun e=>ov (binV BinOp.eql 2 true e (Value.int IntKind.u64 1)) fun f=>K f b
theorem qlhZ {x0:Value}{h:Heap}(hd:qfeZ x0 h K):callM P qblZ #[x0] h K :=
 call_of good mixed (fn:=Tryz.f186) (args:=[x0]) Tryz.func186 rfl (by kernel_rfl) (of_decide_eq_true rfl) (B:=qfeZ x0 h K) (by kernel_rfl) hd
def qkWZ (a x0 x1 b c d e f g h i j k:Value)(l:Heap)(m:Post):Prop:=rfM P gd a #[17,18] (rfA P qdjZ 0) (rfB P qdjZ 0) [] (puts (envOf [x0,x1]) [(2,b),(3,c),(4,d),(9,e),(11,f),(10,g),(12,h),(13,i),(14,j),(15,k),(16,a)]) l (blkM 0 m)
def qkXZ (a:Value)(b:Heap)(x0 x1 c d e f g h i j:Value)(k:Post):Prop:=ov (ldV (some (some 2)) a b) fun l=>callM P qrZ #[l] b fun m n=>qkWZ m x0 x1 a c d e f g h i j l n k
def qkYZ (a:Value)(b:Heap)(x0 x1 c d e f g h i j:Value)(K:KTy):Prop:=seqM (fun k=>qkXZ a b x0 x1 c d e f g h i j k) (fun m l n=>stM (some 1) (l 4) (Value.bool true) n fun o=>(retM P [.cell 4 4] K) .ret m l o) (retM P [.cell 4 4] K)
def qkZZ (a b:Value)(c:Heap)(K:KTy)(d x0 x1 e f g h i:Value):Prop:=ov (unV UnOp.not a) fun j=>cdM j (stM (some 1) b (Value.bool false) c fun k=>ov (ldV (some none) b k) fun l=>K l k) (qkYZ d c x0 x1 e b f g h i a j K)
def qlaZ (a:Value)(b:Heap)(c d e:Value)(K:KTy)(f x0 x1 g:Value):Prop:=ldV (some (some 2)) a b=some c∧callM P qlZ #[c] b fun h i=>callM P qbLZ #[d,h] i fun j k=>qkZZ j e k K f x0 x1 a g c d h
def qjIZ (x0 x1:Value)(h:Heap)(K:KTy):Prop:=nwM (some x0.cells) qaZ h fun a b=>nwM (some x1.cells) qaZ b fun c d=>nwM (zc P qdiZ) qdiZ d fun e f=>ov (ldV (some (some 2)) a f) fun g=>ov (ldV (some (some 2)) c f) fun i=>callM P qlZ #[g] f fun j k=>qlaZ c k i j e K a x0 x1 g
theorem qmRZ {x0 x1:Value}{h:Heap}(hd:qjIZ x0 x1 h K):callM P qdjZ #[x0,x1] h K :=
 call_of good mixed (fn:=Tryz.f187) (args:=[x0,x1]) Tryz.func187 rfl (by kernel_rfl) (of_decide_eq_true rfl) (B:=qjIZ x0 x1 h K) (by kernel_rfl) hd
def qkeZ (m:List Nat)(s:Env)(h:Heap)(Q:Post):Prop:=nwM (zc P qhZ) qhZ h fun a b=>stM (some 4) a (s 18) b fun c=>Q .normal m (puts s [(5,(s 17)),(6,a)]) c
theorem qmtZ {m:List Nat}{s:Env}{h:Heap}{Q:Post}:den P gd (rfA P qdjZ 0) m s h Q=qkeZ m s h Q:=by kernel_rfl
def qkfZ (m:List Nat)(s:Env)(h:Heap)(Q:Post):Prop:=ov (ldV (some (some 2)) (s 3) h) fun a=>callM P qwZ #[a,(s 5)] h fun b c=>ov (exV b 0) fun d=>ov (exV b 1) fun e=>nwM (zc P qhZ) qhZ c fun f g=>stM (some 4) f d g fun i=>ov (faV (some 1) (s 6)) fun j=>ov (ldV (some (some 3)) j i) fun k=>ov (faV (some 1) f) fun l=>ov (ldV (some (some 3)) l i) fun n=>pvM P (do eqGuard BinOp.neq qqZ (Operand.tmp 26) (Operand.tmp 28) k n; binOp BinOp.neq qqZ k n) fun o=>gM (isB o false) (fun p=>ov (faV (some 0) (s 6)) fun q=>p q i) i fun r t=>gM (isB o false) (fun u=>ov (ldV (some none) r t) fun v=>u v t) t fun w x=>gM (isB o false) (fun y=>ov (faV (some 0) f) fun z=>y z x) x fun aa ab=>gM (isB o false) (fun ac=>ov (ldV (some none) aa ab) fun ad=>ac ad ab) ab fun ae af=>gM (isB o false) (fun ag=>callM P qXZ #[w,ae] af fun ah ai=>ag ah ai) af fun aj ak=>gM (isB o false) (fun al=>ov (unV UnOp.not aj) fun am=>al am ak) ak fun an ao=>ov (pkV o (Value.bool true) an) fun ap=>cdM ap (stM (some 1) (s 4) (Value.bool false) ao fun aq=>Q .ret m (puts s [(20,a),(21,(s 5)),(22,b),(19,b),(23,d),(24,e),(7,f),(8,e),(25,j),(26,k),(27,l),(28,n),(29,o),(30,o),(31,r),(32,w),(33,aa),(34,ae),(35,aj),(36,an),(37,ap)]) aq) (Q .normal m (puts s [(20,a),(21,(s 5)),(22,b),(19,b),(23,d),(24,e),(7,f),(8,e),(25,j),(26,k),(27,l),(28,n),(29,o),(30,o),(31,r),(32,w),(33,aa),(34,ae),(35,aj),(36,an),(37,ap)]) ao)
theorem qmuZ {m:List Nat}{s:Env}{h:Heap}{Q:Post}:den P gd (rfB P qdjZ 0) m s h Q=qkfZ m s h Q:=by kernel_rfl
def qjmZ (a x0 b c d:Value)(e:Heap)(f:Post):Prop:=rfM P gd a #[8,9] (rfA P qbWZ 0) (rfB P qbWZ 0) [] (puts (envOf [x0]) [(1,b),(2,(Value.int IntKind.i64 0)),(3,c),(6,d),(7,a)]) e (blkM 0 f)
def qjnZ (a:Value)(b:Heap)(x0 c:Value)(d:Post):Prop:=ov (ldV (some (some 2)) a b) fun e=>callM P qrZ #[e] b fun f g=>qjmZ f x0 a c e g d
def qiDZ (x0:Value)(h:Heap)(K:KTy):Prop:=nwM (some x0.cells) qaZ h fun a b=>nwM (zc P qiZ) qiZ b fun c d=>stM (some 1) c (Value.int IntKind.i64 0) d fun e=>seqM (fun f=>qjnZ a e x0 c f) (fun m g i=>ov (ldV (some none) (g 3) i) fun j=>(retM P [.tmp 2] K) .ret m (puts g [(15,j),(2,j)]) i) (retM P [.tmp 2] K)
theorem qmAZ {x0:Value}{h:Heap}(hd:qiDZ x0 h K):callM P qbWZ #[x0] h K :=
 call_of good mixed (fn:=Tryz.f189) (args:=[x0]) Tryz.func189 rfl (by kernel_rfl) (of_decide_eq_true rfl) (B:=qiDZ x0 h K) (by kernel_rfl) hd
def qiYZ (m:List Nat)(s:Env)(h:Heap)(Q:Post):Prop:=nwM (zc P qhZ) qhZ h fun a b=>stM (some 4) a (s 9) b fun c=>Q .normal m (puts s [(5,a)]) c
theorem qmgZ {m:List Nat}{s:Env}{h:Heap}{Q:Post}:den P gd (rfA P qbWZ 0) m s h Q=qiYZ m s h Q:=by kernel_rfl
def qiZZ (m:List Nat)(s:Env)(h:Heap)(Q:Post):Prop:=ov (ldV (some none) (s 3) h) fun a=>ov (faV (some 0) (s 5)) fun b=>ov (ldV (some none) b h) fun c=>ov (lnV 7 c) fun d=>ov (binV BinOp.add 2 false a d) fun e=>stM (some 1) (s 3) e h fun f=>Q .normal m (puts s [(10,a),(11,b),(12,c),(13,d),(14,e)]) f
theorem qmhZ {m:List Nat}{s:Env}{h:Heap}{Q:Post}:den P gd (rfB P qbWZ 0) m s h Q=qiZZ m s h Q:=by kernel_rfl
def qcbZ (a:Post)(m:List Nat)(b:Env)(c d e f g h i j k:Value)(l:Heap):Prop:=a .ret m (puts b [(9,c),(10,(b 8)),(11,d),(12,e),(3,(b 8)),(4,e),(13,(b 0)),(14,e),(15,f),(16,g),(17,(b 8)),(18,h),(19,i),(20,j),(21,k)]) l
def qccZ (a:Env)(b:Post)(m:List Nat)(c d e f g h i j k:Value)(l:Heap):Prop:=ov (binV BinOp.add 2 true (a 8) (Value.int IntKind.i64 1)) fun n=>b .normal m (puts a [(9,c),(10,(a 8)),(11,d),(12,e),(3,(a 8)),(4,e),(13,(a 0)),(14,e),(15,f),(16,g),(17,(a 8)),(18,h),(19,i),(20,j),(21,k),(22,n),(8,n)]) l
def qaiZ (a:Value)(b:Post)(m:List Nat)(c:Env)(d e f g h i j:Value)(k:Heap):Prop:=ov (unV UnOp.not a) fun l=>cdM l (qcbZ b m c d e f g h i j a l k) (qccZ c b m d e f g h i j a l k)
def qcdZ (a:Env)(b:Heap)(c:Post)(m:List Nat)(e:Value):Prop:=ov (iaV (some (none,1)) (a 6) (a 8)) fun f=>ov (ldV (some none) f b) fun g=>ov (faV (some 1) (a 1)) fun h=>ov (ldV (some none) h b) fun i=>ov (iaV (some (none,4)) i (a 8)) fun j=>ov (ldV (some (some 4)) j b) fun k=>nxM P (do let d ← Deferred.ofValue (a 0) #[g,k] ; invoke d.target d.args) b fun l n=>qaiZ l c m a e f g h i j k n
def qceZ (a:Env)(b:Heap)(c:Post)(m:List Nat):Prop:=ov (binV BinOp.lss 2 false (a 8) (a 7)) fun d=>cdM d (qcdZ a b c m d) (c (.exit 0) m (puts a [(9,d)]) b)
def qatZ (x0 x1:Value)(h:Heap)(K:KTy):Prop:=ov (faV (some 0) x1) fun a=>ov (ldV (some none) a h) fun b=>ov (lnV 7 b) fun c=>loopM (fun m d e f=>qceZ d e f m) [] (puts (envOf [x0,x1]) [(5,a),(6,b),(7,c),(8,(Value.int IntKind.i64 0))]) h (blkM 0 (retM P [] K))
theorem qfJZ {x0 x1:Value}{h:Heap}(hd:qatZ x0 x1 h K):callM P qBZ #[x0,x1] h K :=
 call_of good mixed (fn:=Tryz.f193) (args:=[x0,x1]) Tryz.func193 rfl (by kernel_rfl) (of_decide_eq_true rfl) (B:=qatZ x0 x1 h K) (by kernel_rfl) hd
def qdbZ (a:Value)(b:Heap)(c:Value)(K:KTy):Prop:=ov (ldV (some (some 4)) a b) fun d=>stM (some 4) c d b fun e=>ov (ldV (some (some 4)) c e) fun f=>K (.tuple #[f,(Value.bool false)]) e
def qdcZ (a:Value)(b:Heap)(c d:Value)(K:KTy):Prop:=ov (faV (some 1) a) fun e=>ov (ldV (some none) e b) fun f=>ov (iaV (some (none,4)) f c) fun g=>ov (ldV (some (some 4)) g b) fun h=>stM (some 4) d h b fun i=>ov (ldV (some (some 4)) d i) fun j=>K (.tuple #[j,(Value.bool true)]) i
def qddZ (a b:Value)(c:Heap)(d:Value)(K:KTy)(e:Value):Prop:=ov (exV a 0) fun f=>ov (exV a 1) fun g=>ov (unV UnOp.not g) fun h=>cdM h (qdbZ b c d K) (qdcZ e c f d K)
def qaWZ (x0 x1:Value)(h:Heap)(K:KTy):Prop:=nwM (some x0.cells) qaZ h fun a b=>nwM (zc P qhZ) qhZ b fun c d=>nwM (zc P qhZ) qhZ d fun e f=>ov (ldV (some (some 2)) a f) fun g=>callM P quZ #[g,x1] f fun i j=>qddZ i e j c K a
theorem qguZ {x0 x1:Value}{h:Heap}(hd:qaWZ x0 x1 h K):callM P qwZ #[x0,x1] h K :=
 call_of good mixed (fn:=Tryz.f194) (args:=[x0,x1]) Tryz.func194 rfl (by kernel_rfl) (of_decide_eq_true rfl) (B:=qaWZ x0 x1 h K) (by kernel_rfl) hd
def qlYZ (x0 x1:Value)(a:Heap)(b c d:Value)(e:Post):Prop:=callM P qljZ #[x0,x1] a fun f g=>rfM P gd f #[11] (rfA P qeCZ 0) (rfB P qeCZ 0) [] (puts (envOf [x0,x1]) [(4,b),(5,c),(6,d),(8,x0),(9,x1),(10,f)]) g (blkM 0 e)
def qlZZ (a:Env)(b:Heap)(K:KTy)(m:List Nat):Prop:=ov (faV (some 1) (a 5)) fun c=>ov (ldV (some none) c b) fun d=>ov (faV (some 2) (a 5)) fun e=>ov (ldV (some none) e b) fun f=>ov (ldV (some none) (a 6) b) fun g=>ov (bdV (binf P qqZ) [(0,d),(1,f),(2,g)]) fun h=>stM (some 3) (a 4) h b fun i=>(retM P [.cell 4 112] K) .ret m (puts a [(22,c),(23,d),(24,e),(25,f),(26,g),(27,h)]) i
def qlzZ (x0 x1:Value)(h:Heap)(K:KTy):Prop:=nwM (zc P qqZ) qqZ h fun a b=>nwM (zc P qbZ) qbZ b fun c d=>nwM (zc P qiZ) qiZ d fun e f=>stM (some 1) e (Value.int IntKind.i64 0) f fun g=>seqM (fun i=>qlYZ x0 x1 g a c e i) (fun m j k=>qlZZ j k K m) (retM P [.cell 4 112] K)
theorem qncZ {x0 x1:Value}{h:Heap}(hd:qlzZ x0 x1 h K):callM P qeCZ #[x0,x1] h K :=
 call_of good mixed (fn:=Tryz.f195) (args:=[x0,x1]) Tryz.func195 rfl (by kernel_rfl) (of_decide_eq_true rfl) (B:=qlzZ x0 x1 h K) (by kernel_rfl) hd
def qlAZ (m:List Nat)(s:Env)(h:Heap)(Q:Post):Prop:=nwM (zc P qbZ) qbZ h fun a b=>stM (some 4) a (s 11) b fun c=>Q .normal m (puts s [(7,a)]) c
theorem qmJZ {m:List Nat}{s:Env}{h:Heap}{Q:Post}:den P gd (rfA P qeCZ 0) m s h Q=qlAZ m s h Q:=by kernel_rfl
def qlBZ (m:List Nat)(s:Env)(h:Heap)(Q:Post):Prop:=seqM (fun a=>ov (ldV (some none) (s 6) h) fun b=>ov (binV BinOp.eql 2 true b (Value.int IntKind.i64 0)) fun c=>gM (isB c false) (fun d=>ov (ldV (some (some 4)) (s 7) h) fun e=>d e h) h fun f g=>gM (isB c false) (fun i=>ov (ldV (some (some 4)) (s 5) g) fun j=>i j g) g fun k l=>gM (isB c false) (fun n=>callM P qhQZ #[f,k] l fun o p=>n o p) l fun q r=>ov (pkV c (Value.bool true) q) fun t=>cdM t (ov (ldV (some (some 4)) (s 7) r) fun u=>stM (some 4) (s 5) u r fun v=>a .normal m (puts s [(12,b),(13,c),(14,c),(15,f),(16,k),(17,q),(18,t),(19,u)]) v) (a .normal m (puts s [(12,b),(13,c),(14,c),(15,f),(16,k),(17,q),(18,t)]) r)) (fun m w x=>ov (ldV (some none) (w 6) x) fun y=>ov (binV BinOp.add 2 true y (Value.int IntKind.i64 1)) fun z=>stM (some 1) (w 6) z x fun aa=>Q .normal m (puts w [(20,y),(21,z)]) aa) (blkM 1 Q)
theorem qmKZ {m:List Nat}{s:Env}{h:Heap}{Q:Post}:den P gd (rfB P qeCZ 0) m s h Q=qlBZ m s h Q:=by kernel_rfl
def qkgZ (a x0 x1 b c d e f g h:Value)(i:Heap)(j:Post):Prop:=rfM P gd a #[14,15] (rfA P qaTZ 0) (rfB P qaTZ 0) [] (puts (envOf [x0,x1]) [(2,b),(3,c),(4,d),(5,(Value.slice none 0 0)),(6,e),(11,f),(7,g),(12,h),(13,a)]) i (blkM 0 j)
def qkhZ (a:Value)(b:Heap)(x0 x1 c d e f g:Value)(h:Post):Prop:=ov (ldV (some (some 2)) a b) fun i=>callM P qrZ #[i] b fun j k=>qkgZ j x0 x1 a c d e f g i k h
def qkiZ (a:Env)(b:Heap)(K:KTy)(m:List Nat):Prop:=ov (ldV (some (some 2)) (a 7) b) fun c=>ov (ldV (some none) (a 6) b) fun d=>stM (some 2) (a 4) c b fun e=>ldV (some none) (a 6) e=some d∧(retM P [.cell 4 70,.tmp 5] K) .ret m (puts a [(30,c),(31,d),(5,d)]) e
def qjaZ (x0 x1:Value)(h:Heap)(K:KTy):Prop:=nwM (some x0.cells) qaZ h fun a b=>nwM (some x1.cells) qaaZ b fun c d=>nwM (zc P qaZ) qaZ d fun e f=>nwM (zc P qnZ) qnZ f fun g i=>ov (ldV (some (some 2)) a i) fun j=>nwM (zc P qaZ) qaZ i fun k l=>stM (some 2) k j l fun n=>seqM (fun o=>qkhZ a n x0 x1 c e g j k o) (fun m p q=>qkiZ p q K m) (retM P [.cell 4 70,.tmp 5] K)
theorem qmLZ {x0 x1:Value}{h:Heap}(hd:qjaZ x0 x1 h K):callM P qaTZ #[x0,x1] h K :=
 call_of good mixed (fn:=Tryz.f198) (args:=[x0,x1]) Tryz.func198 rfl (by kernel_rfl) (of_decide_eq_true rfl) (B:=qjaZ x0 x1 h K) (by kernel_rfl) hd
def qjoZ (m:List Nat)(s:Env)(h:Heap)(Q:Post):Prop:=nwM (zc P qhZ) qhZ h fun a b=>stM (some 4) a (s 15) b fun c=>Q .normal m (puts s [(8,(s 14)),(9,a)]) c
theorem qmmZ {m:List Nat}{s:Env}{h:Heap}{Q:Post}:den P gd (rfA P qaTZ 0) m s h Q=qjoZ m s h Q:=by kernel_rfl
def qjpZ (m:List Nat)(s:Env)(h:Heap)(Q:Post):Prop:=ov (ldV (some (some 2)) (s 7) h) fun a=>ov (faV (some 0) (s 9)) fun b=>ov (ldV (some none) b h) fun c=>ov (ldV (some none) (s 3) h) fun d=>ov (ldV (some none) (s 3) h) fun e=>callM P qgmZ #[c,d] h fun f g=>ldV (some (some 2)) (s 7) g=some a∧ldV (some none) (s 3) g=some e∧callM P qfHZ #[a,(s 8),f,e] g fun i j=>ov (exV i 0) fun k=>ov (exV i 1) fun l=>stM (some 2) (s 7) k j fun n=>ov (ldV (some none) (s 6) n) fun o=>vvM P (Builtin.append_ #[qnZ,qnZ] qnZ #[o,l]) n fun p q=>stM (some 1) (s 6) p q fun r=>Q .normal m (puts s [(10,(Value.slice none 0 0)),(17,a),(18,(s 8)),(19,b),(20,c),(21,d),(23,e),(22,f),(24,i),(16,i),(25,k),(26,l),(10,l),(27,o),(28,l),(29,p)]) r
theorem qmnZ {m:List Nat}{s:Env}{h:Heap}{Q:Post}:den P gd (rfB P qaTZ 0) m s h Q=qjpZ m s h Q:=by kernel_rfl
def qimZ (a:Post)(m:List Nat)(b:Env)(c d e f g h i j k l n o p:Value)(q:Heap):Prop:=a .normal m (puts b [(21,c),(22,(b 20)),(23,d),(8,(b 20)),(9,d),(24,(b 0)),(25,(b 20)),(26,e),(27,f),(28,g),(29,d),(30,h),(31,i),(32,j),(33,k),(34,l),(35,n),(36,(b 2)),(37,o),(38,p)]) q
def qinZ (a:Env)(b:Heap)(c:Value)(d:Post)(m:List Nat)(e f g h:Value):Prop:=ov (faV (some 0) (a 7)) fun i=>ov (ldV (some none) i b) fun j=>ov (faV (some 1) (a 7)) fun k=>ov (ldV (some (some 3)) k b) fun l=>ov (faV (some 4) (a 7)) fun n=>ov (ldV (some (some 3)) n b) fun o=>ov (bdV (binf P qdkZ) [(0,j),(1,l),(2,o),(3,(a 2))]) fun p=>callM P qcYZ #[c,p] b fun q r=>qimZ d m a e c f g h i j k l n o p q r
def qioZ (a:Value)(b:Env)(c:Heap)(d:Value)(e:Post)(m:List Nat)(f g h:Value):Prop:=cdM a (qinZ b c d e m f g h a) (e .normal m (puts b [(21,f),(22,(b 20)),(23,d),(8,(b 20)),(9,d),(24,(b 0)),(25,(b 20)),(26,g),(27,h),(28,a)]) c)
def qipZ (a:Env)(b:Heap)(c:Post)(m:List Nat)(d:Value):Prop:=ov (xaV (some (none,8,1)) (a 19) (a 20)) fun e=>ov (faV (some 0) (a 7)) fun f=>ov (ldV (some none) f b) fun g=>callM P qerZ #[(a 0),(a 20),g] b fun h i=>qioZ h a i e c m d f g
def qiqZ (a:Env)(b:Heap)(m:List Nat)(c:Value)(d:Post):Prop:=seqM (fun e=>qipZ a b e m c) (fun m f g=>ov (binV BinOp.add 2 true (f 20) (Value.int IntKind.i64 1)) fun h=>d .normal m (puts f [(39,h),(20,h)]) g) d
def qirZ (a:Env)(b:Heap)(m:List Nat)(c:Post):Prop:=ov (binV BinOp.lss 2 true (a 20) (Value.int IntKind.i64 8)) fun d=>cdM d (qiqZ a b m d c) (c (.exit 2) m (puts a [(21,d)]) b)
def qisZ (a:Env)(b:Heap)(m:List Nat)(c:Value)(d:Post):Prop:=ov (iaV (some (none,7)) (a 10) (a 12)) fun e=>ov (ldV (some (some 7)) e b) fun f=>nwM (zc P qzZ) qzZ b fun g h=>stM (some 7) g f h fun i=>ov (ncV (a 0)) fun j=>ov (faV (some 2) j) fun k=>ov (ldV (some (some 8)) k i) fun l=>loopM (fun m n o p=>qirZ n o m p) m (puts a [(13,c),(14,e),(15,f),(7,g),(16,(a 0)),(17,j),(18,k),(19,l),(20,(Value.int IntKind.i64 0))]) i (blkM 2 (blkM 1 d))
def qitZ (a:Env)(b:Heap)(m:List Nat)(c:Value)(d:Post):Prop:=seqM (fun e=>qisZ a b m c e) (fun m f g=>ov (binV BinOp.add 2 true (f 12) (Value.int IntKind.i64 1)) fun h=>d .normal m (puts f [(40,h),(12,h)]) g) d
def qiuZ (a:Env)(b:Heap)(m:List Nat)(c:Post):Prop:=ov (binV BinOp.lss 2 false (a 12) (a 11)) fun d=>cdM d (qitZ a b m d c) (c (.exit 0) m (puts a [(13,d)]) b)
def qgvZ (x0 x1 x2:Value)(h:Heap)(K:KTy):Prop:=ov (lnV 7 x1) fun a=>loopM (fun m b c d=>qiuZ b c m d) [] (puts (envOf [x0,x1,x2]) [(10,x1),(11,a),(12,(Value.int IntKind.i64 0))]) h (blkM 0 (retM P [] K))
theorem qmiZ {x0 x1 x2:Value}{h:Heap}(hd:qgvZ x0 x1 x2 h K):callM P qdaZ #[x0,x1,x2] h K :=
 call_of good mixed (fn:=Tryz.f199) (args:=[x0,x1,x2]) Tryz.func199 rfl (by kernel_rfl) (of_decide_eq_true rfl) (B:=qgvZ x0 x1 x2 h K) (by kernel_rfl) hd
def qlbZ (a b:Value)(c:Heap)(d:Value)(K:KTy):Prop:=ov (faV (some 1) a) fun e=>stM (some 1) e b c fun f=>ov (ldV (some (some 3)) a f) fun g=>ov (faV (some 1) a) fun h=>ov (ldV (some none) h f) fun i=>stM (some 3) d g f fun j=>ldV (some none) h j=some i∧ov (ldV (some (some 3)) d j) fun k=>K (.tuple #[k,i]) j
def qjJZ (x0:Value)(h:Heap)(K:KTy):Prop:=nwM (some x0.cells) qsZ h fun a b=>nwM (zc P qsZ) qsZ b fun c d=>ov (faV (some 1) a) fun e=>ov (ldV (some none) e d) fun f=>callM P qicZ #[f,(Value.int IntKind.u64 1)] d fun g i=>qlbZ a g i c K
theorem qmSZ {x0:Value}{h:Heap}(hd:qjJZ x0 h K):callM P qiTZ #[x0] h K :=
 call_of good mixed (fn:=Tryz.f200) (args:=[x0]) Tryz.func200 rfl (by kernel_rfl) (of_decide_eq_true rfl) (B:=qjJZ x0 h K) (by kernel_rfl) hd
def qhDZ (x0 x1 a:Value)(b:Heap)(x2:Value)(K:KTy):Prop:=callM P qFZ #[x0,x1,(Value.int IntKind.i64 2),a] b fun c d=>ov (ncV x0) fun e=>ov (faV (some 10) e) fun f=>ov (ldV (some none) f d) fun g=>ov (iaV (some (none,8)) g x2) fun h=>K h d
def qfRZ (x0 x1 x2:Value)(h:Heap)(K:KTy):Prop:=callM P qaSZ #[x2,(Value.int IntKind.i64 4)] h fun a b=>qhDZ x0 x1 a b x2 K
theorem qlTZ {x0 x1 x2:Value}{h:Heap}(hd:qfRZ x0 x1 x2 h K):callM P qdLZ #[x0,x1,x2] h K :=
 call_of good mixed (fn:=Tryz.f201) (args:=[x0,x1,x2]) Tryz.func201 rfl (by kernel_rfl) (of_decide_eq_true rfl) (B:=qfRZ x0 x1 x2 h K) (by kernel_rfl) hd
def qkjZ (a:Value)(b:Post)(x0 x1 x2 x3 c d e f g h i j k l m n o p q r s t u v w x y z aa ab:Value)(ac:Heap):Prop:=ov (exV a 0) fun ad=>ov (exV a 1) fun ae=>b .normal [] (puts (envOf [x0,x1,x2,x3]) [(4,c),(5,d),(8,e),(9,(Value.slice none 0 0)),(10,(Value.int IntKind.i64 0)),(19,f),(20,g),(21,h),(22,i),(18,i),(23,j),(24,k),(11,l),(12,k),(25,m),(26,n),(27,x2),(28,o),(13,o),(14,(Value.int IntKind.i64 0)),(29,x2),(30,p),(31,q),(32,r),(15,r),(33,s),(34,t),(36,u),(35,u),(38,o),(39,v),(40,w),(41,x),(42,y),(43,z),(44,aa),(45,r),(46,ab),(47,x3),(48,a),(37,a),(49,ad),(50,ae),(13,ad),(14,ae)]) ac
def qkkZ (a:Value)(b:Heap)(c d x3:Value)(e:Post)(x0 x1 x2 f g h i j k l m n o p q r s t u:Value):Prop:=ov (faV (some 2) a) fun v=>ov (ldV (some none) v b) fun w=>ov (faV (some 3) a) fun x=>ov (ldV (some none) x b) fun y=>ov (faV (some 4) a) fun z=>ov (ldV (some none) z b) fun aa=>ov (bdV (binf P qbZ) [(0,w),(1,y),(2,aa),(3,c)]) fun ab=>callM P qjFZ #[d,ab,x3] b fun ac ad=>qkjZ ac e x0 x1 x2 x3 f a g h i j k l m n o p d q r c s t u v w x y z aa ab ad
def qklZ (a:Value)(b:Post)(x0 x1 x2 x3 c d e f g h i j k l m n o p q r s t u v w x:Value)(y:Heap):Prop:=ov (exV a 0) fun z=>ov (exV a 1) fun aa=>b .normal [] (puts (envOf [x0,x1,x2,x3]) [(4,c),(5,d),(8,e),(9,(Value.slice none 0 0)),(10,(Value.int IntKind.i64 0)),(19,f),(20,g),(21,h),(22,i),(18,i),(23,j),(24,k),(11,l),(12,k),(25,m),(26,n),(27,x2),(28,o),(13,o),(14,(Value.int IntKind.i64 0)),(29,x2),(30,p),(31,q),(32,r),(15,r),(33,s),(34,t),(36,u),(35,u),(52,v),(51,v),(54,o),(55,w),(56,x),(57,r),(58,a),(53,a),(59,z),(60,aa),(13,z),(14,aa)]) y
def qkmZ (a:Value)(b:Heap)(c d:Value)(e:Post)(x0 x1 x2 x3 f g h i j k l m n o p q r s t u v:Value):Prop:=ov (faV (some 2) a) fun w=>ov (ldV (some none) w b) fun x=>callM P qiUZ #[c,x,d] b fun y z=>qklZ y e x0 x1 x2 x3 f a g h i j k l m n o p c q r d s t u v w x z
def qjqZ (a:Value)(b:Post)(x0 x1 x2 x3 c d e f g h i j k l m n o p q r s t u v w x y:Value)(z:Heap):Prop:=ov (exV a 0) fun aa=>ov (exV a 1) fun ab=>b .normal [] (puts (envOf [x0,x1,x2,x3]) [(4,c),(5,d),(8,e),(9,(Value.slice none 0 0)),(10,(Value.int IntKind.i64 0)),(19,f),(20,g),(21,h),(22,i),(18,i),(23,j),(24,k),(11,l),(12,k),(25,m),(26,n),(27,x2),(28,o),(13,o),(14,(Value.int IntKind.i64 0)),(29,x2),(30,p),(31,q),(32,r),(15,r),(33,s),(34,t),(36,u),(35,u),(52,v),(51,v),(62,w),(61,w),(64,o),(65,x),(66,y),(67,a),(63,a),(68,aa),(69,ab),(13,aa),(14,ab)]) z
def qjrZ (a:Value)(b:Heap)(c:Value)(d:Post)(x0 x1 x2 x3 e f g h i j k l m n o p q r s t u v w:Value):Prop:=ov (faV (some 2) a) fun x=>ov (ldV (some none) x b) fun y=>callM P qiyZ #[c,y] b fun z aa=>qjqZ z d x0 x1 x2 x3 e a f g h i j k l m n o c p q r s t u v w x y aa
def qjsZ (a:Post)(x0 x1 x2 x3 b c d e f g h i j k l m n o p q r s t u v:Value)(w:Heap):Prop:=a .normal [] (puts (envOf [x0,x1,x2,x3]) [(4,b),(5,c),(8,d),(9,(Value.slice none 0 0)),(10,(Value.int IntKind.i64 0)),(19,e),(20,f),(21,g),(22,h),(18,h),(23,i),(24,j),(11,k),(12,j),(25,l),(26,m),(27,x2),(28,n),(13,n),(14,(Value.int IntKind.i64 0)),(29,x2),(30,o),(31,p),(32,q),(15,q),(33,r),(34,s),(36,t),(35,t),(52,u),(51,u),(62,v),(61,v)]) w
def qjtZ (a b:Value)(c:Heap)(d:Value)(e:Post)(x0 x1 x2 x3 f g h i j k l m n o p q r s t u v:Value):Prop:=ov (binV BinOp.eql 2 true a (Value.int IntKind.i64 3)) fun w=>cdM w (qjrZ b c d e x0 x1 x2 x3 f g h i j k l m n o p q r s t a u v w) (qjsZ e x0 x1 x2 x3 f b g h i j k l m n o p d q r s t a u v w c)
def qknZ (a b:Value)(c:Heap)(d e:Value)(f:Post)(x0 x1 x2 x3 g h i j k l m n o p q r s t u:Value):Prop:=ov (binV BinOp.eql 2 true a (Value.int IntKind.i64 2)) fun v=>cdM v (qkmZ b c d e f x0 x1 x2 x3 g h i j k l m n o p q r s t a u v) (qjtZ a b c d f x0 x1 x2 x3 g h i j k l m n o p q r s e t u v)
def qkoZ (a:Value)(b:Heap)(c d x3:Value)(e:Post)(x0 x1 x2 f g h i j k l m n o p q r:Value):Prop:=ov (faV (some 0) a) fun s=>ov (ldV (some none) s b) fun t=>ov (binV BinOp.eql 2 true t (Value.int IntKind.i64 1)) fun u=>cdM u (qkkZ a b c d x3 e x0 x1 x2 f g h i j k l m n o p q r s t u) (qknZ t a b d c e x0 x1 x2 x3 f g h i j k l m n o p q r s u)
def qjuZ (a:Value)(b:Heap)(c:Env)(K:KTy)(m:List Nat)(d e f:Value):Prop:=ov (exV a 0) fun g=>ov (exV a 1) fun h=>nwM (zc P qaZ) qaZ b fun i j=>stM (some 2) i g j fun k=>ov (ldV (some (some 2)) i k) fun l=>stM (some 2) (c 8) l k fun n=>(retM P [.cell 8 70,.tmp 9,.tmp 10] K) .ret m (puts c [(71,d),(72,e),(73,f),(74,(c 13)),(75,(c 2)),(76,a),(70,a),(77,g),(78,h),(16,i),(17,h),(79,l),(80,h),(81,(c 14)),(9,h),(10,(c 14))]) n
def qgVZ (a:Env)(b:Heap)(K:KTy)(m:List Nat):Prop:=ov (ldV (some (some 2)) (a 4) b) fun c=>ov (faV (some 1) (a 5)) fun d=>ov (ldV (some none) d b) fun e=>callM P qfHZ #[c,e,(a 13),(a 2)] b fun f g=>qjuZ f g a K m c d e
def qkpZ (a:Value)(b:Heap)(c d x3 x0 x1 x2 e f g h i j k l n o p q r:Value)(K:KTy):Prop:=seqM (fun s=>qkoZ a b c d x3 s x0 x1 x2 e f g h i j k l n o p q r) (fun m t u=>qgVZ t u K m) (retM P [.cell 8 70,.tmp 9,.tmp 10] K)
def qkqZ (a:Value)(b:Heap)(x2 c x3 x0 x1 d e f g h i j k l m n:Value)(K:KTy):Prop:=ov (faV (some 5) a) fun o=>ov (ldV (some none) o b) fun p=>callM P qicZ #[x2,p] b fun q r=>qkpZ a r q c x3 x0 x1 x2 d e f g h i j k l m n o p K
def qkrZ (a:Value)(b:Heap)(x2 c x3 x0 x1 d e f g h:Value)(K:KTy):Prop:=ov (exV a 0) fun i=>ov (exV a 1) fun j=>nwM (zc P qhZ) qhZ b fun k l=>stM (some 4) k i l fun m=>ov (faV (some 0) k) fun n=>ov (ldV (some none) n m) fun o=>callM P qgmZ #[o,x2] m fun p q=>qkqZ c q x2 p x3 x0 x1 d e f g h a i j k n o K
def qjbZ (x0 x1 x2 x3:Value)(h:Heap)(K:KTy):Prop:=nwM (some x0.cells) qaZ h fun a b=>nwM (some x1.cells) qeyZ b fun c d=>nwM (zc P qaZ) qaZ d fun e f=>ov (ldV (some (some 2)) a f) fun g=>ov (faV (some 1) c) fun i=>ov (ldV (some none) i f) fun j=>callM P qwZ #[g,j] f fun k l=>qkrZ k l x2 c x3 x0 x1 a e g i j K
theorem qmMZ {x0 x1 x2 x3:Value}{h:Heap}(hd:qjbZ x0 x1 x2 x3 h K):callM P qglZ #[x0,x1,x2,x3] h K :=
 call_of good mixed (fn:=Tryz.f209) (args:=[x0,x1,x2,x3]) Tryz.func209 rfl (by kernel_rfl) (of_decide_eq_true rfl) (B:=qjbZ x0 x1 x2 x3 h K) (by kernel_rfl) hd
end Go.Proofs.YtcnphhhcknhhaaaGreat
namespace Go.Proofs.YtcnphhhcknhhaaaGreat
open Go Go.Den
set_option maxRecDepth 100000
set_option linter.unusedVariables false
def qeKZ (x0:Value)(h:Heap)(K:KTy):Prop:=vvM P (Builtin.max_ #[qiZ,qiZ] qiZ #[x0,(Value.int IntKind.i64 0)]) h fun a b=>ov (bdV (binf P qEZ) [(0,a)]) fun c=>nwM (some c.cells) qEZ b fun d e=>K d e
variable {K:KTy}
theorem qkFZ {x0:Value}{h:Heap}(hd:qeKZ x0 h K):callM P qetZ #[x0] h K :=
 call_of good mixed (fn:=Tryz.f228) (args:=[x0]) Tryz.func228 rfl (by kernel_rfl) (of_decide_eq_true rfl) (B:=qeKZ x0 h K) (by kernel_rfl) hd
def qeuZ (x0 x1 x2:Value)(h:Heap)(K:KTy):Prop:=nwM (some x1.cells) qsZ h fun a b=>nwM (zc P qvZ) qvZ b fun c d=>ov (ldV (some none) x2 d) fun e=>ov (ldV (some (some 3)) a d) fun f=>callM P qfnZ #[x0,(Value.int IntKind.i64 8),e,f] d fun g i=>ov (bdV (binf P qvZ) []) fun j=>stM (some 4) c j i fun k=>ov (ldV (some (some 4)) c k) fun l=>K l k
theorem qksZ {x0 x1 x2:Value}{h:Heap}(hd:qeuZ x0 x1 x2 h K):callM P qeiZ #[x0,x1,x2] h K :=
 call_of good mixed (fn:=Tryz.f229) (args:=[x0,x1,x2]) Tryz.func229 rfl (by kernel_rfl) (of_decide_eq_true rfl) (B:=qeuZ x0 x1 x2 h K) (by kernel_rfl) hd
def qiEZ (x0:Value)(h:Heap)(K:KTy):Prop:=ov (binV BinOp.geq 2 true x0 (Value.int IntKind.i64 0)) fun a=>gM (isB a true) (fun b=>b x0 h) h fun c d=>gM (isB a true) (fun e=>ov (binV BinOp.lss 2 true c (Value.int IntKind.i64 8)) fun f=>e f d) d fun g i=>ov (pkV a g (Value.bool false)) fun j=>K j i
theorem qmBZ {x0:Value}{h:Heap}(hd:qiEZ x0 h K):callM P qhPZ #[x0] h K :=
 call_of good mixed (fn:=Tryz.f239) (args:=[x0]) Tryz.func239 rfl (by kernel_rfl) (of_decide_eq_true rfl) (B:=qiEZ x0 h K) (by kernel_rfl) hd
def qdPZ (a:Value)(b:Heap)(c:Value)(K:KTy):Prop:=ov (faV (some 1) a) fun d=>ov (ldV (some none) d b) fun e=>ov (iaV (some (none,1)) e c) fun f=>ov (ldV (some none) f b) fun g=>K (.tuple #[g,(Value.bool true)]) b
def qdQZ (a:Value)(K:KTy)(b:Heap)(c:Value):Prop:=ov (exV a 0) fun d=>ov (exV a 1) fun e=>ov (unV UnOp.not e) fun f=>cdM f (K (.tuple #[(Value.int IntKind.u32 0),(Value.bool false)]) b) (qdPZ c b d K)
def qbXZ (x0 x1:Value)(h:Heap)(K:KTy):Prop:=nwM (some x0.cells) qfjZ h fun a b=>ov (ldV (some (some 2)) a b) fun c=>callM P qbmZ #[c,x1] b fun d e=>qdQZ d K e a
theorem qhVZ {x0 x1:Value}{h:Heap}(hd:qbXZ x0 x1 h K):callM P qbKZ #[x0,x1] h K :=
 call_of good mixed (fn:=Tryz.f240) (args:=[x0,x1]) Tryz.func240 rfl (by kernel_rfl) (of_decide_eq_true rfl) (B:=qbXZ x0 x1 h K) (by kernel_rfl) hd
def qmaZ (a:Env)(b:Post)(m:List Nat)(c:Value)(d:Heap):Prop:=ov (stV (a 0) (a 7)) fun e=>ov (cvV (some .u64) e) fun f=>ov (binV BinOp.xor 2 false (a 3) f) fun g=>ov (binV BinOp.mul 2 true g (Value.int IntKind.u64 1099511628211)) fun h=>ov (binV BinOp.add 2 true (a 7) (Value.int IntKind.i64 1)) fun i=>b .normal m (puts a [(8,c),(9,(a 7)),(4,(a 7)),(10,(a 3)),(11,(a 0)),(12,(a 7)),(13,e),(14,f),(15,g),(3,g),(16,g),(17,h),(3,h),(18,i),(7,i)]) d
def qmbZ (a:Env)(b:Post)(m:List Nat)(c:Heap):Prop:=ov (binV BinOp.lss 2 false (a 7) (a 6)) fun d=>cdM d (qmaZ a b m d c) (b (.exit 0) m (puts a [(8,d)]) c)
def qmcZ (x0:Value)(h:Heap)(a:Post):Prop:=ov (lnV 3 x0) fun b=>loopM (fun m c d e=>qmbZ c e m d) [] (puts (envOf [x0]) [(2,(Value.int IntKind.u64 0)),(3,(Value.int IntKind.u64 14695981039346656037)),(5,x0),(6,b),(7,(Value.int IntKind.i64 0))]) h (blkM 0 a)
def qlCZ (x0:Value)(h:Heap)(K:KTy):Prop:=seqM (fun a=>qmcZ x0 h a) (fun m b c=>(retM P [.tmp 2] K) .ret m (puts b [(19,(b 3)),(2,(b 3))]) c) (retM P [.tmp 2] K)
theorem qndZ {x0:Value}{h:Heap}(hd:qlCZ x0 h K):callM P qkyZ #[x0] h K :=
 call_of good mixed (fn:=Tryz.f241) (args:=[x0]) Tryz.func241 rfl (by kernel_rfl) (of_decide_eq_true rfl) (B:=qlCZ x0 h K) (by kernel_rfl) hd
def qeoZ (x0 x1:Value)(h:Heap)(K:KTy):Prop:=ov (ncV x0) fun a=>ov (faV (some 0) a) fun b=>ov (ldV (some none) b h) fun c=>ov (ncV x0) fun d=>ov (faV (some 1) d) fun e=>ov (ldV (some none) e h) fun f=>callM P qfMZ #[x1,c,f] h fun g i=>K (.tuple #[]) i
theorem qiMZ {x0 x1:Value}{h:Heap}(hd:qeoZ x0 x1 h K):callM P qalZ #[x0,x1] h K :=
 call_of good mixed (fn:=Tryz.f242) (args:=[x0,x1]) Tryz.func242 rfl (by kernel_rfl) (of_decide_eq_true rfl) (B:=qeoZ x0 x1 h K) (by kernel_rfl) hd
def qdRZ (x0 x1:Value)(h:Heap)(K:KTy):Prop:=ov (ncV x0) fun a=>ov (faV (some 0) a) fun b=>ov (ldV (some none) b h) fun c=>ov (ncV x0) fun d=>ov (faV (some 1) d) fun e=>ov (ldV (some none) e h) fun f=>callM P qfpZ #[x1,c,f] h fun g i=>K (.tuple #[]) i
theorem qivZ {x0 x1:Value}{h:Heap}(hd:qdRZ x0 x1 h K):callM P qabZ #[x0,x1] h K :=
 call_of good mixed (fn:=Tryz.f243) (args:=[x0,x1]) Tryz.func243 rfl (by kernel_rfl) (of_decide_eq_true rfl) (B:=qdRZ x0 x1 h K) (by kernel_rfl) hd
def qepZ (x0 x1:Value)(h:Heap)(K:KTy):Prop:=ov (ncV x0) fun a=>ov (faV (some 0) a) fun b=>ov (ldV (some none) b h) fun c=>callM P qfLZ #[x1,c] h fun d e=>ov (ncV x0) fun f=>ov (faV (some 4) f) fun g=>stM (some 3) g d e fun i=>K (.tuple #[]) i
theorem qiNZ {x0 x1:Value}{h:Heap}(hd:qepZ x0 x1 h K):callM P qamZ #[x0,x1] h K :=
 call_of good mixed (fn:=Tryz.f244) (args:=[x0,x1]) Tryz.func244 rfl (by kernel_rfl) (of_decide_eq_true rfl) (B:=qepZ x0 x1 h K) (by kernel_rfl) hd
def qdSZ (x0 x1:Value)(h:Heap)(K:KTy):Prop:=ov (ncV x0) fun a=>ov (faV (some 2) a) fun b=>ov (ldV (some none) b h) fun c=>ov (ncV x0) fun e=>ov (faV (some 4) e) fun f=>ov (ldV (some (some 3)) f h) fun g=>nxM P (do let d ← Deferred.ofValue c #[x1,g] ; invoke d.target d.args) h fun i j=>ov (ncV x0) fun k=>ov (faV (some 8) k) fun l=>stM (some 4) l i j fun m=>K (.tuple #[]) m
theorem qiwZ {x0 x1:Value}{h:Heap}(hd:qdSZ x0 x1 h K):callM P qacZ #[x0,x1] h K :=
 call_of good mixed (fn:=Tryz.f245) (args:=[x0,x1]) Tryz.func245 rfl (by kernel_rfl) (of_decide_eq_true rfl) (B:=qdSZ x0 x1 h K) (by kernel_rfl) hd
def qdgZ (x0 x1:Value)(h:Heap)(K:KTy):Prop:=ov (ncV x0) fun a=>ov (faV (some 0) a) fun b=>ov (ldV (some none) b h) fun c=>ov (ncV x0) fun d=>ov (faV (some 1) d) fun e=>ov (ldV (some none) e h) fun f=>callM P qeBZ #[x1,c,f] h fun g i=>K (.tuple #[]) i
theorem qgWZ {x0 x1:Value}{h:Heap}(hd:qdgZ x0 x1 h K):callM P qKZ #[x0,x1] h K :=
 call_of good mixed (fn:=Tryz.f246) (args:=[x0,x1]) Tryz.func246 rfl (by kernel_rfl) (of_decide_eq_true rfl) (B:=qdgZ x0 x1 h K) (by kernel_rfl) hd
def qeLZ (x0 x1:Value)(h:Heap)(K:KTy):Prop:=ov (ncV x0) fun a=>ov (faV (some 0) a) fun b=>ov (ldV (some none) b h) fun c=>ov (ncV x0) fun d=>ov (faV (some 1) d) fun e=>ov (ldV (some none) e h) fun f=>callM P qgnZ #[x1,c,f] h fun g i=>K (.tuple #[]) i
theorem qjcZ {x0 x1:Value}{h:Heap}(hd:qeLZ x0 x1 h K):callM P qayZ #[x0,x1] h K :=
 call_of good mixed (fn:=Tryz.f247) (args:=[x0,x1]) Tryz.func247 rfl (by kernel_rfl) (of_decide_eq_true rfl) (B:=qeLZ x0 x1 h K) (by kernel_rfl) hd
def qdqZ (x0 x1:Value)(h:Heap)(K:KTy):Prop:=ov (ncV x0) fun a=>ov (faV (some 0) a) fun b=>ov (ldV (some none) b h) fun c=>ov (ncV x0) fun d=>ov (faV (some 1) d) fun e=>ov (ldV (some none) e h) fun f=>callM P qeSZ #[x1,c,f] h fun g i=>K (.tuple #[]) i
theorem qhEZ {x0 x1:Value}{h:Heap}(hd:qdqZ x0 x1 h K):callM P qUZ #[x0,x1] h K :=
 call_of good mixed (fn:=Tryz.f248) (args:=[x0,x1]) Tryz.func248 rfl (by kernel_rfl) (of_decide_eq_true rfl) (B:=qdqZ x0 x1 h K) (by kernel_rfl) hd
def qgXZ (a:Value)(b:Heap)(c:Value)(K:KTy):Prop:=ov (ldV (some (some 1)) a b) fun d=>stM (some 1) c d b fun e=>ov (ldV (some (some 1)) c e) fun f=>K (.tuple #[f,(Value.bool false)]) e
def qgYZ (x1 a:Value)(b:Heap)(K:KTy):Prop:=ov (binV BinOp.add 2 true x1 (Value.int IntKind.i64 1)) fun c=>ov (bdV (binf P qjZ) [(0,c)]) fun d=>stM (some 1) a d b fun e=>ov (ldV (some (some 1)) a e) fun f=>K (.tuple #[f,(Value.bool true)]) e
def qfAZ (x0 x1:Value)(h:Heap)(K:KTy):Prop:=nwM (some x0.cells) qjZ h fun a b=>nwM (zc P qjZ) qjZ b fun c d=>ov (binV BinOp.lss 2 true x1 (Value.int IntKind.i64 0)) fun e=>gM (isB e false) (fun f=>ov (ldV (some (some 1)) a d) fun g=>f g d) d fun i j=>gM (isB e false) (fun k=>callM P qbPZ #[i] j fun l m=>k l m) j fun n o=>gM (isB e false) (fun p=>ov (unV UnOp.not n) fun q=>p q o) o fun r s=>ov (pkV e (Value.bool true) r) fun t=>cdM t (qgXZ a s c K) (qgYZ x1 c s K)
theorem qlDZ {x0 x1:Value}{h:Heap}(hd:qfAZ x0 x1 h K):callM P qeTZ #[x0,x1] h K :=
 call_of good mixed (fn:=Tryz.f249) (args:=[x0,x1]) Tryz.func249 rfl (by kernel_rfl) (of_decide_eq_true rfl) (B:=qfAZ x0 x1 h K) (by kernel_rfl) hd
def qgZZ (a:Value)(b:Heap)(c:Value)(K:KTy):Prop:=ov (ldV (some (some 1)) a b) fun d=>stM (some 1) c d b fun e=>ov (ldV (some (some 1)) c e) fun f=>K (.tuple #[f,(Value.bool false)]) e
def qhaZ (a:Value)(b:Heap)(K:KTy):Prop:=ov (bdV (binf P qjZ) []) fun c=>stM (some 1) a c b fun d=>ov (ldV (some (some 1)) a d) fun e=>K (.tuple #[e,(Value.bool true)]) d
def qhbZ (a b:Value)(c:Heap)(x1 d:Value)(K:KTy):Prop:=gM (isB a false) (fun e=>ov (ldV (some (some 1)) b c) fun f=>e f c) c fun g h=>gM (isB a false) (fun i=>callM P qeDZ #[g] h fun j k=>i j k) h fun l m=>gM (isB a false) (fun n=>n x1 m) m fun o p=>gM (isB a false) (fun q=>ov (binV BinOp.neq 2 false l o) fun r=>q r p) p fun s t=>ov (pkV a (Value.bool true) s) fun u=>cdM u (qgZZ b t d K) (qhaZ d t K)
def qfBZ (x0 x1:Value)(h:Heap)(K:KTy):Prop:=nwM (some x0.cells) qjZ h fun a b=>nwM (zc P qjZ) qjZ b fun c d=>ov (ldV (some (some 1)) a d) fun e=>callM P qbPZ #[e] d fun f g=>qhbZ f a g x1 c K
theorem qlEZ {x0 x1:Value}{h:Heap}(hd:qfBZ x0 x1 h K):callM P qeUZ #[x0,x1] h K :=
 call_of good mixed (fn:=Tryz.f251) (args:=[x0,x1]) Tryz.func251 rfl (by kernel_rfl) (of_decide_eq_true rfl) (B:=qfBZ x0 x1 h K) (by kernel_rfl) hd
def qhFZ (a:Value)(b:Heap)(c:Post)(x0 d e f g h i j k:Value):Prop:=ov (faV (some 0) a) fun l=>ov (ldV (some none) l b) fun m=>ov (binV BinOp.add 2 true m (Value.int IntKind.u64 1)) fun n=>ov (faV (some 0) a) fun o=>stM (some 1) o n b fun p=>c .normal [] (puts (envOf [x0]) [(1,a),(2,d),(3,e),(4,f),(5,g),(6,g),(7,h),(8,i),(9,j),(10,k),(11,l),(12,m),(13,n),(14,o)]) p
def qhGZ (a b:Value)(c:Heap)(d:Post)(x0 e f:Value):Prop:=ov (unV UnOp.not a) fun g=>gM (isB g true) (fun h=>ov (ldV (some (some 2)) b c) fun i=>h i c) c fun j k=>gM (isB g true) (fun l=>callM P qblZ #[j] k fun m n=>l m n) k fun o p=>gM (isB g true) (fun q=>ov (unV UnOp.not o) fun r=>q r p) p fun s t=>ov (pkV g s (Value.bool false)) fun u=>cdM u (qhFZ b t d x0 e f a g j o s u) (d .normal [] (puts (envOf [x0]) [(1,b),(2,e),(3,f),(4,a),(5,g),(6,g),(7,j),(8,o),(9,s),(10,u)]) t)
def qhHZ (a:Value)(b:Heap)(c:Post)(x0 d:Value):Prop:=ov (ldV (some (some 2)) a b) fun e=>callM P qfrZ #[e] b fun f g=>qhGZ f a g c x0 d e
def qfSZ (x0:Value)(h:Heap)(K:KTy):Prop:=nwM (some x0.cells) qDZ h fun a b=>nwM (zc P qDZ) qDZ b fun c d=>seqM (fun e=>qhHZ a d e x0 c) (fun m f g=>ov (ldV (some (some 2)) (f 1) g) fun i=>stM (some 2) (f 2) i g fun j=>(retM P [.cell 2 193] K) .ret m (puts f [(15,i)]) j) (retM P [.cell 2 193] K)
theorem qlUZ {x0:Value}{h:Heap}(hd:qfSZ x0 h K):callM P qfqZ #[x0] h K :=
 call_of good mixed (fn:=Tryz.f253) (args:=[x0]) Tryz.func253 rfl (by kernel_rfl) (of_decide_eq_true rfl) (B:=qfSZ x0 h K) (by kernel_rfl) hd
def qiOZ (a:Value)(b:Heap)(c:Post)(x0 d e f:Value):Prop:=ov (faV (some 0) a) fun g=>ov (ldV (some none) g b) fun h=>ov (binV BinOp.add 2 true h (Value.int IntKind.u64 1)) fun i=>ov (faV (some 0) a) fun j=>stM (some 1) j i b fun k=>c .normal [] (puts (envOf [x0]) [(1,a),(2,d),(3,e),(4,f),(5,g),(6,h),(7,i),(8,j)]) k
def qiPZ (a b:Value)(c:Heap)(d:Post)(x0 e f:Value):Prop:=cdM a (qiOZ b c d x0 e f a) (d .normal [] (puts (envOf [x0]) [(1,b),(2,e),(3,f),(4,a)]) c)
def qiQZ (a:Value)(b:Heap)(c:Post)(x0 d:Value):Prop:=ov (ldV (some (some 2)) a b) fun e=>callM P qblZ #[e] b fun f g=>qiPZ f a g c x0 d e
def qhcZ (x0:Value)(h:Heap)(K:KTy):Prop:=nwM (some x0.cells) qDZ h fun a b=>nwM (zc P qDZ) qDZ b fun c d=>seqM (fun e=>qiQZ a d e x0 c) (fun m f g=>ov (ldV (some (some 2)) (f 1) g) fun i=>stM (some 2) (f 2) i g fun j=>(retM P [.cell 2 193] K) .ret m (puts f [(9,i)]) j) (retM P [.cell 2 193] K)
theorem qmoZ {x0:Value}{h:Heap}(hd:qhcZ x0 h K):callM P qgoZ #[x0] h K :=
 call_of good mixed (fn:=Tryz.f255) (args:=[x0]) Tryz.func255 rfl (by kernel_rfl) (of_decide_eq_true rfl) (B:=qhcZ x0 h K) (by kernel_rfl) hd
def qdTZ (a:Post)(m:List Nat)(b:Env)(c d e f g h:Value)(i:Heap):Prop:=a .ret m (puts b [(14,c),(15,(b 13)),(5,(b 13)),(16,(b 0)),(17,(b 13)),(18,d),(19,e),(20,(b 1)),(21,(b 13)),(22,f),(23,g),(24,h),(4,(Value.bool false))]) i
def qdUZ (a:Env)(b:Post)(m:List Nat)(c d e f g h:Value)(i:Heap):Prop:=ov (binV BinOp.add 2 true (a 13) (Value.int IntKind.i64 1)) fun j=>b .normal m (puts a [(14,c),(15,(a 13)),(5,(a 13)),(16,(a 0)),(17,(a 13)),(18,d),(19,e),(20,(a 1)),(21,(a 13)),(22,f),(23,g),(24,h),(25,j),(13,j)]) i
def qdVZ (a:Env)(b:Heap)(c:Post)(m:List Nat)(d:Value):Prop:=ov (iaV (some (none,1)) (a 0) (a 13)) fun e=>ov (ldV (some none) e b) fun f=>ov (iaV (some (none,1)) (a 1) (a 13)) fun g=>ov (ldV (some none) g b) fun h=>ov (binV BinOp.neq 3 false f h) fun i=>cdM i (qdTZ c m a d e f g h i b) (qdUZ a c m d e f g h i b)
def qdWZ (a:Env)(b:Heap)(c:Post)(m:List Nat):Prop:=ov (binV BinOp.lss 2 false (a 13) (a 12)) fun d=>cdM d (qdVZ a b c m d) (c (.exit 0) m (puts a [(14,d)]) b)
def qdXZ (x0 x1 a b c:Value)(h:Heap)(d:Post):Prop:=ov (lnV 7 x0) fun e=>loopM (fun m f g i=>qdWZ f g i m) [] (puts (envOf [x0,x1]) [(4,(Value.bool false)),(6,x0),(7,a),(8,x1),(9,b),(10,c),(11,x0),(12,e),(13,(Value.int IntKind.i64 0))]) h (blkM 0 d)
def qdYZ (x0 x1 a b c:Value)(h:Heap)(K:KTy):Prop:=seqM (fun d=>qdXZ x0 x1 a b c h d) (fun m e f=>(retM P [.tmp 4] K) .ret m (puts e [(4,(Value.bool true))]) f) (retM P [.tmp 4] K)
def qbYZ (x0 x1:Value)(h:Heap)(K:KTy):Prop:=ov (lnV 7 x0) fun a=>ov (lnV 7 x1) fun b=>ov (binV BinOp.neq 2 false a b) fun c=>cdM c (K (Value.bool false) h) (qdYZ x0 x1 a b c h K)
theorem qhWZ {x0 x1:Value}{h:Heap}(hd:qbYZ x0 x1 h K):callM P qbLZ #[x0,x1] h K :=
 call_of good mixed (fn:=Tryz.f265) (args:=[x0,x1]) Tryz.func265 rfl (by kernel_rfl) (of_decide_eq_true rfl) (B:=qbYZ x0 x1 h K) (by kernel_rfl) hd
def qcOZ (a x0 b c d:Value)(e:Heap)(f:Post):Prop:=rfM P gd a #[7,8] (rfA P qlZ 0) (rfB P qlZ 0) [] (puts (envOf [x0]) [(1,b),(2,(Value.slice none 0 0)),(3,c),(5,d),(6,a)]) e (blkM 0 f)
def qcPZ (a:Value)(b:Heap)(x0 c:Value)(d:Post):Prop:=ov (ldV (some (some 2)) a b) fun e=>callM P qrZ #[e] b fun f g=>qcOZ f x0 a c e g d
def qaJZ (x0:Value)(h:Heap)(K:KTy):Prop:=nwM (some x0.cells) qaZ h fun a b=>nwM (zc P qfZ) qfZ b fun c d=>seqM (fun e=>qcPZ a d x0 c e) (fun m f g=>ov (ldV (some none) (f 3) g) fun i=>(retM P [.tmp 2] K) .ret m (puts f [(13,i),(2,i)]) g) (retM P [.tmp 2] K)
theorem qgiZ {x0:Value}{h:Heap}(hd:qaJZ x0 h K):callM P qlZ #[x0] h K :=
 call_of good mixed (fn:=Tryz.f266) (args:=[x0]) Tryz.func266 rfl (by kernel_rfl) (of_decide_eq_true rfl) (B:=qaJZ x0 h K) (by kernel_rfl) hd
def qcoZ (m:List Nat)(s:Env)(h:Heap)(Q:Post):Prop:=Q .normal m (puts s [(4,(s 7))]) h
theorem qfCZ {m:List Nat}{s:Env}{h:Heap}{Q:Post}:den P gd (rfA P qlZ 0) m s h Q=qcoZ m s h Q:=by kernel_rfl
def qcpZ (m:List Nat)(s:Env)(h:Heap)(Q:Post):Prop:=ov (ldV (some none) (s 3) h) fun a=>bsM (bsI P qfZ) 1 [(0,(s 4))] h fun b c=>vvM P (Builtin.append_ #[qfZ,qfZ] qfZ #[a,b]) c fun d e=>stM (some 1) (s 3) d e fun f=>Q .normal m (puts s [(9,a),(10,(s 4)),(11,b),(12,d)]) f
theorem qfDZ {m:List Nat}{s:Env}{h:Heap}{Q:Post}:den P gd (rfB P qlZ 0) m s h Q=qcpZ m s h Q:=by kernel_rfl
def qboZ (a:Post)(m:List Nat)(b:Env)(c d e f g h:Value)(i:Heap):Prop:=a .ret m (puts b [(14,c),(15,(b 13)),(5,(b 13)),(16,(b 0)),(17,(b 13)),(18,d),(19,e),(20,(b 1)),(21,(b 13)),(22,f),(23,g),(24,h),(4,(Value.bool false))]) i
def qbpZ (a:Env)(b:Post)(m:List Nat)(c d e f g h:Value)(i:Heap):Prop:=ov (binV BinOp.add 2 true (a 13) (Value.int IntKind.i64 1)) fun j=>b .normal m (puts a [(14,c),(15,(a 13)),(5,(a 13)),(16,(a 0)),(17,(a 13)),(18,d),(19,e),(20,(a 1)),(21,(a 13)),(22,f),(23,g),(24,h),(25,j),(13,j)]) i
def qbqZ (a:Env)(b:Heap)(c:Post)(m:List Nat)(d:Value):Prop:=ov (iaV (some (none,4)) (a 0) (a 13)) fun e=>ov (ldV (some (some 4)) e b) fun f=>ov (iaV (some (none,4)) (a 1) (a 13)) fun g=>ov (ldV (some (some 4)) g b) fun h=>pvM P (do eqGuard BinOp.neq qbZ (Operand.tmp 19) (Operand.tmp 23) f h; binOp BinOp.neq qbZ f h) fun i=>cdM i (qboZ c m a d e f g h i b) (qbpZ a c m d e f g h i b)
def qbrZ (a:Env)(b:Heap)(c:Post)(m:List Nat):Prop:=ov (binV BinOp.lss 2 false (a 13) (a 12)) fun d=>cdM d (qbqZ a b c m d) (c (.exit 0) m (puts a [(14,d)]) b)
def qbsZ (x0 x1 a b c:Value)(h:Heap)(d:Post):Prop:=ov (lnV 7 x0) fun e=>loopM (fun m f g i=>qbrZ f g i m) [] (puts (envOf [x0,x1]) [(4,(Value.bool false)),(6,x0),(7,a),(8,x1),(9,b),(10,c),(11,x0),(12,e),(13,(Value.int IntKind.i64 0))]) h (blkM 0 d)
def qbtZ (x0 x1 a b c:Value)(h:Heap)(K:KTy):Prop:=seqM (fun d=>qbsZ x0 x1 a b c h d) (fun m e f=>(retM P [.tmp 4] K) .ret m (puts e [(4,(Value.bool true))]) f) (retM P [.tmp 4] K)
def qaeZ (x0 x1:Value)(h:Heap)(K:KTy):Prop:=ov (lnV 7 x0) fun a=>ov (lnV 7 x1) fun b=>ov (binV BinOp.neq 2 false a b) fun c=>cdM c (K (Value.bool false) h) (qbtZ x0 x1 a b c h K)
theorem qffZ {x0 x1:Value}{h:Heap}(hd:qaeZ x0 x1 h K):callM P qXZ #[x0,x1] h K :=
 call_of good mixed (fn:=Tryz.f267) (args:=[x0,x1]) Tryz.func267 rfl (by kernel_rfl) (of_decide_eq_true rfl) (B:=qaeZ x0 x1 h K) (by kernel_rfl) hd
def qkGZ (x0 x1:Value)(h:Heap)(K:KTy):Prop:=ov (binV BinOp.sub 2 true (Value.int IntKind.u64 18446744073709551615) x0) fun a=>ov (binV BinOp.gtr 2 false x1 a) fun b=>cdM b (K (Value.int IntKind.u64 18446744073709551615) h) (ov (binV BinOp.add 2 false x0 x1) fun c=>K c h)
theorem qnaZ {x0 x1:Value}{h:Heap}(hd:qkGZ x0 x1 h K):callM P qicZ #[x0,x1] h K :=
 call_of good mixed (fn:=Tryz.f268) (args:=[x0,x1]) Tryz.func268 rfl (by kernel_rfl) (of_decide_eq_true rfl) (B:=qkGZ x0 x1 h K) (by kernel_rfl) hd
end Go.Proofs.YtcnphhhcknhhaaaGreat
namespace Go.Proofs.YtcnphhhcknhhaaaGreat
open Go Go.Den
set_option maxRecDepth 100000
set_option linter.unusedVariables false
def qaKZ (x0 x1:Value)(h:Heap)(K:KTy):Prop:=nwM (some x0.cells) qaZ h fun a b=>ov (faV (some 0) a) fun c=>ov (ldV (some none) c b) fun d=>callM P qCZ #[d,x1] b fun e f=>ov (exV e 0) fun g=>ov (exV e 1) fun i=>K (.tuple #[g,i]) f
variable {K:KTy}
theorem qgjZ {x0 x1:Value}{h:Heap}(hd:qaKZ x0 x1 h K):callM P quZ #[x0,x1] h K :=
 call_of good mixed (fn:=Tryz.f269) (args:=[x0,x1]) Tryz.func269 rfl (by kernel_rfl) (of_decide_eq_true rfl) (B:=qaKZ x0 x1 h K) (by kernel_rfl) hd
def qjKZ (x0 x1:Value)(h:Heap)(K:KTy):Prop:=nwM (some x0.cells) qeZ h fun a b=>nwM (some x1.cells) qaaZ b fun c d=>ov ((some (.func (Fn.func qgDZ) #[] #[a,c]):Option Value)) fun e=>K e d
theorem qmTZ {x0 x1:Value}{h:Heap}(hd:qjKZ x0 x1 h K):callM P qljZ #[x0,x1] h K :=
 call_of good mixed (fn:=Tryz.f270) (args:=[x0,x1]) Tryz.func270 rfl (by kernel_rfl) (of_decide_eq_true rfl) (B:=qjKZ x0 x1 h K) (by kernel_rfl) hd
def qiFZ (x0 x1:Value)(h:Heap)(K:KTy):Prop:=nwM (some x0.cells) qbZ h fun a b=>nwM (some x1.cells) qbZ b fun c d=>ov (faV (some 2) a) fun e=>ov (ldV (some none) e d) fun f=>ov (faV (some 2) c) fun g=>ov (ldV (some none) g d) fun i=>ov (binV BinOp.gtr 2 false f i) fun j=>gM (isB j false) (fun k=>ov (faV (some 2) a) fun l=>k l d) d fun m n=>gM (isB j false) (fun o=>ov (ldV (some none) m n) fun p=>o p n) n fun q r=>gM (isB j false) (fun s=>ov (faV (some 2) c) fun t=>s t r) r fun u v=>gM (isB j false) (fun w=>ov (ldV (some none) u v) fun x=>w x v) v fun y z=>gM (isB j false) (fun aa=>ov (binV BinOp.eql 2 false q y) fun ab=>aa ab z) z fun ac ad=>gM (isB j false) (fun ae=>ae ac ad) ad fun af ag=>gM (isB af true) (fun ah=>ov (faV (some 0) a) fun ai=>ah ai ag) ag fun aj ak=>gM (isB af true) (fun al=>ov (ldV (some none) aj ak) fun am=>al am ak) ak fun an ao=>gM (isB af true) (fun ap=>ov (faV (some 0) c) fun aq=>ap aq ao) ao fun ar au=>gM (isB af true) (fun av=>ov (ldV (some none) ar au) fun aw=>av aw au) au fun ax ay=>gM (isB af true) (fun az=>ov (binV BinOp.lss 2 false an ax) fun ba=>az ba ay) ay fun bb bc=>gM (isB j false) (fun bd=>ov (pkV af bb (Value.bool false)) fun be=>bd be bc) bc fun bf bg=>ov (pkV j (Value.bool true) bf) fun bh=>K bh bg
theorem qmCZ {x0 x1:Value}{h:Heap}(hd:qiFZ x0 x1 h K):callM P qhQZ #[x0,x1] h K :=
 call_of good mixed (fn:=Tryz.f271) (args:=[x0,x1]) Tryz.func271 rfl (by kernel_rfl) (of_decide_eq_true rfl) (B:=qiFZ x0 x1 h K) (by kernel_rfl) hd
def qjvZ (a:Value)(b:Heap)(c x1:Value)(d:Post)(x0 x2 x3 e f g h i j k l m n o:Value):Prop:=ov (faV (some 1) a) fun p=>ov (ldV (some (some 3)) p b) fun q=>ov (ldV (some (some 3)) c b) fun r=>ov (bdV (binf P qzZ) [(0,x1),(1,q),(2,r)]) fun s=>bsM (bsI P qnZ) 1 [(0,s)] b fun t u=>d .normal [] (puts (envOf [x0,x1,x2,x3]) [(4,e),(8,f),(9,(Value.slice none 0 0)),(15,g),(16,x1),(17,h),(14,h),(18,i),(19,j),(10,a),(11,j),(20,x2),(21,x3),(22,k),(12,c),(13,(Value.slice none 0 0)),(23,l),(24,m),(25,n),(26,o),(27,x1),(28,p),(29,q),(30,r),(31,s),(32,t),(13,t)]) u
def qjwZ (a:Post)(x0 x1 x2 x3 b c d e f g h i j k l m n:Value)(o:Heap):Prop:=a .normal [] (puts (envOf [x0,x1,x2,x3]) [(4,b),(8,c),(9,(Value.slice none 0 0)),(15,d),(16,x1),(17,e),(14,e),(18,f),(19,g),(10,h),(11,g),(20,x2),(21,x3),(22,i),(12,j),(13,(Value.slice none 0 0)),(23,k),(24,l),(25,m),(26,n)]) o
def qjxZ (a:Value)(b:Heap)(c x1:Value)(d:Post)(x0 x2 x3 e f g h i j k:Value):Prop:=ov (ldV (some (some 3)) a b) fun l=>ov (faV (some 1) c) fun m=>ov (ldV (some (some 3)) m b) fun n=>pvM P (do eqGuard BinOp.neq qqZ (Operand.tmp 23) (Operand.tmp 25) l n; binOp BinOp.neq qqZ l n) fun o=>cdM o (qjvZ c b a x1 d x0 x2 x3 e f g h i j k l m n o) (qjwZ d x0 x1 x2 x3 e f g h i j c k a l m n o b)
def qjyZ (a:Env)(b:Value)(c:Heap)(K:KTy)(m:List Nat)(d e f:Value):Prop:=stM (some 2) (a 8) b c fun g=>(retM P [.cell 8 70,.tmp 9] K) .ret m (puts a [(33,(a 2)),(34,d),(35,e),(36,f),(37,(a 1)),(38,b),(39,(a 13)),(9,(a 13))]) g
def qjzZ (a:Env)(b:Heap)(K:KTy)(m:List Nat)(c d:Value):Prop:=ov (ldV (some (some 2)) (a 4) b) fun e=>callM P qahZ #[e,(a 1)] b fun f g=>qjyZ a f g K m c d e
def qjdZ (a:Env)(b:Value)(c:Heap)(K:KTy)(m:List Nat)(d e f g h:Value):Prop:=stM (some 2) (a 8) b c fun i=>(retM P [.cell 8 70,.tmp 9] K) .ret m (puts a [(33,(a 2)),(34,d),(35,e),(40,f),(41,(a 1)),(42,(a 2)),(43,g),(44,h),(45,b),(46,(a 13)),(9,(a 13))]) i
def qjAZ (a:Env)(b:Heap)(K:KTy)(m:List Nat)(c d:Value):Prop:=ov (ldV (some (some 2)) (a 4) b) fun e=>ov (ldV (some (some 3)) (a 12) b) fun f=>ov (bdV (binf P qhZ) [(0,(a 2)),(1,f)]) fun g=>callM P qazZ #[e,(a 1),g] b fun h i=>qjdZ a h i K m c d e f g
def qhdZ (a:Env)(b:Heap)(K:KTy)(m:List Nat):Prop:=ov (lnV 7 (a 2)) fun c=>ov (binV BinOp.eql 2 true c (Value.int IntKind.i64 0)) fun d=>cdM d (qjzZ a b K m c d) (qjAZ a b K m c d)
def qjBZ (a:Heap)(b c x1 x0 x2 x3 d e f g h i:Value)(K:KTy):Prop:=nwM (zc P qqZ) qqZ a fun j k=>stM (some 3) j b k fun l=>seqM (fun n=>qjxZ j l c x1 n x0 x2 x3 d e f g h i b) (fun m o p=>qhdZ o p K m) (retM P [.cell 8 70,.tmp 9] K)
def qjCZ (a:Value)(b:Heap)(x2 x3 x1 x0 c d e:Value)(K:KTy):Prop:=ov (exV a 0) fun f=>ov (exV a 1) fun g=>nwM (zc P qhZ) qhZ b fun h i=>stM (some 4) h f i fun j=>callM P qeCZ #[x2,x3] j fun k l=>qjBZ l k h x1 x0 x2 x3 c d e a f g K
def qiGZ (x0 x1 x2 x3:Value)(h:Heap)(K:KTy):Prop:=nwM (some x0.cells) qaZ h fun a b=>nwM (zc P qaZ) qaZ b fun c d=>ov (ldV (some (some 2)) a d) fun e=>callM P qwZ #[e,x1] d fun f g=>qjCZ f g x2 x3 x1 x0 a c e K
theorem qmDZ {x0 x1 x2 x3:Value}{h:Heap}(hd:qiGZ x0 x1 x2 x3 h K):callM P qfHZ #[x0,x1,x2,x3] h K :=
 call_of good mixed (fn:=Tryz.f273) (args:=[x0,x1,x2,x3]) Tryz.func273 rfl (by kernel_rfl) (of_decide_eq_true rfl) (B:=qiGZ x0 x1 x2 x3 h K) (by kernel_rfl) hd
def qktZ (a b:Value)(c:Heap)(K:KTy):Prop:=ov ((some (.func (Fn.func qanZ) #[] #[a]):Option Value)) fun d=>callM P qGZ #[b,d] c fun e f=>K e f
def qjeZ (x0 x1:Value)(h:Heap)(K:KTy):Prop:=nwM (some x1.cells) qaaZ h fun a b=>callM P qmZ #[x0] b fun c d=>qktZ a c d K
theorem qmNZ {x0 x1:Value}{h:Heap}(hd:qjeZ x0 x1 h K):callM P qgmZ #[x0,x1] h K :=
 call_of good mixed (fn:=Tryz.f274) (args:=[x0,x1]) Tryz.func274 rfl (by kernel_rfl) (of_decide_eq_true rfl) (B:=qjeZ x0 x1 h K) (by kernel_rfl) hd
def qezZ (x0:Value)(a:Heap)(b:Value)(K:KTy):Prop:=ov (ncV x0) fun c=>ov (faV (some 1) c) fun d=>ov (ldV (some none) d a) fun e=>ov (ldV (some (some 8)) b a) fun f=>bsM (bsI P qcNZ) 1 [(0,f)] a fun g h=>ldV (some none) d h=some e∧vvM P (Builtin.append_ #[qcNZ,qcNZ] qcNZ #[e,g]) h fun i j=>ov (ncV x0) fun k=>ov (faV (some 1) k) fun l=>stM (some 1) l i j fun m=>K (Value.bool true) m
def qdhZ (x0 x1:Value)(h:Heap)(K:KTy):Prop:=nwM (some x1.cells) qdkZ h fun a b=>ov (ncV x0) fun c=>ov (faV (some 1) c) fun d=>ov (ldV (some none) d b) fun e=>ov (lnV 7 e) fun f=>ov (ncV x0) fun g=>ov (faV (some 0) g) fun i=>ov (ldV (some none) i b) fun j=>ov (binV BinOp.geq 2 false f j) fun k=>cdM k (ov (ncV x0) fun l=>ov (faV (some 2) l) fun m=>stM (some 1) m (Value.bool true) b fun n=>K (Value.bool false) n) (qezZ x0 b a K)
theorem qiRZ {x0 x1:Value}{h:Heap}(hd:qdhZ x0 x1 h K):callM P qcYZ #[x0,x1] h K :=
 call_of good mixed (fn:=Tryz.f275) (args:=[x0,x1]) Tryz.func275 rfl (by kernel_rfl) (of_decide_eq_true rfl) (B:=qdhZ x0 x1 h K) (by kernel_rfl) hd
def qlFZ (a:Value)(b:Heap)(c d:Value)(e:Post)(x0 x1 x2 f g h i:Value):Prop:=ov (ldV (some (some 4)) a b) fun j=>ov (iaV (some (none,4)) c d) fun k=>stM (some 4) k j b fun l=>e .normal [] (puts (envOf [x0,x1,x2]) [(4,a),(6,(Value.slice none 0 0)),(7,(Value.int IntKind.i64 0)),(11,x0),(12,c),(8,c),(14,c),(15,f),(16,g),(17,h),(13,h),(18,d),(19,i),(9,d),(10,i),(26,i),(25,i),(27,c),(28,d),(29,j),(30,k)]) l
def qlGZ (a:Post)(x0 x1 x2 b c d e f g h i j:Value)(k:Heap):Prop:=a .ret [] (puts (envOf [x0,x1,x2]) [(4,b),(6,(Value.slice none 0 0)),(7,(Value.int IntKind.i64 0)),(11,x0),(12,c),(8,c),(14,c),(15,d),(16,e),(17,f),(13,f),(18,g),(19,h),(9,g),(10,h),(26,h),(25,h),(32,c),(33,i),(34,x2),(35,j),(31,j),(36,c),(6,c),(7,(Value.int IntKind.i64 2))]) k
def qlHZ (a:Post)(x0 x1 x2 b c d e f g h i j k l m:Value)(n:Heap):Prop:=a .normal [] (puts (envOf [x0,x1,x2]) [(4,b),(6,(Value.slice none 0 0)),(7,(Value.int IntKind.i64 0)),(11,x0),(12,c),(8,c),(14,c),(15,d),(16,e),(17,f),(13,f),(18,g),(19,h),(9,g),(10,h),(26,h),(25,h),(32,c),(33,i),(34,x2),(35,j),(31,j),(20,c),(21,g),(22,k),(23,l),(24,m),(8,m)]) n
def qlIZ (a:Value)(b:Heap)(c d:Value)(e:Post)(x0 x1 x2 f g h i j k:Value):Prop:=ov (ldV (some (some 4)) a b) fun l=>bsM (bsI P qeZ) 1 [(0,l)] b fun m n=>callM P qVZ #[c,d,m] n fun o p=>qlHZ e x0 x1 x2 a c f g h d i j k l m o p
def qlJZ (a x2:Value)(b:Post)(x0 x1 c d e f g h:Value)(i:Heap):Prop:=ov (lnV 7 a) fun j=>ov (binV BinOp.geq 2 false j x2) fun k=>cdM k (qlGZ b x0 x1 x2 c a d e f g h j k i) (qlIZ c i a g b x0 x1 x2 d e f h j k)
def qlKZ (a b:Value)(c:Heap)(d e:Value)(f:Post)(x0 x1 x2 g h i:Value):Prop:=cdM a (qlFZ b c d e f x0 x1 x2 g h i a) (qlJZ d x2 f x0 x1 b g h i e a c)
def qlLZ (a b:Value)(c:Heap)(d x0 x1 x2 e f:Value)(K:KTy):Prop:=ov (exV a 0) fun g=>ov (exV a 1) fun h=>seqM (fun i=>qlKZ h b c d g i x0 x1 x2 e f a) (fun m j k=>(retM P [.tmp 6,.tmp 7] K) .ret m (puts j [(37,(j 8)),(6,(j 8)),(7,(Value.int IntKind.i64 0))]) k) (retM P [.tmp 6,.tmp 7] K)
def qlMZ (a:Value)(b:Heap)(c x0 x1 x2:Value)(K:KTy):Prop:=ov (faV (some 0) a) fun d=>ov (ldV (some none) d b) fun e=>callM P qfsZ #[c,e] b fun f g=>qlLZ f a g c x0 x1 x2 d e K
def qkHZ (x0 x1 x2:Value)(h:Heap)(K:KTy):Prop:=nwM (some x1.cells) qbZ h fun a b=>callM P qmZ #[x0] b fun c d=>qlMZ a d c x0 x1 x2 K
theorem qnbZ {x0 x1 x2:Value}{h:Heap}(hd:qkHZ x0 x1 x2 h K):callM P qjFZ #[x0,x1,x2] h K :=
 call_of good mixed (fn:=Tryz.f279) (args:=[x0,x1,x2]) Tryz.func279 rfl (by kernel_rfl) (of_decide_eq_true rfl) (B:=qkHZ x0 x1 x2 h K) (by kernel_rfl) hd
def qlcZ (a b c:Value)(d:Heap)(K:KTy):Prop:=ov (iaV (some (none,4)) a b) fun e=>ov (faV (some 3) e) fun f=>stM (some 1) f c d fun g=>K (.tuple #[a,(Value.int IntKind.i64 0)]) g
def qldZ (a b:Value)(c:Heap)(x2:Value)(K:KTy):Prop:=ov (iaV (some (none,4)) a b) fun d=>ov (faV (some 3) d) fun e=>ov (ldV (some none) e c) fun f=>vvM P (Builtin.max_ #[qaaZ,qaaZ] qaaZ #[f,x2]) c fun g h=>qlcZ a b g h K
def qleZ (a:Value)(K:KTy)(b:Value)(c:Heap)(x2:Value):Prop:=ov (exV a 0) fun d=>ov (exV a 1) fun e=>ov (unV UnOp.not e) fun f=>cdM f (K (.tuple #[b,(Value.int IntKind.i64 3)]) c) (qldZ b d c x2 K)
def qlfZ (a x1:Value)(b:Heap)(K:KTy)(x2:Value):Prop:=callM P qfsZ #[a,x1] b fun c d=>qleZ c K a d x2
def qjLZ (x0 x1 x2:Value)(h:Heap)(K:KTy):Prop:=callM P qmZ #[x0] h fun a b=>qlfZ a x1 b K x2
theorem qmUZ {x0 x1 x2:Value}{h:Heap}(hd:qjLZ x0 x1 x2 h K):callM P qiUZ #[x0,x1,x2] h K :=
 call_of good mixed (fn:=Tryz.f280) (args:=[x0,x1,x2]) Tryz.func280 rfl (by kernel_rfl) (of_decide_eq_true rfl) (B:=qjLZ x0 x1 x2 h K) (by kernel_rfl) hd
def qkuZ (a b:Value)(c:Heap)(K:KTy):Prop:=ov (binV BinOp.add 2 true a (Value.int IntKind.i64 1)) fun d=>callM P qWZ #[b,a,d] c fun e f=>K (.tuple #[e,(Value.int IntKind.i64 0)]) f
def qkvZ (a:Value)(K:KTy)(b:Value)(c:Heap):Prop:=ov (exV a 0) fun d=>ov (exV a 1) fun e=>ov (unV UnOp.not e) fun f=>cdM f (K (.tuple #[b,(Value.int IntKind.i64 3)]) c) (qkuZ d b c K)
def qkwZ (a x1:Value)(b:Heap)(K:KTy):Prop:=callM P qfsZ #[a,x1] b fun c d=>qkvZ c K a d
def qjfZ (x0 x1:Value)(h:Heap)(K:KTy):Prop:=callM P qmZ #[x0] h fun a b=>qkwZ a x1 b K
theorem qmOZ {x0 x1:Value}{h:Heap}(hd:qjfZ x0 x1 h K):callM P qiyZ #[x0,x1] h K :=
 call_of good mixed (fn:=Tryz.f281) (args:=[x0,x1]) Tryz.func281 rfl (by kernel_rfl) (of_decide_eq_true rfl) (B:=qjfZ x0 x1 h K) (by kernel_rfl) hd
def qbMZ (x0 x1:Value)(h:Heap)(K:KTy):Prop:=nwM (some x0.cells) qfjZ h fun a b=>ov (faV (some 0) a) fun c=>ov (ldV (some none) c b) fun d=>callM P qCZ #[d,x1] b fun e f=>ov (exV e 0) fun g=>ov (exV e 1) fun i=>K (.tuple #[g,i]) f
theorem qhgZ {x0 x1:Value}{h:Heap}(hd:qbMZ x0 x1 h K):callM P qbmZ #[x0,x1] h K :=
 call_of good mixed (fn:=Tryz.f290) (args:=[x0,x1]) Tryz.func290 rfl (by kernel_rfl) (of_decide_eq_true rfl) (B:=qbMZ x0 x1 h K) (by kernel_rfl) hd
def qfgZ (x0:Value)(h:Heap)(K:KTy):Prop:=nwM (some x0.cells) qjZ h fun a b=>ov (faV (some 0) a) fun c=>ov (ldV (some none) c b) fun d=>ov (binV BinOp.sub 2 true d (Value.int IntKind.i64 1)) fun e=>K e b
theorem qliZ {x0:Value}{h:Heap}(hd:qfgZ x0 h K):callM P qeDZ #[x0] h K :=
 call_of good mixed (fn:=Tryz.f291) (args:=[x0]) Tryz.func291 rfl (by kernel_rfl) (of_decide_eq_true rfl) (B:=qfgZ x0 h K) (by kernel_rfl) hd
def qfTZ (x0:Value)(h:Heap)(K:KTy):Prop:=nwM (some x0.cells) qDZ h fun a b=>ov (faV (some 0) a) fun c=>ov (ldV (some none) c b) fun d=>ov (faV (some 1) a) fun e=>ov (ldV (some none) e b) fun f=>ov (binV BinOp.geq 2 false d f) fun g=>K g b
theorem qlVZ {x0:Value}{h:Heap}(hd:qfTZ x0 h K):callM P qfrZ #[x0] h K :=
 call_of good mixed (fn:=Tryz.f292) (args:=[x0]) Tryz.func292 rfl (by kernel_rfl) (of_decide_eq_true rfl) (B:=qfTZ x0 h K) (by kernel_rfl) hd
def qcfZ (a:Value)(b:Post)(m:List Nat)(c:Env)(d e f g h i j:Value)(k:Heap):Prop:=ov (binV BinOp.add 2 true a (Value.int IntKind.i64 1)) fun l=>b .normal m (puts c [(13,(c 7)),(14,(c 8)),(15,d),(16,(c 7)),(17,(c 8)),(18,e),(19,f),(20,g),(21,a),(9,a),(22,(c 0)),(23,a),(24,h),(25,i),(26,(c 1)),(27,j),(28,a),(29,l),(7,l)]) k
def qcgZ (a:Post)(m:List Nat)(b:Env)(c d e f g h i j:Value)(k:Heap):Prop:=a .normal m (puts b [(13,(b 7)),(14,(b 8)),(15,c),(16,(b 7)),(17,(b 8)),(18,d),(19,e),(20,f),(21,g),(9,g),(22,(b 0)),(23,g),(24,h),(25,i),(26,(b 1)),(27,j),(30,g),(8,g)]) k
def qchZ (a b:Value)(c:Post)(m:List Nat)(d:Env)(e f g h i j:Value)(k:Heap):Prop:=cdM a (qcfZ b c m d e f g h i j a k) (qcgZ c m d e f g h b i j a k)
def qciZ (a:Env)(b:Heap)(c:Post)(m:List Nat)(d:Value):Prop:=ov (binV BinOp.add 2 false (a 7) (a 8)) fun e=>ov (cvV (some .u64) e) fun f=>ov (binV BinOp.shr 2 true f (Value.int IntKind.u64 1)) fun g=>ov (cvV (some .i64) g) fun h=>ov (iaV (some (none,1)) (a 0) h) fun i=>ov (ldV (some none) i b) fun j=>callM P qftZ #[j,(a 1)] b fun k l=>qchZ k h c m a d e f g i j l
def qcjZ (a:Env)(b:Heap)(c:Post)(m:List Nat):Prop:=ov (binV BinOp.lss 2 false (a 7) (a 8)) fun d=>cdM d (qciZ a b c m d) (c (.exit 0) m (puts a [(13,(a 7)),(14,(a 8)),(15,d)]) b)
def qckZ (x0 x1 a:Value)(h:Heap)(b:Post):Prop:=loopM (fun m c d e=>qcjZ c d e m) [] (puts (envOf [x0,x1]) [(4,(Value.int IntKind.i64 0)),(5,(Value.bool false)),(10,x0),(11,a),(6,a),(12,a),(7,(Value.int IntKind.i64 0)),(8,a)]) h (blkM 0 b)
def qclZ (a:Env)(b:Heap)(K:KTy)(m:List Nat):Prop:=ov (binV BinOp.lss 2 false (a 7) (a 6)) fun c=>gM (isB c true) (fun d=>d (a 0) b) b fun e f=>gM (isB c true) (fun g=>g (a 7) f) f fun h i=>gM (isB c true) (fun j=>ov (iaV (some (none,1)) e h) fun k=>j k i) i fun l n=>gM (isB c true) (fun o=>ov (ldV (some none) l n) fun p=>o p n) n fun q r=>gM (isB c true) (fun s=>s (a 1) r) r fun t u=>gM (isB c true) (fun v=>ov (binV BinOp.eql 3 false q t) fun w=>v w u) u fun x y=>gM (isB c true) (fun z=>z x y) y fun aa ab=>gM (isB aa false) (fun ac=>ac (a 0) ab) ab fun ad ae=>gM (isB aa false) (fun af=>af (a 7) ae) ae fun ag ah=>gM (isB aa false) (fun ai=>ov (iaV (some (none,1)) ad ag) fun aj=>ai aj ah) ah fun ak al=>gM (isB aa false) (fun am=>ov (ldV (some none) ak al) fun an=>am an al) al fun ao ap=>gM (isB aa false) (fun aq=>callM P qcmZ #[ao] ap fun ar au=>aq ar au) ap fun av aw=>gM (isB aa false) (fun ax=>ax av aw) aw fun ay az=>gM (isB ay true) (fun ba=>ba (a 1) az) az fun bb bc=>gM (isB ay true) (fun bd=>callM P qcmZ #[bb] bc fun be bf=>bd be bf) bc fun bg bh=>gM (isB aa false) (fun bi=>ov (pkV ay bg (Value.bool false)) fun bj=>bi bj bh) bh fun bk bl=>gM (isB c true) (fun bm=>ov (pkV aa (Value.bool true) bk) fun bn=>bm bn bl) bl fun bo bp=>ov (pkV c bo (Value.bool false)) fun bq=>(retM P [.tmp 4,.tmp 5] K) .ret m (puts a [(31,(a 7)),(32,(a 7)),(33,(a 6)),(34,c),(35,c),(36,e),(37,h),(38,l),(39,q),(40,t),(41,x),(42,aa),(43,ad),(44,ag),(45,ak),(46,ao),(47,av),(48,ay),(49,bb),(50,bg),(51,bk),(52,bo),(53,bq),(4,(a 7)),(5,bq)]) bp
def qauZ (x0 x1:Value)(h:Heap)(K:KTy):Prop:=ov (lnV 7 x0) fun a=>seqM (fun b=>qckZ x0 x1 a h b) (fun m c d=>qclZ c d K m) (retM P [.tmp 4,.tmp 5] K)
theorem qfKZ {x0 x1:Value}{h:Heap}(hd:qauZ x0 x1 h K):callM P qCZ #[x0,x1] h K :=
 call_of good mixed (fn:=Tryz.f298) (args:=[x0,x1]) Tryz.func298 rfl (by kernel_rfl) (of_decide_eq_true rfl) (B:=qauZ x0 x1 h K) (by kernel_rfl) hd
def qjgZ (a:Post)(m:List Nat)(b:Env)(c d e f g h i j k l n o p q:Value)(r:Heap):Prop:=a .ret m (puts b [(9,c),(10,d),(11,e),(5,f),(12,g),(13,h),(14,i),(15,j),(16,k),(17,k),(18,l),(19,n),(20,o),(21,p),(22,q)]) r
def qgwZ (a:Env)(b:Post)(m:List Nat)(c d e f g h i j k l n o p q:Value)(r:Heap):Prop:=ov (binV BinOp.add 2 true (a 8) (Value.int IntKind.i64 1)) fun s=>b .normal m (puts a [(9,c),(10,d),(11,e),(5,f),(12,g),(13,h),(14,i),(15,j),(16,k),(17,k),(18,l),(19,n),(20,o),(21,p),(22,q),(23,s),(8,s)]) r
def qjhZ (a:Value)(b:Env)(c:Heap)(e:Value)(f:Post)(m:List Nat)(g h i j k l:Value):Prop:=ov (unV UnOp.not a) fun n=>gM (isB n true) (fun o=>o (b 0) c) c fun p q=>gM (isB n true) (fun r=>ov (ldV (some (some 4)) e q) fun s=>r s q) q fun t u=>gM (isB n true) (fun v=>nxM P (do let d ← Deferred.ofValue p #[t] ; invoke d.target d.args) u fun w x=>v w x) u fun y z=>gM (isB n true) (fun aa=>ov (unV UnOp.not y) fun ab=>aa ab z) z fun ac ad=>ov (pkV n ac (Value.bool false)) fun ae=>cdM ae (qjgZ f m b g h i e j k l a n p t y ac ae ad) (qgwZ b f m g h i e j k l a n p t y ac ae ad)
def qjiZ (a:Env)(b:Heap)(c:Post)(m:List Nat)(d:Value):Prop:=ov (iaV (some (none,4)) (a 6) (a 8)) fun e=>ov (ldV (some (some 4)) e b) fun f=>nwM (zc P qbZ) qbZ b fun g h=>stM (some 4) g f h fun i=>ov (ldV (some none) (a 2) i) fun j=>ov (faV (some 3) g) fun k=>ov (ldV (some none) k i) fun l=>callM P qgEZ #[j,l] i fun n o=>qjhZ n a o g c m d e f j k l
def qjjZ (a:Env)(b:Heap)(c:Post)(m:List Nat):Prop:=ov (binV BinOp.lss 2 false (a 8) (a 7)) fun d=>cdM d (qjiZ a b c m d) (c (.exit 0) m (puts a [(9,d)]) b)
def qhXZ (x0 x1 x2:Value)(h:Heap)(K:KTy):Prop:=ov (ldV (some none) x1 h) fun a=>ov (lnV 7 a) fun b=>loopM (fun m c d e=>qjjZ c d e m) [] (puts (envOf [x0,x1,x2]) [(6,a),(7,b),(8,(Value.int IntKind.i64 0))]) h (blkM 0 (retM P [] K))
theorem qmvZ {x0 x1 x2:Value}{h:Heap}(hd:qhXZ x0 x1 x2 h K):callM P qgDZ #[x0,x1,x2] h K :=
 call_of good mixed (fn:=Tryz.f299) (args:=[x0,x1,x2]) Tryz.func299 rfl (by kernel_rfl) (of_decide_eq_true rfl) (B:=qhXZ x0 x1 x2 h K) (by kernel_rfl) hd
def qjMZ (x0 x1:Value)(h:Heap)(K:KTy):Prop:=ov (binV BinOp.leq 2 false x1 x0) fun a=>K a h
theorem qmVZ {x0 x1:Value}{h:Heap}(hd:qjMZ x0 x1 h K):callM P qgEZ #[x0,x1] h K :=
 call_of good mixed (fn:=Tryz.f300) (args:=[x0,x1]) Tryz.func300 rfl (by kernel_rfl) (of_decide_eq_true rfl) (B:=qjMZ x0 x1 h K) (by kernel_rfl) hd
def qbRZ (a b c:Value)(d:Heap)(K:KTy):Prop:=ov (bdV (binf P qaZ) [(0,a),(1,b)]) fun e=>stM (some 2) c e d fun f=>ov (ldV (some (some 2)) c f) fun g=>K g f
def qbSZ (a:Value)(b:Heap)(c d e f g h:Value)(K:KTy):Prop:=ldV (some none) a b=some c∧callM P qbnZ #[d,e,f] b fun i j=>ldV (some none) a j=some c∧callM P qcZ #[c] j fun k l=>callM P qadZ #[k,e,g] l fun m n=>qbRZ i m h n K
def qbTZ (a:Value)(b:Heap)(c d:Value)(K:KTy):Prop:=ov (faV (some 0) a) fun e=>ov (ldV (some none) e b) fun f=>ov (binV BinOp.add 2 true c (Value.int IntKind.i64 1)) fun g=>ov (faV (some 1) a) fun h=>ov (ldV (some none) h b) fun i=>ov (binV BinOp.add 2 true c (Value.int IntKind.i64 1)) fun j=>callM P qoZ #[f] b fun k l=>qbSZ h l i k c g j d K
def qbUZ (a b:Value)(c:Heap)(d:Value)(K:KTy):Prop:=ov (exV a 0) fun e=>ov (exV a 1) fun f=>ov (unV UnOp.not f) fun g=>cdM g (ov (ldV (some (some 2)) b c) fun h=>stM (some 2) d h c fun i=>ov (ldV (some (some 2)) d i) fun j=>K j i) (qbTZ b c e d K)
def qapZ (x0 x1:Value)(h:Heap)(K:KTy):Prop:=nwM (some x0.cells) qaZ h fun a b=>nwM (zc P qaZ) qaZ b fun c d=>ov (ldV (some (some 2)) a d) fun e=>callM P quZ #[e,x1] d fun f g=>qbUZ f a g c K
theorem qfEZ {x0 x1:Value}{h:Heap}(hd:qapZ x0 x1 h K):callM P qahZ #[x0,x1] h K :=
 call_of good mixed (fn:=Tryz.f301) (args:=[x0,x1]) Tryz.func301 rfl (by kernel_rfl) (of_decide_eq_true rfl) (B:=qapZ x0 x1 h K) (by kernel_rfl) hd
def qcQZ (a:Value)(b:Heap)(c d:Value)(e:Post)(x0 x1 x2 f g h i j k l m n:Value):Prop:=ldV (some none) a b=some c∧ov (bdV (binf P qaZ) [(0,c),(1,d)]) fun o=>nwM (zc P qaZ) qaZ b fun p q=>ldV (some none) a q=some c∧stM (some 2) p o q fun r=>e .normal [] (puts (envOf [x0,x1,x2]) [(3,f),(5,g),(6,h),(11,i),(12,x1),(13,j),(10,j),(14,k),(15,l),(7,k),(8,l),(16,l),(17,a),(18,c),(19,m),(20,n),(21,d),(22,o),(9,p)]) r
def qcRZ (a:Value)(b:Heap)(c d:Value)(e:Post)(x0 x1 x2 f g h i j k l m:Value):Prop:=callM P qcZ #[a] b fun n o=>qcQZ c o d n e x0 x1 x2 f g h i j k l m a
def qcSZ (a:Heap)(b c d e:Value)(f:Post)(x0 x1 x2 g h i j k l m:Value):Prop:=nwM (zc P qaZ) qaZ a fun n o=>ldV (some none) b o=some c∧ldV (some none) d o=some e∧callM P qcZ #[e] o fun p q=>ldV (some none) b q=some c∧ov (bdV (binf P qaZ) [(0,c),(1,p)]) fun r=>stM (some 2) n r q fun s=>f .normal [] (puts (envOf [x0,x1,x2]) [(3,g),(5,h),(6,i),(11,j),(12,x1),(13,k),(10,k),(14,l),(15,m),(7,l),(8,m),(16,m),(17,b),(18,c),(19,d),(20,e),(9,n),(21,p),(22,r)]) s
def qcTZ (a:Value)(b:Heap)(c:Post)(x0 x1 x2 d e f g h i:Value):Prop:=ov (faV (some 0) a) fun j=>ov (ldV (some none) j b) fun k=>ov (faV (some 1) a) fun l=>ov (ldV (some none) l b) fun m=>(qcRZ m b j k c x0 x1 x2 a d e f g h i l)∧(qcSZ b j k l m c x0 x1 x2 a d e f g h i)
def qavZ (a:Env)(b:Heap)(c:Post)(m:List Nat):Prop:=ov (faV (some 1) (a 9)) fun d=>ov (ldV (some none) d b) fun e=>ov (ldV (some (some 4)) (a 5) b) fun f=>ov (iaV (some (none,4)) e (a 7)) fun g=>stM (some 4) g f b fun h=>ov (ldV (some (some 2)) (a 9) h) fun i=>stM (some 2) (a 6) i h fun j=>c .ret m (puts a [(23,d),(24,e),(25,(a 7)),(26,f),(27,g),(28,i)]) j
def qcUZ (a:Value)(b:Heap)(x0 x1 x2 c d e f g h:Value)(i:Post):Prop:=seqM (fun j=>qcTZ a b j x0 x1 x2 c d e f g h) (fun m k l=>qavZ k l i m) i
def qcVZ (a:Post)(x0 x1 x2 b c d e f g h:Value)(i:Heap):Prop:=a .normal [] (puts (envOf [x0,x1,x2]) [(3,b),(5,c),(6,d),(11,e),(12,x1),(13,f),(10,f),(14,g),(15,h),(7,g),(8,h),(16,h)]) i
def qcWZ (a b:Value)(c:Heap)(x0 x1 x2 d e f g h:Value)(i:Post):Prop:=cdM a (qcUZ b c x0 x1 x2 d e f g h a i) (qcVZ i x0 x1 x2 b d e f g h a c)
def qcqZ (a b:Value)(c:Env)(d:Heap)(e:Post)(m:List Nat)(f g h i j k l n o:Value):Prop:=ov (bdV (binf P qaZ) [(0,a),(1,b)]) fun p=>stM (some 2) (c 6) p d fun q=>e .normal m (puts c [(29,f),(30,g),(32,(c 7)),(33,(c 1)),(36,h),(37,i),(39,(c 7)),(40,j),(31,k),(34,l),(35,a),(38,n),(41,o),(42,b),(43,p)]) q
def qcrZ (a:Env)(b:Heap)(c d e:Value)(f:Post)(m:List Nat)(g h i j k l:Value):Prop:=ldV (some (some 4)) (a 5) b=some c∧bsM (bsI P qdZ) 1 [(0,c)] b fun n o=>callM P qgZ #[d,(a 7),n] o fun p q=>qcqZ e p a q f m g h i j c k l d n
def qcsZ (a b:Value)(c:Env)(d:Heap)(e:Post)(m:List Nat)(f g h i j k l n o:Value):Prop:=ov (bdV (binf P qaZ) [(0,a),(1,b)]) fun p=>stM (some 2) (c 6) p d fun q=>e .normal m (puts c [(29,f),(30,g),(32,(c 7)),(33,(c 1)),(36,h),(37,i),(39,(c 7)),(40,j),(31,k),(34,l),(35,a),(41,n),(38,o),(42,b),(43,p)]) q
def qctZ (a:Value)(b:Heap)(c:Value)(d:Env)(e f:Value)(g:Post)(m:List Nat)(h i j k:Value):Prop:=ldV (some none) a b=some c∧ldV (some (some 4)) (d 5) b=some e∧(callM P qcZ #[c] b fun l n=>qcrZ d n e l f g m h i a c j k)∧(bsM (bsI P qdZ) 1 [(0,e)] b fun o p=>ldV (some none) a p=some c∧callM P qcZ #[c] p fun q r=>callM P qgZ #[q,(d 7),o] r fun s t=>qcsZ f s d t g m h i a c e j k o q)
def qcuZ (a b:Value)(c:Env)(d:Heap)(e:Post)(m:List Nat)(f g h i j k l n o:Value):Prop:=ov (bdV (binf P qaZ) [(0,a),(1,b)]) fun p=>stM (some 2) (c 6) p d fun q=>e .normal m (puts c [(29,f),(30,g),(32,(c 7)),(33,(c 1)),(36,h),(37,i),(39,(c 7)),(40,j),(31,k),(34,l),(41,n),(35,a),(38,o),(42,b),(43,p)]) q
def qcvZ (a b:Value)(c:Env)(d:Heap)(e:Post)(m:List Nat)(f g h i j k l n o:Value):Prop:=ov (bdV (binf P qaZ) [(0,a),(1,b)]) fun p=>stM (some 2) (c 6) p d fun q=>e .normal m (puts c [(29,f),(30,g),(32,(c 7)),(33,(c 1)),(36,h),(37,i),(39,(c 7)),(40,j),(31,k),(41,l),(34,n),(35,a),(38,o),(42,b),(43,p)]) q
def qcwZ (a:Value)(b:Heap)(c:Value)(d:Env)(e f:Value)(g:Post)(m:List Nat)(h i:Value):Prop:=ldV (some none) a b=some c∧ldV (some (some 4)) (d 5) b=some e∧(bsM (bsI P qfZ) 1 [(0,(d 1))] b fun j k=>ldV (some none) a k=some c∧ldV (some (some 4)) (d 5) k=some e∧(callM P qkZ #[f,(d 7),j] k fun l n=>qctZ a n c d e l g m h i f j)∧(bsM (bsI P qdZ) 1 [(0,e)] k fun o p=>ldV (some none) a p=some c∧callM P qkZ #[f,(d 7),j] p fun q r=>ldV (some none) a r=some c∧callM P qcZ #[c] r fun s t=>callM P qgZ #[s,(d 7),o] t fun u v=>qcuZ q u d v g m h i a c e f j o s))∧(bsM (bsI P qdZ) 1 [(0,e)] b fun w x=>ldV (some none) a x=some c∧bsM (bsI P qfZ) 1 [(0,(d 1))] x fun y z=>ldV (some none) a z=some c∧callM P qkZ #[f,(d 7),y] z fun aa ab=>ldV (some none) a ab=some c∧callM P qcZ #[c] ab fun ac ad=>callM P qgZ #[ac,(d 7),w] ad fun ae af=>qcvZ aa ae d af g m h i a c e f w y ac)
def qcxZ (a:Value)(b:Heap)(c d:Value)(e:Env)(f:Value)(g:Post)(m:List Nat)(h:Value):Prop:=callM P qoZ #[a] b fun i j=>qcwZ c j d e f i g m h a
def qcyZ (a b:Value)(c:Env)(d:Heap)(e:Post)(m:List Nat)(f g h i j k l n o:Value):Prop:=ov (bdV (binf P qaZ) [(0,a),(1,b)]) fun p=>stM (some 2) (c 6) p d fun q=>e .normal m (puts c [(29,f),(30,g),(32,(c 7)),(33,(c 1)),(36,h),(37,i),(39,(c 7)),(40,j),(34,k),(31,l),(35,a),(38,n),(41,o),(42,b),(43,p)]) q
def qczZ (a:Env)(b:Heap)(c d e:Value)(f:Post)(m:List Nat)(g h i j k l:Value):Prop:=ldV (some (some 4)) (a 5) b=some c∧bsM (bsI P qdZ) 1 [(0,c)] b fun n o=>callM P qgZ #[d,(a 7),n] o fun p q=>qcyZ e p a q f m g h i j c k l d n
def qcAZ (a b:Value)(c:Env)(d:Heap)(e:Post)(m:List Nat)(f g h i j k l n o:Value):Prop:=ov (bdV (binf P qaZ) [(0,a),(1,b)]) fun p=>stM (some 2) (c 6) p d fun q=>e .normal m (puts c [(29,f),(30,g),(32,(c 7)),(33,(c 1)),(36,h),(37,i),(39,(c 7)),(40,j),(34,k),(31,l),(35,a),(41,n),(38,o),(42,b),(43,p)]) q
def qcBZ (a:Value)(b:Heap)(c:Value)(d:Env)(e f:Value)(g:Post)(m:List Nat)(h i j k:Value):Prop:=ldV (some none) a b=some c∧ldV (some (some 4)) (d 5) b=some e∧(callM P qcZ #[c] b fun l n=>qczZ d n e l f g m h i a c j k)∧(bsM (bsI P qdZ) 1 [(0,e)] b fun o p=>ldV (some none) a p=some c∧callM P qcZ #[c] p fun q r=>callM P qgZ #[q,(d 7),o] r fun s t=>qcAZ f s d t g m h i a c e j k o q)
def qcCZ (a b:Value)(c:Env)(d:Heap)(e:Post)(m:List Nat)(f g h i j k l n o:Value):Prop:=ov (bdV (binf P qaZ) [(0,a),(1,b)]) fun p=>stM (some 2) (c 6) p d fun q=>e .normal m (puts c [(29,f),(30,g),(32,(c 7)),(33,(c 1)),(36,h),(37,i),(39,(c 7)),(40,j),(34,k),(31,l),(41,n),(35,a),(38,o),(42,b),(43,p)]) q
def qcDZ (a:Value)(b:Heap)(c:Value)(d:Env)(e f g:Value)(h:Post)(m:List Nat)(i j:Value):Prop:=ldV (some none) a b=some c∧ldV (some (some 4)) (d 5) b=some e∧(callM P qkZ #[f,(d 7),g] b fun k l=>qcBZ a l c d e k h m i j g f)∧(bsM (bsI P qdZ) 1 [(0,e)] b fun n o=>ldV (some none) a o=some c∧callM P qkZ #[f,(d 7),g] o fun p q=>ldV (some none) a q=some c∧callM P qcZ #[c] q fun r s=>callM P qgZ #[r,(d 7),n] s fun t u=>qcCZ p t d u h m i j a c e g f n r)
def qcEZ (a b:Value)(c:Env)(d:Heap)(e:Post)(m:List Nat)(f g h i j k l n o:Value):Prop:=ov (bdV (binf P qaZ) [(0,a),(1,b)]) fun p=>stM (some 2) (c 6) p d fun q=>e .normal m (puts c [(29,f),(30,g),(32,(c 7)),(33,(c 1)),(36,h),(37,i),(39,(c 7)),(40,j),(34,k),(41,l),(31,n),(35,a),(38,o),(42,b),(43,p)]) q
def qcFZ (a:Env)(b:Heap)(c d e f g:Value)(h:Post)(m:List Nat):Prop:=bsM (bsI P qfZ) 1 [(0,(a 1))] b fun i j=>ldV (some none) c j=some d∧ldV (some none) e j=some f∧ldV (some (some 4)) (a 5) j=some g∧(callM P qoZ #[d] j fun k l=>qcDZ e l f a g k i h m c d)∧(bsM (bsI P qdZ) 1 [(0,g)] j fun n o=>ldV (some none) c o=some d∧ldV (some none) e o=some f∧callM P qoZ #[d] o fun p q=>ldV (some none) e q=some f∧callM P qkZ #[p,(a 7),i] q fun r s=>ldV (some none) e s=some f∧callM P qcZ #[f] s fun t u=>callM P qgZ #[t,(a 7),n] u fun v w=>qcEZ r v a w h m c d e f g i n p t)
def qcGZ (a b:Value)(c:Env)(d:Heap)(e:Post)(m:List Nat)(f g h i j k l n o:Value):Prop:=ov (bdV (binf P qaZ) [(0,a),(1,b)]) fun p=>stM (some 2) (c 6) p d fun q=>e .normal m (puts c [(29,f),(30,g),(32,(c 7)),(33,(c 1)),(36,h),(37,i),(39,(c 7)),(40,j),(41,k),(31,l),(34,n),(35,a),(38,o),(42,b),(43,p)]) q
def qcHZ (a:Value)(b:Heap)(c:Value)(d:Env)(e f:Value)(g:Post)(m:List Nat)(h i j:Value):Prop:=ldV (some none) a b=some c∧bsM (bsI P qfZ) 1 [(0,(d 1))] b fun k l=>ldV (some none) a l=some c∧callM P qkZ #[e,(d 7),k] l fun n o=>ldV (some none) a o=some c∧callM P qcZ #[c] o fun p q=>callM P qgZ #[p,(d 7),f] q fun r s=>qcGZ n r d s g m h i a c j f e k p
def qcIZ (a b:Value)(c:Env)(d:Heap)(e:Post)(m:List Nat)(f g h i j k l n o:Value):Prop:=ov (bdV (binf P qaZ) [(0,a),(1,b)]) fun p=>stM (some 2) (c 6) p d fun q=>e .normal m (puts c [(29,f),(30,g),(32,(c 7)),(33,(c 1)),(36,h),(37,i),(39,(c 7)),(40,j),(41,k),(34,l),(31,n),(35,a),(38,o),(42,b),(43,p)]) q
def qcJZ (a:Value)(b:Heap)(c d e f:Value)(g:Env)(h:Post)(m:List Nat):Prop:=bsM (bsI P qdZ) 1 [(0,a)] b fun i j=>ldV (some none) c j=some d∧ldV (some none) e j=some f∧(callM P qoZ #[d] j fun k l=>qcHZ e l f g k i h m c d a)∧(bsM (bsI P qfZ) 1 [(0,(g 1))] j fun n o=>ldV (some none) c o=some d∧ldV (some none) e o=some f∧callM P qoZ #[d] o fun p q=>ldV (some none) e q=some f∧callM P qkZ #[p,(g 7),n] q fun r s=>ldV (some none) e s=some f∧callM P qcZ #[f] s fun t u=>callM P qgZ #[t,(g 7),i] u fun v w=>qcIZ r v g w h m c d e f a i n p t)
def qaqZ (a:Env)(b:Heap)(c:Post)(m:List Nat):Prop:=ov (faV (some 0) (a 3)) fun d=>ov (ldV (some none) d b) fun e=>ov (faV (some 1) (a 3)) fun f=>ov (ldV (some none) f b) fun g=>ov (ldV (some (some 4)) (a 5) b) fun h=>(qcxZ e b f g a h c m d)∧(qcFZ a b d e f g h c m)∧(qcJZ h b d e f g a c m)
def qarZ (a:Env)(b:Heap)(m:List Nat)(K:KTy):Prop:=seqM (fun c=>qaqZ a b c m) (fun m d e=>(retM P [.cell 6 70] K) .ret m d e) (retM P [.cell 6 70] K)
def qcXZ (a b:Value)(c:Heap)(x0 x1 x2 d e f:Value)(K:KTy):Prop:=ov (exV a 0) fun g=>ov (exV a 1) fun h=>seqM (fun i=>qcWZ h b c x0 x1 x2 d e f a g i) (fun m j k=>qarZ j k m K) (retM P [.cell 6 70] K)
def qaLZ (x0 x1 x2:Value)(h:Heap)(K:KTy):Prop:=nwM (some x0.cells) qaZ h fun a b=>nwM (some x2.cells) qhZ b fun c d=>nwM (zc P qaZ) qaZ d fun e f=>ov (ldV (some (some 2)) a f) fun g=>callM P quZ #[g,x1] f fun i j=>qcXZ i a j x0 x1 x2 c e g K
theorem qgkZ {x0 x1 x2:Value}{h:Heap}(hd:qaLZ x0 x1 x2 h K):callM P qazZ #[x0,x1,x2] h K :=
 call_of good mixed (fn:=Tryz.f302) (args:=[x0,x1,x2]) Tryz.func302 rfl (by kernel_rfl) (of_decide_eq_true rfl) (B:=qaLZ x0 x1 x2 h K) (by kernel_rfl) hd
def qaAZ (a:Value)(b:Heap)(c:Env)(d:Post)(m:List Nat)(e f g h i j k:Value):Prop:=ov (ldV (some (some 4)) a b) fun l=>ov (iaV (some (none,4)) (c 0) (c 5)) fun n=>stM (some 4) n l b fun o=>ov (binV BinOp.add 2 true (c 5) (Value.int IntKind.i64 1)) fun p=>d .normal m (puts c [(16,(c 6)),(17,(c 0)),(18,e),(19,f),(22,(c 0)),(23,(c 6)),(24,g),(25,h),(7,a),(26,(c 1)),(27,i),(28,j),(29,k),(30,(c 0)),(31,(c 5)),(32,l),(33,n),(34,(c 5)),(35,p),(5,p)]) o
def qaBZ (a:Post)(m:List Nat)(b:Env)(c d e f g h i j:Value)(k:Heap):Prop:=a .normal m (puts b [(16,(b 6)),(17,(b 0)),(18,c),(19,d),(22,(b 0)),(23,(b 6)),(24,e),(25,f),(7,g),(26,(b 1)),(27,h),(28,i),(29,j)]) k
def qaCZ (a b:Value)(c:Heap)(d:Env)(e:Post)(m:List Nat)(f g h i j:Value):Prop:=ov (unV UnOp.not a) fun k=>cdM k (qaAZ b c d e m f g h i j a k) (qaBZ e m d f g h i b j a k c)
def qaDZ (a:Env)(b:Heap)(c:Post)(m:List Nat)(e f:Value):Prop:=ov (iaV (some (none,4)) (a 0) (a 6)) fun g=>ov (ldV (some (some 4)) g b) fun h=>nwM (zc P qbZ) qbZ b fun i j=>stM (some 4) i h j fun k=>ov (ldV (some (some 4)) i k) fun l=>nxM P (do let d ← Deferred.ofValue (a 1) #[l] ; invoke d.target d.args) k fun n o=>qaCZ n i o a c m e f g h l
def qaEZ (a:Env)(b:Heap)(m:List Nat)(c d:Value)(e:Post):Prop:=seqM (fun f=>qaDZ a b f m c d) (fun m g h=>ov (binV BinOp.add 2 true (g 6) (Value.int IntKind.i64 1)) fun i=>e .normal m (puts g [(20,(g 6)),(21,i),(6,i)]) h) e
def qaFZ (a:Env)(b:Heap)(m:List Nat)(c:Post):Prop:=ov (lnV 7 (a 0)) fun d=>ov (binV BinOp.lss 2 false (a 6) d) fun e=>cdM e (qaEZ a b m d e c) (c (.exit 0) m (puts a [(16,(a 6)),(17,(a 0)),(18,d),(19,e)]) b)
def qaGZ (a x0 x1 b:Value)(c:Heap)(d:Post):Prop:=ov (binV BinOp.add 2 true a (Value.int IntKind.i64 1)) fun e=>loopM (fun m f g h=>qaFZ f g m h) [] (puts (envOf [x0,x1]) [(4,(Value.slice none 0 0)),(8,x0),(9,x1),(10,a),(5,a),(11,a),(12,b),(14,a),(15,e),(6,e)]) c (blkM 0 d)
def qawZ (a:Env)(K:KTy)(m:List Nat)(b:Value)(c:Heap):Prop:=ov (slV (some (none,4)) (a 0) none (some (a 5))) fun d=>(retM P [.tmp 4] K) .ret m (puts a [(36,(a 0)),(37,(a 5)),(38,b),(39,(a 0)),(40,(a 5)),(41,d),(4,d)]) c
def qaxZ (a:Env)(b:Heap)(K:KTy)(m:List Nat):Prop:=ov (slV (some (none,4)) (a 0) (some (a 5)) none) fun c=>vvM P (Builtin.clear_ #[qeZ] qlOZ #[c]) b fun d e=>qawZ a K m c e
def qaHZ (a x0 x1 b:Value)(c:Heap)(K:KTy):Prop:=seqM (fun d=>qaGZ a x0 x1 b c d) (fun m e f=>qaxZ e f K m) (retM P [.tmp 4] K)
def qaIZ (a:Value)(K:KTy)(x0:Value)(b:Heap)(x1:Value):Prop:=ov (binV BinOp.eql 2 true a (Value.int IntKind.i64 (-1))) fun c=>cdM c (K x0 b) (qaHZ a x0 x1 c b K)
def qIZ (x0 x1:Value)(h:Heap)(K:KTy):Prop:=callM P qHZ #[x0,x1] h fun a b=>qaIZ a K x0 b x1
theorem qelZ {x0 x1:Value}{h:Heap}(hd:qIZ x0 x1 h K):callM P qGZ #[x0,x1] h K :=
 call_of good mixed (fn:=Tryz.f303) (args:=[x0,x1]) Tryz.func303 rfl (by kernel_rfl) (of_decide_eq_true rfl) (B:=qIZ x0 x1 h K) (by kernel_rfl) hd
end Go.Proofs.YtcnphhhcknhhaaaGreat
namespace Go.Proofs.YtcnphhhcknhhaaaGreat
open Go Go.Den
set_option maxRecDepth 100000
set_option linter.unusedVariables false
def qbuZ (h:Heap)(x0:Value)(K:KTy):Prop:=bsM (bsI P qeZ) 0 [] h fun a b=>vvM P (Builtin.append_ #[qeZ,qeZ] qeZ #[a,x0]) b fun c d=>K c d
def qafZ (x0:Value)(h:Heap)(K:KTy):Prop:=ov (binV BinOp.eql 7 true x0 (Value.slice none 0 0)) fun a=>cdM a (K (Value.slice none 0 0) h) (qbuZ h x0 K)
variable {K:KTy}
theorem qfhZ {x0:Value}{h:Heap}(hd:qafZ x0 h K):callM P qmZ #[x0] h K :=
 call_of good mixed (fn:=Tryz.f304) (args:=[x0]) Tryz.func304 rfl (by kernel_rfl) (of_decide_eq_true rfl) (B:=qafZ x0 h K) (by kernel_rfl) hd
def qheZ (x0 x1:Value)(h:Heap)(K:KTy):Prop:=nwM (some x0.cells) qbZ h fun a b=>ov (ldV (some none) x1 b) fun c=>ov (faV (some 3) a) fun d=>ov (ldV (some none) d b) fun e=>callM P qgEZ #[c,e] b fun f g=>K f g
theorem qmpZ {x0 x1:Value}{h:Heap}(hd:qheZ x0 x1 h K):callM P qanZ #[x0,x1] h K :=
 call_of good mixed (fn:=Tryz.f305) (args:=[x0,x1]) Tryz.func305 rfl (by kernel_rfl) (of_decide_eq_true rfl) (B:=qheZ x0 x1 h K) (by kernel_rfl) hd
def qdrZ (a b:Value)(c:Heap)(K:KTy):Prop:=ov (lnV 7 a) fun d=>ov (slV (some (none,1)) a (some d) (some b)) fun e=>vvM P (Builtin.clear_ #[qfZ] qlOZ #[e]) c fun f g=>K a g
def qdsZ (x0 x1 x2:Value)(h:Heap)(K:KTy):Prop:=ov (lnV 7 x0) fun a=>ov (slV (some (none,1)) x0 none (some x1)) fun b=>ov (slV (some (none,1)) x0 (some x2) none) fun c=>vvM P (Builtin.append_ #[qfZ,qfZ] qfZ #[b,c]) h fun d e=>qdrZ d a e K
def qbNZ (x0 x1 x2:Value)(h:Heap)(K:KTy):Prop:=ov (lnV 7 x0) fun a=>ov (sl3V (some (none,1)) x0 (some x1) x2 a) fun b=>ov (binV BinOp.eql 2 false x1 x2) fun c=>cdM c (K x0 h) (qdsZ x0 x1 x2 h K)
theorem qhhZ {x0 x1 x2:Value}{h:Heap}(hd:qbNZ x0 x1 x2 h K):callM P qbnZ #[x0,x1,x2] h K :=
 call_of good mixed (fn:=Tryz.f306) (args:=[x0,x1,x2]) Tryz.func306 rfl (by kernel_rfl) (of_decide_eq_true rfl) (B:=qbNZ x0 x1 x2 h K) (by kernel_rfl) hd
def qbZZ (x0:Value)(h:Heap)(K:KTy):Prop:=ov (binV BinOp.eql 7 true x0 (Value.slice none 0 0)) fun a=>cdM a (K (Value.slice none 0 0) h) (bsM (bsI P qfZ) 0 [] h fun b c=>vvM P (Builtin.append_ #[qfZ,qfZ] qfZ #[b,x0]) c fun d e=>K d e)
theorem qhYZ {x0:Value}{h:Heap}(hd:qbZZ x0 h K):callM P qoZ #[x0] h K :=
 call_of good mixed (fn:=Tryz.f307) (args:=[x0]) Tryz.func307 rfl (by kernel_rfl) (of_decide_eq_true rfl) (B:=qbZZ x0 h K) (by kernel_rfl) hd
def qdtZ (x1 a b x0:Value)(c:Heap)(K:KTy):Prop:=ov (binV BinOp.add 2 false x1 a) fun d=>ov (slV (some (none,1)) b (some d) none) fun e=>ov (slV (some (none,1)) x0 (some x1) none) fun f=>vvM P (Builtin.copy_ #[qfZ,qfZ] qiZ #[e,f]) c fun g h=>K b h
def qduZ (a x1 x2:Value)(b:Heap)(c x0:Value)(K:KTy):Prop:=ov (slV (some (none,1)) a (some x1) none) fun d=>vvM P (Builtin.copy_ #[qfZ,qfZ] qiZ #[d,x2]) b fun e f=>qdtZ x1 c a x0 f K
def qdvZ (x0 x1 a b:Value)(c:Heap)(x2:Value)(K:KTy):Prop:=ov (slV (some (none,1)) x0 none (some x1)) fun d=>ov (binV BinOp.add 2 false a b) fun e=>ov (binV BinOp.sub 2 false e x1) fun f=>vvM P (Builtin.append_ #[qfZ,qiZ] qfZ #[d,f]) c fun g h=>qduZ g x1 x2 h b x0 K
def qdwZ (x1 a b:Value)(c:Heap)(x2:Value)(K:KTy):Prop:=ov (binV BinOp.add 2 false x1 a) fun d=>ov (slV (some (none,1)) b (some d) none) fun e=>ov (slV (some (none,1)) b (some x1) none) fun f=>vvM P (Builtin.copy_ #[qfZ,qfZ] qiZ #[e,f]) c fun g h=>ov (slV (some (none,1)) b (some x1) none) fun i=>vvM P (Builtin.copy_ #[qfZ,qfZ] qiZ #[i,x2]) h fun j k=>K b k
def qdmZ (a b x2:Value)(c:Heap)(x1 d:Value)(K:KTy):Prop:=ov (slV (some (none,1)) a (some b) none) fun e=>vvM P (Builtin.copy_ #[qfZ,qfZ] qiZ #[e,x2]) c fun f g=>ov (slV (some (none,1)) a (some x1) none) fun h=>callM P qhRZ #[h,d] g fun i j=>K a j
def qdxZ (a x1 b c:Value)(d:Heap)(x2:Value)(K:KTy)(e:Value):Prop:=ov (unV UnOp.not a) fun f=>cdM f (qdwZ x1 b c d x2 K) (qdmZ c e x2 d x1 b K)
def qdyZ (a b x0 x1 x2:Value)(c:Heap)(K:KTy):Prop:=ov (binV BinOp.add 2 false a b) fun d=>ov (slV (some (none,1)) x0 none (some d)) fun e=>ov (binV BinOp.add 2 false x1 b) fun f=>ov (slV (some (none,1)) e (some f) none) fun g=>nxM P (callFunc qfiZ #[x2,g]) c fun h i=>qdxZ h x1 b e i x2 K a
def qdzZ (a b x0 x1 c d:Value)(e:Heap)(x2:Value)(K:KTy):Prop:=ov (binV BinOp.gtr 2 false a b) fun f=>cdM f (qdvZ x0 x1 c d e x2 K) (qdyZ c d x0 x1 x2 e K)
def qdAZ (a b x0:Value)(h:Heap)(x1 x2:Value)(K:KTy):Prop:=ov (binV BinOp.add 2 false a b) fun c=>vvM P (Builtin.cap_ #[qfZ] qiZ #[x0]) h fun d e=>qdzZ c d x0 x1 a b e x2 K
def qdBZ (x0 x1 x2:Value)(h:Heap)(K:KTy)(a:Value):Prop:=ov (lnV 7 x0) fun b=>ov (binV BinOp.eql 2 false x1 b) fun c=>cdM c (vvM P (Builtin.append_ #[qfZ,qfZ] qfZ #[x0,x2]) h fun d e=>K d e) (qdAZ b a x0 h x1 x2 K)
def qbOZ (x0 x1 x2:Value)(h:Heap)(K:KTy):Prop:=ov (slV (some (none,1)) x0 (some x1) none) fun a=>ov (lnV 7 x2) fun b=>ov (binV BinOp.eql 2 true b (Value.int IntKind.i64 0)) fun c=>cdM c (K x0 h) (qdBZ x0 x1 x2 h K b)
theorem qhiZ {x0 x1 x2:Value}{h:Heap}(hd:qbOZ x0 x1 x2 h K):callM P qkZ #[x0,x1,x2] h K :=
 call_of good mixed (fn:=Tryz.f310) (args:=[x0,x1,x2]) Tryz.func310 rfl (by kernel_rfl) (of_decide_eq_true rfl) (B:=qbOZ x0 x1 x2 h K) (by kernel_rfl) hd
def qjNZ (x0 x1:Value)(h:Heap)(K:KTy):Prop:=callM P qTZ #[x0,x1,(.func (.func qdMZ) #[] #[])] h fun a b=>ov (exV a 0) fun c=>ov (exV a 1) fun d=>K (.tuple #[c,d]) b
theorem qmWZ {x0 x1:Value}{h:Heap}(hd:qjNZ x0 x1 h K):callM P qfsZ #[x0,x1] h K :=
 call_of good mixed (fn:=Tryz.f312) (args:=[x0,x1]) Tryz.func312 rfl (by kernel_rfl) (of_decide_eq_true rfl) (B:=qjNZ x0 x1 h K) (by kernel_rfl) hd
def qbaZ (x1 a b x0:Value)(c:Heap)(K:KTy):Prop:=ov (binV BinOp.add 2 false x1 a) fun d=>ov (slV (some (none,4)) b (some d) none) fun e=>ov (slV (some (none,4)) x0 (some x1) none) fun f=>vvM P (Builtin.copy_ #[qeZ,qeZ] qiZ #[e,f]) c fun g h=>K b h
def qbbZ (a x1 x2:Value)(b:Heap)(c x0:Value)(K:KTy):Prop:=ov (slV (some (none,4)) a (some x1) none) fun d=>vvM P (Builtin.copy_ #[qeZ,qeZ] qiZ #[d,x2]) b fun e f=>qbaZ x1 c a x0 f K
def qbcZ (x0 x1 a b:Value)(c:Heap)(x2:Value)(K:KTy):Prop:=ov (slV (some (none,4)) x0 none (some x1)) fun d=>ov (binV BinOp.add 2 false a b) fun e=>ov (binV BinOp.sub 2 false e x1) fun f=>vvM P (Builtin.append_ #[qeZ,qiZ] qeZ #[d,f]) c fun g h=>qbbZ g x1 x2 h b x0 K
def qaYZ (a x1 x2:Value)(b:Heap)(K:KTy):Prop:=ov (slV (some (none,4)) a (some x1) none) fun c=>vvM P (Builtin.copy_ #[qeZ,qeZ] qiZ #[c,x2]) b fun d e=>K a e
def qbdZ (x1 a b:Value)(c:Heap)(x2:Value)(K:KTy):Prop:=ov (binV BinOp.add 2 false x1 a) fun d=>ov (slV (some (none,4)) b (some d) none) fun e=>ov (slV (some (none,4)) b (some x1) none) fun f=>vvM P (Builtin.copy_ #[qeZ,qeZ] qiZ #[e,f]) c fun g h=>qaYZ b x1 x2 h K
def qevZ (a b x2:Value)(c:Heap)(x1 d:Value)(K:KTy):Prop:=ov (slV (some (none,4)) a (some b) none) fun e=>vvM P (Builtin.copy_ #[qeZ,qeZ] qiZ #[e,x2]) c fun f g=>ov (slV (some (none,4)) a (some x1) none) fun h=>callM P qfWZ #[h,d] g fun i j=>K a j
def qbeZ (a x1 b c:Value)(d:Heap)(x2:Value)(K:KTy)(e:Value):Prop:=ov (unV UnOp.not a) fun f=>cdM f (qbdZ x1 b c d x2 K) (qevZ c e x2 d x1 b K)
def qbfZ (a b x0 x1 x2:Value)(c:Heap)(K:KTy):Prop:=ov (binV BinOp.add 2 false a b) fun d=>ov (slV (some (none,4)) x0 none (some d)) fun e=>ov (binV BinOp.add 2 false x1 b) fun f=>ov (slV (some (none,4)) e (some f) none) fun g=>nxM P (callFunc qdNZ #[x2,g]) c fun h i=>qbeZ h x1 b e i x2 K a
def qbgZ (a b x0 x1 c d:Value)(e:Heap)(x2:Value)(K:KTy):Prop:=ov (binV BinOp.gtr 2 false a b) fun f=>cdM f (qbcZ x0 x1 c d e x2 K) (qbfZ c d x0 x1 x2 e K)
def qbhZ (a b x0:Value)(h:Heap)(x1 x2:Value)(K:KTy):Prop:=ov (binV BinOp.add 2 false a b) fun c=>vvM P (Builtin.cap_ #[qeZ] qiZ #[x0]) h fun d e=>qbgZ c d x0 x1 a b e x2 K
def qbiZ (x0 x1 x2:Value)(h:Heap)(K:KTy)(a:Value):Prop:=ov (lnV 7 x0) fun b=>ov (binV BinOp.eql 2 false x1 b) fun c=>cdM c (vvM P (Builtin.append_ #[qeZ,qeZ] qeZ #[x0,x2]) h fun d e=>K d e) (qbhZ b a x0 h x1 x2 K)
def qYZ (x0 x1 x2:Value)(h:Heap)(K:KTy):Prop:=ov (slV (some (none,4)) x0 (some x1) none) fun a=>ov (lnV 7 x2) fun b=>ov (binV BinOp.eql 2 true b (Value.int IntKind.i64 0)) fun c=>cdM c (K x0 h) (qbiZ x0 x1 x2 h K b)
theorem qeNZ {x0 x1 x2:Value}{h:Heap}(hd:qYZ x0 x1 x2 h K):callM P qVZ #[x0,x1,x2] h K :=
 call_of good mixed (fn:=Tryz.f313) (args:=[x0,x1,x2]) Tryz.func313 rfl (by kernel_rfl) (of_decide_eq_true rfl) (B:=qYZ x0 x1 x2 h K) (by kernel_rfl) hd
def qbjZ (a b:Value)(c:Heap)(K:KTy):Prop:=ov (lnV 7 a) fun d=>ov (slV (some (none,4)) a (some d) (some b)) fun e=>vvM P (Builtin.clear_ #[qeZ] qlOZ #[e]) c fun f g=>K a g
def qbkZ (x0 x1 x2:Value)(h:Heap)(K:KTy):Prop:=ov (lnV 7 x0) fun a=>ov (slV (some (none,4)) x0 none (some x1)) fun b=>ov (slV (some (none,4)) x0 (some x2) none) fun c=>vvM P (Builtin.append_ #[qeZ,qeZ] qeZ #[b,c]) h fun d e=>qbjZ d a e K
def qZZ (x0 x1 x2:Value)(h:Heap)(K:KTy):Prop:=ov (lnV 7 x0) fun a=>ov (sl3V (some (none,4)) x0 (some x1) x2 a) fun b=>ov (binV BinOp.eql 2 false x1 x2) fun c=>cdM c (K x0 h) (qbkZ x0 x1 x2 h K)
theorem qeOZ {x0 x1 x2:Value}{h:Heap}(hd:qZZ x0 x1 x2 h K):callM P qWZ #[x0,x1,x2] h K :=
 call_of good mixed (fn:=Tryz.f314) (args:=[x0,x1,x2]) Tryz.func314 rfl (by kernel_rfl) (of_decide_eq_true rfl) (B:=qZZ x0 x1 x2 h K) (by kernel_rfl) hd
def qhIZ (a x1:Value)(b:Heap)(x0:Value)(K:KTy):Prop:=gM (isB a true) (fun c=>c x1 b) b fun d e=>gM (isB a true) (fun f=>callM P qdoZ #[d] e fun g h=>f g h) e fun i j=>gM (isB a true) (fun k=>ov (unV UnOp.not i) fun l=>k l j) j fun m n=>ov (pkV a m (Value.bool false)) fun o=>gM (isB o false) (fun p=>p x0 n) n fun q r=>gM (isB o false) (fun s=>s x1 r) r fun t u=>gM (isB o false) (fun v=>ov (binV BinOp.lss 3 false q t) fun w=>v w u) u fun x y=>ov (pkV o (Value.bool true) x) fun z=>K z y
def qfUZ (x0 x1:Value)(h:Heap)(K:KTy):Prop:=callM P qdoZ #[x0] h fun a b=>qhIZ a x1 b x0 K
theorem qlWZ {x0 x1:Value}{h:Heap}(hd:qfUZ x0 x1 h K):callM P qftZ #[x0,x1] h K :=
 call_of good mixed (fn:=Tryz.f316) (args:=[x0,x1]) Tryz.func316 rfl (by kernel_rfl) (of_decide_eq_true rfl) (B:=qfUZ x0 x1 h K) (by kernel_rfl) hd
def qewZ (x0:Value)(h:Heap)(K:KTy):Prop:=ov (binV BinOp.neq 3 false x0 x0) fun a=>K a h
theorem qkxZ {x0:Value}{h:Heap}(hd:qewZ x0 h K):callM P qcmZ #[x0] h K :=
 call_of good mixed (fn:=Tryz.f317) (args:=[x0]) Tryz.func317 rfl (by kernel_rfl) (of_decide_eq_true rfl) (B:=qewZ x0 h K) (by kernel_rfl) hd
def qbyZ (a b:Value)(c:Heap)(K:KTy):Prop:=ov (lnV 7 a) fun d=>ov (slV (some (none,4)) a (some d) (some b)) fun e=>vvM P (Builtin.clear_ #[qdZ] qlOZ #[e]) c fun f g=>K a g
def qbzZ (x0 x1 x2:Value)(h:Heap)(K:KTy):Prop:=ov (lnV 7 x0) fun a=>ov (slV (some (none,4)) x0 none (some x1)) fun b=>ov (slV (some (none,4)) x0 (some x2) none) fun c=>vvM P (Builtin.append_ #[qdZ,qdZ] qdZ #[b,c]) h fun d e=>qbyZ d a e K
def qajZ (x0 x1 x2:Value)(h:Heap)(K:KTy):Prop:=ov (lnV 7 x0) fun a=>ov (sl3V (some (none,4)) x0 (some x1) x2 a) fun b=>ov (binV BinOp.eql 2 false x1 x2) fun c=>cdM c (K x0 h) (qbzZ x0 x1 x2 h K)
theorem qfkZ {x0 x1 x2:Value}{h:Heap}(hd:qajZ x0 x1 x2 h K):callM P qadZ #[x0,x1,x2] h K :=
 call_of good mixed (fn:=Tryz.f318) (args:=[x0,x1,x2]) Tryz.func318 rfl (by kernel_rfl) (of_decide_eq_true rfl) (B:=qajZ x0 x1 x2 h K) (by kernel_rfl) hd
def qbVZ (h:Heap)(x0:Value)(K:KTy):Prop:=bsM (bsI P qdZ) 0 [] h fun a b=>vvM P (Builtin.append_ #[qdZ,qdZ] qdZ #[a,x0]) b fun c d=>K c d
def qasZ (x0:Value)(h:Heap)(K:KTy):Prop:=ov (binV BinOp.eql 7 true x0 (Value.slice none 0 0)) fun a=>cdM a (K (Value.slice none 0 0) h) (qbVZ h x0 K)
theorem qfFZ {x0:Value}{h:Heap}(hd:qasZ x0 h K):callM P qcZ #[x0] h K :=
 call_of good mixed (fn:=Tryz.f319) (args:=[x0]) Tryz.func319 rfl (by kernel_rfl) (of_decide_eq_true rfl) (B:=qasZ x0 h K) (by kernel_rfl) hd
def qbAZ (x1 a b x0:Value)(c:Heap)(K:KTy):Prop:=ov (binV BinOp.add 2 false x1 a) fun d=>ov (slV (some (none,4)) b (some d) none) fun e=>ov (slV (some (none,4)) x0 (some x1) none) fun f=>vvM P (Builtin.copy_ #[qdZ,qdZ] qiZ #[e,f]) c fun g h=>K b h
def qbBZ (a x1 x2:Value)(b:Heap)(c x0:Value)(K:KTy):Prop:=ov (slV (some (none,4)) a (some x1) none) fun d=>vvM P (Builtin.copy_ #[qdZ,qdZ] qiZ #[d,x2]) b fun e f=>qbAZ x1 c a x0 f K
def qbCZ (x0 x1 a b:Value)(c:Heap)(x2:Value)(K:KTy):Prop:=ov (slV (some (none,4)) x0 none (some x1)) fun d=>ov (binV BinOp.add 2 false a b) fun e=>ov (binV BinOp.sub 2 false e x1) fun f=>vvM P (Builtin.append_ #[qdZ,qiZ] qdZ #[d,f]) c fun g h=>qbBZ g x1 x2 h b x0 K
def qbvZ (a x1 x2:Value)(b:Heap)(K:KTy):Prop:=ov (slV (some (none,4)) a (some x1) none) fun c=>vvM P (Builtin.copy_ #[qdZ,qdZ] qiZ #[c,x2]) b fun d e=>K a e
def qbDZ (x1 a b:Value)(c:Heap)(x2:Value)(K:KTy):Prop:=ov (binV BinOp.add 2 false x1 a) fun d=>ov (slV (some (none,4)) b (some d) none) fun e=>ov (slV (some (none,4)) b (some x1) none) fun f=>vvM P (Builtin.copy_ #[qdZ,qdZ] qiZ #[e,f]) c fun g h=>qbvZ b x1 x2 h K
def qeMZ (a b x2:Value)(c:Heap)(x1 d:Value)(K:KTy):Prop:=ov (slV (some (none,4)) a (some b) none) fun e=>vvM P (Builtin.copy_ #[qdZ,qdZ] qiZ #[e,x2]) c fun f g=>ov (slV (some (none,4)) a (some x1) none) fun h=>callM P qgpZ #[h,d] g fun i j=>K a j
def qbEZ (a x1 b c:Value)(d:Heap)(x2:Value)(K:KTy)(e:Value):Prop:=ov (unV UnOp.not a) fun f=>cdM f (qbDZ x1 b c d x2 K) (qeMZ c e x2 d x1 b K)
def qbFZ (a b x0 x1 x2:Value)(c:Heap)(K:KTy):Prop:=ov (binV BinOp.add 2 false a b) fun d=>ov (slV (some (none,4)) x0 none (some d)) fun e=>ov (binV BinOp.add 2 false x1 b) fun f=>ov (slV (some (none,4)) e (some f) none) fun g=>nxM P (callFunc qekZ #[x2,g]) c fun h i=>qbEZ h x1 b e i x2 K a
def qbGZ (a b x0 x1 c d:Value)(e:Heap)(x2:Value)(K:KTy):Prop:=ov (binV BinOp.gtr 2 false a b) fun f=>cdM f (qbCZ x0 x1 c d e x2 K) (qbFZ c d x0 x1 x2 e K)
def qbHZ (a b x0:Value)(h:Heap)(x1 x2:Value)(K:KTy):Prop:=ov (binV BinOp.add 2 false a b) fun c=>vvM P (Builtin.cap_ #[qdZ] qiZ #[x0]) h fun d e=>qbGZ c d x0 x1 a b e x2 K
def qbIZ (x0 x1 x2:Value)(h:Heap)(K:KTy)(a:Value):Prop:=ov (lnV 7 x0) fun b=>ov (binV BinOp.eql 2 false x1 b) fun c=>cdM c (vvM P (Builtin.append_ #[qdZ,qdZ] qdZ #[x0,x2]) h fun d e=>K d e) (qbHZ b a x0 h x1 x2 K)
def qakZ (x0 x1 x2:Value)(h:Heap)(K:KTy):Prop:=ov (slV (some (none,4)) x0 (some x1) none) fun a=>ov (lnV 7 x2) fun b=>ov (binV BinOp.eql 2 true b (Value.int IntKind.i64 0)) fun c=>cdM c (K x0 h) (qbIZ x0 x1 x2 h K b)
theorem qflZ {x0 x1 x2:Value}{h:Heap}(hd:qakZ x0 x1 x2 h K):callM P qgZ #[x0,x1,x2] h K :=
 call_of good mixed (fn:=Tryz.f320) (args:=[x0,x1,x2]) Tryz.func320 rfl (by kernel_rfl) (of_decide_eq_true rfl) (B:=qakZ x0 x1 x2 h K) (by kernel_rfl) hd
def qaMZ (a:Post)(m:List Nat)(b:Env)(c d e f:Value)(g:Heap):Prop:=a .ret m (puts b [(9,c),(10,(b 8)),(5,(b 8)),(11,(b 1)),(12,(b 0)),(13,(b 8)),(14,d),(15,e),(16,f),(17,(b 8)),(4,(b 8))]) g
def qaNZ (a:Env)(b:Post)(m:List Nat)(c d e f:Value)(g:Heap):Prop:=ov (binV BinOp.add 2 true (a 8) (Value.int IntKind.i64 1)) fun h=>b .normal m (puts a [(9,c),(10,(a 8)),(5,(a 8)),(11,(a 1)),(12,(a 0)),(13,(a 8)),(14,d),(15,e),(16,f),(18,h),(8,h)]) g
def qaOZ (a:Value)(b:Post)(m:List Nat)(c:Env)(d e f:Value)(g:Heap):Prop:=cdM a (qaMZ b m c d e f a g) (qaNZ c b m d e f a g)
def qaPZ (a:Env)(b:Heap)(c:Post)(m:List Nat)(e:Value):Prop:=ov (iaV (some (none,4)) (a 0) (a 8)) fun f=>ov (ldV (some (some 4)) f b) fun g=>nxM P (do let d ← Deferred.ofValue (a 1) #[g] ; invoke d.target d.args) b fun h i=>qaOZ h c m a e f g i
def qaQZ (a:Env)(b:Heap)(c:Post)(m:List Nat):Prop:=ov (binV BinOp.lss 2 false (a 8) (a 7)) fun d=>cdM d (qaPZ a b c m d) (c (.exit 0) m (puts a [(9,d)]) b)
def qaRZ (x0 x1:Value)(h:Heap)(a:Post):Prop:=ov (lnV 7 x0) fun b=>loopM (fun m c d e=>qaQZ c d e m) [] (puts (envOf [x0,x1]) [(4,(Value.int IntKind.i64 0)),(6,x0),(7,b),(8,(Value.int IntKind.i64 0))]) h (blkM 0 a)
def qLZ (x0 x1:Value)(h:Heap)(K:KTy):Prop:=seqM (fun a=>qaRZ x0 x1 h a) (fun m b c=>(retM P [.tmp 4] K) .ret m (puts b [(4,(Value.int IntKind.i64 (-1)))]) c) (retM P [.tmp 4] K)
theorem qexZ {x0 x1:Value}{h:Heap}(hd:qLZ x0 x1 h K):callM P qHZ #[x0,x1] h K :=
 call_of good mixed (fn:=Tryz.f321) (args:=[x0,x1]) Tryz.func321 rfl (by kernel_rfl) (of_decide_eq_true rfl) (B:=qLZ x0 x1 h K) (by kernel_rfl) hd
def qMZ (a:Value)(b:Post)(m:List Nat)(c:Env)(d e f g h i j k:Value)(l:Heap):Prop:=ov (binV BinOp.add 2 true a (Value.int IntKind.i64 1)) fun n=>b .normal m (puts c [(15,(c 9)),(16,(c 10)),(17,d),(18,(c 9)),(19,(c 10)),(20,e),(21,f),(22,g),(23,a),(11,a),(24,(c 2)),(25,(c 0)),(26,a),(27,h),(28,i),(29,(c 1)),(30,j),(31,k),(32,a),(33,n),(9,n)]) l
def qNZ (a:Post)(m:List Nat)(b:Env)(c d e f g h i j k:Value)(l:Heap):Prop:=a .normal m (puts b [(15,(b 9)),(16,(b 10)),(17,c),(18,(b 9)),(19,(b 10)),(20,d),(21,e),(22,f),(23,g),(11,g),(24,(b 2)),(25,(b 0)),(26,g),(27,h),(28,i),(29,(b 1)),(30,j),(31,k),(34,g),(10,g)]) l
def qOZ (a b:Value)(c:Post)(m:List Nat)(d:Env)(e f g h i j:Value)(k:Heap):Prop:=ov (binV BinOp.lss 2 true a (Value.int IntKind.i64 0)) fun l=>cdM l (qMZ b c m d e f g h i j a l k) (qNZ c m d e f g h b i j a l k)
def qPZ (a:Env)(b:Heap)(c:Post)(m:List Nat)(e:Value):Prop:=ov (binV BinOp.add 2 false (a 9) (a 10)) fun f=>ov (cvV (some .u64) f) fun g=>ov (binV BinOp.shr 2 true g (Value.int IntKind.u64 1)) fun h=>ov (cvV (some .i64) h) fun i=>ov (iaV (some (none,4)) (a 0) i) fun j=>ov (ldV (some (some 4)) j b) fun k=>nxM P (do let d ← Deferred.ofValue (a 2) #[k,(a 1)] ; invoke d.target d.args) b fun l n=>qOZ l i c m a e f g h j k n
def qQZ (a:Env)(b:Heap)(c:Post)(m:List Nat):Prop:=ov (binV BinOp.lss 2 false (a 9) (a 10)) fun d=>cdM d (qPZ a b c m d) (c (.exit 0) m (puts a [(15,(a 9)),(16,(a 10)),(17,d)]) b)
def qRZ (x0 x1 x2 a:Value)(h:Heap)(b:Post):Prop:=loopM (fun m c d e=>qQZ c d e m) [] (puts (envOf [x0,x1,x2]) [(6,(Value.int IntKind.i64 0)),(7,(Value.bool false)),(12,x0),(13,a),(8,a),(14,a),(9,(Value.int IntKind.i64 0)),(10,a)]) h (blkM 0 b)
def qSZ (a:Env)(b:Heap)(K:KTy)(m:List Nat):Prop:=ov (binV BinOp.lss 2 false (a 9) (a 8)) fun c=>gM (isB c true) (fun e=>e (a 2) b) b fun f g=>gM (isB c true) (fun h=>h (a 0) g) g fun i j=>gM (isB c true) (fun k=>k (a 9) j) j fun l n=>gM (isB c true) (fun o=>ov (iaV (some (none,4)) i l) fun p=>o p n) n fun q r=>gM (isB c true) (fun s=>ov (ldV (some (some 4)) q r) fun t=>s t r) r fun u v=>gM (isB c true) (fun w=>w (a 1) v) v fun x y=>gM (isB c true) (fun z=>nxM P (do let d ← Deferred.ofValue f #[u,x] ; invoke d.target d.args) y fun aa ab=>z aa ab) y fun ac ad=>gM (isB c true) (fun ae=>ov (binV BinOp.eql 2 true ac (Value.int IntKind.i64 0)) fun af=>ae af ad) ad fun ag ah=>ov (pkV c ag (Value.bool false)) fun ai=>(retM P [.tmp 6,.tmp 7] K) .ret m (puts a [(35,(a 9)),(36,(a 9)),(37,(a 8)),(38,c),(39,c),(40,f),(41,i),(42,l),(43,q),(44,u),(45,x),(46,ac),(47,ag),(48,ai),(6,(a 9)),(7,ai)]) ah
def qtZ (x0 x1 x2:Value)(h:Heap)(K:KTy):Prop:=ov (lnV 7 x0) fun a=>seqM (fun b=>qRZ x0 x1 x2 a h b) (fun m c d=>qSZ c d K m) (retM P [.tmp 6,.tmp 7] K)
theorem qcKZ {x0 x1 x2:Value}{h:Heap}(hd:qtZ x0 x1 x2 h K):callM P qTZ #[x0,x1,x2] h K :=
 call_of good mixed (fn:=Tryz.f326) (args:=[x0,x1,x2]) Tryz.func326 rfl (by kernel_rfl) (of_decide_eq_true rfl) (B:=qtZ x0 x1 x2 h K) (by kernel_rfl) hd
def qhZZ (x0 x1:Value)(h:Heap)(K:KTy):Prop:=nwM (some x0.cells) qbZ h fun a b=>ov (faV (some 0) a) fun c=>ov (ldV (some none) c b) fun d=>callM P qfuZ #[d,x1] b fun e f=>K e f
theorem qmwZ {x0 x1:Value}{h:Heap}(hd:qhZZ x0 x1 h K):callM P qdMZ #[x0,x1] h K :=
 call_of good mixed (fn:=Tryz.f327) (args:=[x0,x1]) Tryz.func327 rfl (by kernel_rfl) (of_decide_eq_true rfl) (B:=qhZZ x0 x1 h K) (by kernel_rfl) hd
def qhJZ (x0 x1:Value)(K:KTy)(a:Heap):Prop:=ov (binV BinOp.lss 2 false x0 x1) fun b=>cdM b (K (Value.int IntKind.i64 (-1)) a) (ov (binV BinOp.gtr 2 false x0 x1) fun c=>cdM c (K (Value.int IntKind.i64 1) a) (K (Value.int IntKind.i64 0) a))
def qhKZ (a:Value)(K:KTy)(b:Heap)(x0 x1:Value):Prop:=cdM a (K (Value.int IntKind.i64 1) b) (qhJZ x0 x1 K b)
def qhLZ (a b:Value)(K:KTy)(c:Heap)(x0 x1:Value):Prop:=cdM a (cdM b (K (Value.int IntKind.i64 0) c) (K (Value.int IntKind.i64 (-1)) c)) (qhKZ b K c x0 x1)
def qhMZ (x1:Value)(a:Heap)(b:Value)(K:KTy)(x0:Value):Prop:=callM P qeEZ #[x1] a fun c d=>qhLZ b c K d x0 x1
def qfVZ (x0 x1:Value)(h:Heap)(K:KTy):Prop:=callM P qeEZ #[x0] h fun a b=>qhMZ x1 b a K x0
theorem qlXZ {x0 x1:Value}{h:Heap}(hd:qfVZ x0 x1 h K):callM P qfuZ #[x0,x1] h K :=
 call_of good mixed (fn:=Tryz.f328) (args:=[x0,x1]) Tryz.func328 rfl (by kernel_rfl) (of_decide_eq_true rfl) (B:=qfVZ x0 x1 h K) (by kernel_rfl) hd
def qfGZ (x0:Value)(h:Heap)(K:KTy):Prop:=ov (binV BinOp.neq 3 false x0 x0) fun a=>K a h
theorem qlNZ {x0:Value}{h:Heap}(hd:qfGZ x0 h K):callM P qdoZ #[x0] h K :=
 call_of good mixed (fn:=Tryz.f332) (args:=[x0]) Tryz.func332 rfl (by kernel_rfl) (of_decide_eq_true rfl) (B:=qfGZ x0 h K) (by kernel_rfl) hd
def qhfZ (x0:Value)(h:Heap)(K:KTy):Prop:=ov (binV BinOp.neq 2 false x0 x0) fun a=>K a h
theorem qmqZ {x0:Value}{h:Heap}(hd:qhfZ x0 h K):callM P qeEZ #[x0] h K :=
 call_of good mixed (fn:=Tryz.f337) (args:=[x0]) Tryz.func337 rfl (by kernel_rfl) (of_decide_eq_true rfl) (B:=qhfZ x0 h K) (by kernel_rfl) hd
end Go.Proofs.YtcnphhhcknhhaaaGreat
namespace Go.Proofs.YtcnphhhcknhhaaaGreat
open Go Go.Den Go.MapKept
set_option linter.unusedSimpArgs false
set_option linter.unusedVariables false
set_option maxRecDepth 20000
def ringC (r:Ring)(lv:Value):List Value:=[.int .i64 r.room,lv,.bool r.lost]
def RingR (T:Tags)(h:Heap)(g:Tag)(p:Nat)(r:Ring):Prop :=
 ∃ lv,h p=some (.cells (ringC r lv).toArray qEZ (0,0))∧T p=g++[0]∧Rw T h (g++[1]) 8 qdkZ lv r.l.length (r.l.flatMap evC)
theorem RingR.kp {U:Tag→Prop}{T T':Tags}{h h':Heap}{g:Tag}{p:Nat}{r:Ring}(x:RingR T h g p r)(k:Kp U T h T' h')(o:Off U g):RingR T' h' g p r:=by
 obtain⟨lv,h1,h2,h3⟩:=x
 obtain⟨h4,h5⟩:=k.at h1 h2 (o.at _)
 exact⟨lv,h4,h5,h3.kp k (o.at _)⟩
def feedG (kv vv:Value)(q:Nat→Value):Nat→Value
 | 0=>kv
 | 1=>vv
 | k+2=>q k
def feedC (kv vv:Value)(q:Nat→Value):List Value:=(List.range 10).map (feedG kv vv q)
abbrev ptr (b:Nat):Value:=.pointer (some ⟨b,0,none⟩)
def FeedR (T:Tags)(h:Heap)(g:Tag)(p:Nat)(f:Feed):Prop :=
 ∃ (kv vv:Value) (q:Nat→Nat),h p=some (.cells (feedC kv vv fun j=>ptr (q j)).toArray qdlZ (0,0))∧T p=g++[0]∧Sl 1 StrR (fz T h) kv (f.ws.map (·.1))∧Sl 1 MaskR (fz T h) vv (f.ws.map (·.2)) ∧
  (∀ j,j<8→RingR T h (g++[1,j]) (q j) (f.qs j))∧Sn kv∧Sn vv
theorem FeedR.kp {U:Tag→Prop}{T T':Tags}{h h':Heap}{g:Tag}{p:Nat}{f:Feed}(x:FeedR T h g p f)(k:Kp U T h T' h')(o:Off U g)(n:¬ U []):FeedR T' h' g p f:=by
 obtain⟨kv,vv,q,h1,h2,h3,h4,h5,h5s⟩:=x
 obtain⟨h6,h7⟩:=k.at h1 h2 (o.at _)
 exact⟨kv,vv,q,h6,h7,h3.ext (@StrR.ext) (k.ext n),h4.ext (@MaskR.ext) (k.ext n),fun j hj=>(h5 j hj).kp k (o.app _),h5s⟩
structure SV where
 sk:Value
 sv:Value
 bk:Value
 bv:Value
 fp:Nat
def strC (x:Strp)(y:SV):List Value:=[.int .i64 x.who,.int .u64 x.v,.int .u64 x.bound,y.sk,y.sv,y.bk,y.bv,ptr y.fp]
def StrpR (T:Tags)(h:Heap)(g:Tag)(x:Strp)(y:SV):Prop:=BookR (fz T h) y.sk y.sv x.snap∧BookR (fz T h) y.bk y.bv x.book∧FeedR T h g y.fp x.feed
theorem StrpR.kp {U:Tag→Prop}{T T':Tags}{h h':Heap}{g:Tag}{x:Strp}{y:SV}(r:StrpR T h g x y)(k:Kp U T h T' h')(o:Off U g)(n:¬ U []):StrpR T' h' g x y :=
 ⟨r.1.ext (k.ext n),r.2.1.ext (k.ext n),r.2.2.kp k o n⟩
def hallC (H:Hall)(sv av:Value):List Value:=[.int .i64 H.c.stripes,.int .i64 H.c.sessions,.int .i64 H.c.queue,.int .i64 H.c.watches,.int .i64 H.c.retries,.int .u64 H.c.epochs,.int .u64 H.c.start,
 .int .u64 H.t.now,.int .u64 H.t.seq,.bool H.t.closed,sv,av]
structure HallX (T:Tags)(h:Heap)(g:Tag)(p:Nat)(H:Hall)(sv av:Value)(Y:Nat→SV):Prop where
 hp:h p=some (.cells (hallC H sv av).toArray qaoZ (0,0))
 tp:T p=g++[0]
 st:Rw T h (g++[1]) 8 qxZ sv H.n (seqF H.n fun i=>strC (H.ss i) (Y i))
 ac:Rw T h (g++[2]) 3 qfIZ av H.acts.length (H.acts.flatMap actC)
 sr:∀ i,i<H.n→StrpR T h (g++[3,i]) (H.ss i) (Y i)
def HallR (T:Tags)(h:Heap)(g:Tag)(p:Nat)(H:Hall):Prop:=∃ sv av Y,HallX T h g p H sv av Y
theorem HallR.kp {U:Tag→Prop}{T T':Tags}{h h':Heap}{g:Tag}{p:Nat}{H:Hall}(x:HallR T h g p H)(k:Kp U T h T' h')(o:Off U g)(n:¬ U []):HallR T' h' g p H:=by
 obtain⟨sv,av,Y,x⟩:=x
 obtain⟨h1,h2⟩:=k.at x.hp x.tp (o.at _)
 exact⟨sv,av,Y,h1,h2,x.st.kp k (o.at _),x.ac.kp k (o.at _),fun i hi=>(x.sr i hi).kp k (o.app _) n⟩
theorem bsAct:bsI P qdJZ=some (qfIZ,3,#[.int .i64 0,.int .i64 0,.int .i64 0]):=by kernel_rfl
theorem unSlAct:P.underlying qdJZ=some (.slice qfIZ):=by kernel_rfl
theorem apAct:apC P qfIZ=some (3,24,3):=by kernel_rfl
theorem bdAct (a b c:Int):bdV (binf P qfIZ) [(0,.int .i64 a),(1,.int .i64 b),(2,.int .i64 c)]=some (.agg #[.int .i64 a,.int .i64 b,.int .i64 c]):=by kernel_rfl
theorem zcTime:zc P qsZ=some #[.int .u64 0,.int .u64 0,.bool false]:=by kernel_rfl
theorem zcCfg:zc P qaUZ=some #[.int .i64 0,.int .i64 0,.int .i64 0,.int .i64 0,.int .i64 0,.int .u64 0,.int .u64 0]:=by kernel_rfl
theorem bdTime (a:Int):bdV (binf P qsZ) [(0,.int .u64 a)]=some (.agg #[.int .u64 a,.int .u64 0,.bool false]):=by kernel_rfl
theorem bdHall (a b c d e f g t s:Int)(k:Bool):bdV (binf P qaoZ) [(0,.agg #[.int .i64 a,.int .i64 b,.int .i64 c,.int .i64 d,.int .i64 e,.int .u64 f,.int .u64 g]),(1,.agg #[.int .u64 t,.int .u64 s,.bool k])] =
 some (.agg #[.int .i64 a,.int .i64 b,.int .i64 c,.int .i64 d,.int .i64 e,.int .u64 f,.int .u64 g,.int .u64 t,.int .u64 s,.bool k,.slice none 0 0,.slice none 0 0]):=by kernel_rfl
theorem bdStripe (v b:Int)(fp:Option Addr):bdV (binf P qxZ) [(1,.agg #[.int .u64 v,.int .u64 b]),(4,.pointer fp)] =
 some (.agg #[.int .i64 0,.int .u64 v,.int .u64 b,.slice none 0 0,.slice none 0 0,.slice none 0 0,.slice none 0 0,.pointer fp]):=by kernel_rfl
theorem bsStripe:bsI P qbwZ=some (qxZ,8,#[.int .i64 0,.int .u64 0,.int .u64 0,.slice none 0 0,.slice none 0 0,.slice none 0 0,.slice none 0 0,.pointer none]):=by kernel_rfl
theorem unSlStripe:P.underlying qbwZ=some (.slice qxZ):=by kernel_rfl
theorem apStripe:apC P qxZ=some (8,128,8):=by kernel_rfl
theorem bdFeed:bdV (binf P qdlZ) []=some (.agg #[.slice none 0 0,.slice none 0 0,.pointer none,.pointer none,.pointer none,.pointer none,.pointer none,.pointer none,.pointer none,.pointer none]):=by kernel_rfl
theorem bdRing (n:Int):bdV (binf P qEZ) [(0,.int .i64 n)]=some (.agg #[.int .i64 n,.slice none 0 0,.bool false]):=by kernel_rfl
theorem bdCell (n:Int):bdV (binf P qDZ) [(1,.int .u64 n)]=some (.agg #[.int .u64 0,.int .u64 n]):=by kernel_rfl
theorem zcCell:zc P qDZ=some #[.int .u64 0,.int .u64 0]:=by kernel_rfl
theorem zcLatch:zc P qjZ=some #[.int .i64 0]:=by kernel_rfl
theorem bdLatch (n:Int):bdV (binf P qjZ) [(0,.int .i64 n)]=some (.agg #[.int .i64 n]):=by kernel_rfl
theorem bdLatch0:bdV (binf P qjZ) []=some (.agg #[.int .i64 0]):=by kernel_rfl
variable {K:KTy}
theorem within_ok (n lo hi:Int){h:Heap}(hk:K (.bool (decide (lo≤n∧n≤hi))) h):callM P qagZ #[.int .i64 n,.int .i64 lo,.int .i64 hi] h K:=by
 apply qmrZ
 unfold qhTZ
 by_cases h1:lo≤n<;>simpa [h1] using hk
theorem place_ok (s w:Int){h:Heap}(hs:0≤s∧s<1000∧0≤w∧w<10)(hk:K (.int .i64 (4*s+w)) h):callM P qaSZ #[.int .i64 s,.int .i64 w] h K:=by
 apply qmGZ
 unfold qiVZ
 simp only[bin_mul,bin_add,ov_s,wrap64_id (n:=4*s) (by omega) (by omega),wrap64_id (n:=4*s+w) (by omega) (by omega)]
 exact hk
end Go.Proofs.YtcnphhhcknhhaaaGreat
namespace Go.Proofs.YtcnphhhcknhhaaaGreat
open Go Go.Den Go.MapKept
set_option linter.unusedSimpArgs false
set_option linter.unusedVariables false
set_option maxRecDepth 20000
variable {K:KTy}
theorem hashRight_ok (s:ByteArray){h:Heap}(hk:K (.bool (nameB s)) h):callM P qdIZ #[.string s] h K:=by
 apply qmHZ
 unfold qiWZ
 have:nameB s=(!decide (s=⟨#[]⟩) && decide ((s.size:Int)≤16)):=by
  unfold nameB; by_cases h0:s.size=0
  ·rw[(str_empty s).2 h0]; rfl
  ·have:¬ s=⟨#[]⟩:=fun e=>h0 ((str_empty s).1 e)
   rw[Bool.eq_iff_iff]; simp[this]; omega
 rw[this] at hk
 simp +contextual -implicitDefEqProofs[-Bool.decide_eq_true]
 exact hk
theorem sessRight_ok (a b c:Int){h:Heap}(hk:K (.bool (decide (0≤a∧a≤255∧1≤b∧b≤9∧0≤c∧c≤9))) h):callM P qixZ #[.int .i64 a,.int .i64 b,.int .i64 c] h K:=by
 apply qmIZ
 unfold qiXZ
 simp +contextual -implicitDefEqProofs
 simpa [Bool.decide_and,and_assoc,Bool.and_assoc] using hk
theorem modRight_ok (c:Cfg){h:Heap}(hk:∀ h',Ext h h'→K (.bool (rightB c)) h'):callM P qhNZ #[.agg (cfgC c).toArray] h K:=by
 apply qmxZ
 unfold qiAZ
 refine nw_agg fun v1 h2 n2 e2 c2=>?_
 simp only[cfgC] at c2
 simp only[faV_p,ov_s,ldV_c,cel_of c2,Nat.zero_add,List.getElem?_toArray,List.getElem?_cons_zero]
 refine within_ok _ _ _ ?_
 unfold qjkZ
 simp +contextual -implicitDefEqProofs[cel_of c2]
 refine gM_call0 (a:=.bool (decide (1≤c.sessions∧c.sessions≤8))) (fun hc K' hk'=>within_ok _ _ _ hk') ?_
 simp +contextual -implicitDefEqProofs[cel_of c2]
 refine gM_call0 (a:=.bool (decide (1≤c.queue∧c.queue≤16))) (fun hc K' hk'=>within_ok _ _ _ hk') ?_
 simp +contextual -implicitDefEqProofs[cel_of c2]
 refine gM_call0 (a:=.bool (decide (1≤c.watches∧c.watches≤8))) (fun hc K' hk'=>within_ok _ _ _ hk') ?_
 simp +contextual -implicitDefEqProofs[cel_of c2]
 refine gM_call0 (a:=.bool (decide (0≤c.retries∧c.retries≤4))) (fun hc K' hk'=>within_ok _ _ _ hk') ?_
 simp +contextual -implicitDefEqProofs[cel_of c2]
 refine kb (hk h2 e2) ?_
 rw[Bool.eq_iff_iff]; simp[rightB]; omega
end Go.Proofs.YtcnphhhcknhhaaaGreat
namespace Go.Den
open Go
set_option linter.unusedVariables false
def fnvX (h b:Int):Int:=IntKind.u64.wrap (BitVec.ofInt 64 h ^^^ BitVec.ofInt 64 b).toNat
def fnvStep (h b:Int):Int:=IntKind.u64.wrap (fnvX h b*1099511628211)
def byteAt (s:ByteArray)(i:Nat):Int:=match s[i]? with
 | some b=>b.toNat
 | none=>0
def fnvTo (s:ByteArray):Nat→Int
 | 0=>14695981039346656037
 | i+1=>fnvStep (fnvTo s i) (byteAt s i)
def fnv (s:ByteArray):Int:=fnvTo s s.size
theorem wrapU_rng (n:Int):0≤IntKind.u64.wrap n∧IntKind.u64.wrap n≤18446744073709551615:=by
 simp only[IntKind.wrap,IntKind.bits,IntKind.signed]
 simp
 omega
theorem wrapU_id {n:Int}(h0:0≤n)(h1:n≤18446744073709551615):IntKind.u64.wrap n=n:=by
 simp only[IntKind.wrap,IntKind.bits,IntKind.signed]
 simp
 omega
theorem andNot1 (b:Int)(hb:U64 b):IntKind.u64.wrap (BitVec.ofInt 64 b &&& ~~~BitVec.ofInt 64 1).toNat=evn b:=by
 obtain⟨n,rfl⟩:∃ n:Nat,b=n:=⟨b.toNat,by have:=hb.1; omega⟩
 have hn:n<18446744073709551616:=by have:=hb.2; omega
 have e:(BitVec.ofInt 64 n &&& ~~~BitVec.ofInt 64 1).toNat=n / 2*2:=by
  rw[BitVec.toNat_and]
  have h0:(BitVec.ofInt 64 (n:Int)).toNat=n:=by simp; omega
  have h1:(~~~BitVec.ofInt 64 1).toNat=(2 ^ 63-1)*2 ^ 1:=by rfl
  rw[h0,h1]
  apply Nat.eq_of_testBit_eq
  intro i
  rw[Nat.testBit_and,Nat.testBit_mul_two_pow,Nat.testBit_two_pow_sub_one,show n / 2*2=(n / 2)*2 ^ 1 by omega,Nat.testBit_mul_two_pow,Nat.testBit_div_two]
  by_cases h:1≤i
  ·rw[show i-1+1=i by omega]
   by_cases h2:i-1<63
   ·simp[h,h2]
   ·have:n.testBit i=false:=Nat.testBit_lt_two_pow (Nat.lt_of_lt_of_le hn (by rw[show 18446744073709551616=2 ^ 64 by rfl]; exact Nat.pow_le_pow_right (by omega) (by omega)))
    simp[this]
  ·simp[h]
 rw[e,wrapU_id (by omega) (by omega)]
 unfold evn; omega
theorem and1 (b:Int)(hb:U64 b):IntKind.u64.wrap (BitVec.ofInt 64 b &&& BitVec.ofInt 64 1).toNat=b % 2:=by
 obtain⟨n,rfl⟩:∃ n:Nat,b=n:=⟨b.toNat,by have:=hb.1; omega⟩
 have hn:n<18446744073709551616:=by have:=hb.2; omega
 have e:(BitVec.ofInt 64 n &&& BitVec.ofInt 64 1).toNat=n % 2:=by
  rw[BitVec.toNat_and]
  have:(BitVec.ofInt 64 (n:Int)).toNat=n:=by simp; omega
  rw[this]
  have:(BitVec.ofInt 64 1).toNat=1:=by rfl
  rw[this,Nat.and_one_is_mod]
 rw[e,wrapU_id (by omega) (by omega)]
 omega
theorem bin_and1 (t:Nat)(c:Bool){b:Int}(hb:U64 b):binV .and t c (.int .u64 b) (.int .u64 1)=some (.int .u64 (b % 2)):=by
 have:binV .and t c (.int .u64 b) (.int .u64 1)=some (.int .u64 (IntKind.u64.wrap (BitVec.ofInt 64 b &&& BitVec.ofInt 64 1).toNat)):=rfl
 rw[this,and1 b hb]
theorem bin_andNot1 (t:Nat)(c:Bool){b:Int}(hb:U64 b):binV .andNot t c (.int .u64 b) (.int .u64 1)=some (.int .u64 (evn b)):=by
 have:binV .andNot t c (.int .u64 b) (.int .u64 1)=some (.int .u64 (IntKind.u64.wrap (BitVec.ofInt 64 b &&& ~~~BitVec.ofInt 64 1).toNat)):=rfl
 rw[this,andNot1 b hb]
theorem bin_fnvX (t:Nat)(c:Bool)(a b:Int):binV .xor t c (.int .u64 a) (.int .u64 b)=some (.int .u64 (fnvX a b)):=rfl
theorem fnv_rng (s:ByteArray):0≤fnv s∧fnv s≤18446744073709551615:=by
 unfold fnv
 cases s.size with
 | zero=>simp[fnvTo]
 | succ n=>exact wrapU_rng _
def stripeOf (s:ByteArray)(n:Int):Int:=if n<1 then 0 else fnv s % n
def late (now until_:Int):Bool:=decide (until_≤now)
def better (a b:Sess):Bool:=decide (b.pr<a.pr) || (decide (a.pr=b.pr) && decide (a.id<b.id))
def ofStep (now:Int)(x:Sess × Nat)(s:Sess):Sess × Nat:=if late now s.un then x else (if x.2=0 || better s x.1 then s else x.1,x.2+1)
def ofAcc (l:List Sess)(now:Int):Sess × Nat:=l.foldl (ofStep now) (⟨0,0,0,0⟩,0)
def presOf (l:List Sess)(now:Int):Pres:=⟨(ofAcc l now).1.st,(ofAcc l now).1.pr,(ofAcc l now).2⟩
def ent0:Ent:=⟨[],⟨0,0,0⟩⟩
def entOf:Book→ByteArray→Ent
 | [],_=>ent0
 | (k,e)::r,u=>if k=u then e else entOf r u
def presB (b:Book)(u:ByteArray)(now:Int):Pres:=presOf (entOf b u).ss now
structure RP where
 who:Int
 users:List ByteArray
 of:Int
 ss:List Nat
 ph:Int
 at_:Nat
 tries:Int
 ep:Nat→Int
 valid:Bool
 spent:Bool
 seen:Int→Option Book
 t:Tm
 looked:Int
 placed:Int
 err:Int
 vals:List Pres
def RP.k (p:RP):Nat:=p.ss.length
def RP.s (p:RP):Nat:=p.ss.getD p.at_ 0
def RP.begin (p:RP):RP:={ p with ph:=0,at_:=0,ep:=fun _=>0,valid:=true,spent:=false,seen:=fun _=>none }
def RP.tell (p:RP)(u:ByteArray):Pres:=presB ((p.seen (stripeOf u p.of)).getD []) u p.t.now
def RP.answer (p:RP):RP:=if p.t.closed then { p with placed:=p.looked,err:=5,vals:=[] } else { p with placed:=p.looked,vals:=p.vals++p.users.map p.tell }
def RP.next (p:RP)(ph:Int):RP:=if p.at_+1<p.k then { p with at_:=p.at_+1 } else { p with ph:=ph,at_:=0 }
def RP.last (p:RP):Bool:=!decide (p.at_+1<p.k)
def RP.judge (p:RP):RP :=
 if p.t.closed || p.valid then { p.answer with ph:=8 }
 else if p.spent || decide (p.tries=0) then { p with ph:=4 }
 else RP.begin { p with tries:=p.tries-1 }
def RP.enabled (p:RP)(H:Hall):Bool:=!decide (p.ph=8) && (!decide (p.ph=4) || decide ((H.ss p.s).who=0))
def epset (f:Nat→Int)(i:Nat)(v:Int):Nat→Int:=fun k=>if k=i then v else f k
def seenset (f:Int→Option Book)(i:Int)(v:Book):Int→Option Book:=fun k=>if k=i then some v else f k
def validB (a b bound:Int):Bool:=decide (a=b) && (decide (a % 2=0) && decide (a<evn bound))
def RP.go (p:RP)(H:Hall)(n:Int):RP × Hall :=
 if p.ph=0 then (RP.next { p with ep:=epset p.ep p.at_ (H.ss p.s).v,spent:=p.spent || decide (evn H.c.epochs≤(H.ss p.s).v) } 1,H.epoch p.who p.s)
 else if p.ph=1 then (RP.next { p with seen:=seenset p.seen p.s (H.ss p.s).snap } 2,H.snap p.who p.s)
 else if p.ph=2 then ({ p with t:=H.t,looked:=n,ph:=3 },H.look p.who)
 else if p.ph=5 then ({ p with t:=H.t,looked:=n,ph:=6,placed:=n },H.look p.who)
 else if p.ph=3 then
  let q:RP:={ p with valid:=p.valid && validB (p.ep p.at_) (H.ss p.s).v H.c.epochs }
  (if q.last then (q.next 8).judge else q.next 8,H.epoch p.who p.s)
 else if p.ph=4 then (p.next 5,H.lock p.who p.s)
 else if p.ph=6 then (RP.next { p with seen:=seenset p.seen p.s (H.ss p.s).book } 7,H.read p.who p.s)
 else (if p.last then (p.next 8).answer else p.next 8,H.unlock p.who p.s)
def RP.step (p:RP)(H:Hall)(n:Int):RP × Hall :=
 if p.enabled H=false then (p,H) else if p.ss=[] then ({ p with err:=1,vals:=[],placed:=n,ph:=8 },H) else p.go H n
end Go.Den
namespace Go.Proofs.YtcnphhhcknhhaaaGreat
open Go Go.Den Go.MapKept
set_option linter.unusedSimpArgs false
set_option linter.unusedVariables false
set_option maxRecDepth 20000
theorem st_byte {s:ByteArray}{i:Nat}(hi:i<s.size){k:IntKind}:stV (.string s) (.int k i)=some (.int .u8 (byteAt s i)):=by
 have:s[i]?=some s[i]:=by simp[hi]
 simp -implicitDefEqProofs[stV,byteAt,this]
theorem byte_rng (s:ByteArray)(i:Nat):0≤byteAt s i∧byteAt s i≤255:=by
 unfold byteAt
 split
 ·rename_i b _; have:=b.toNat_lt; omega
 ·omega
variable {K:KTy}
theorem hashOf_ok (s : ByteArray) (hs : s.size ≤ maxLen) {h : Heap} (hk : K (.int .u64 (fnv s)) h) : callM P qkyZ #[.string s] h K := by
  apply qndZ
  unfold qlCZ
  rw [seqM_eq]
  unfold qmcZ
  simp -implicitDefEqProofs only [lnV_t, ov_s]
  refine loop_on [0, 5, 6] (fun t h' => h' = h ∧ ∃ i : Nat, i ≤ s.size ∧ t 7 = .int .i64 i ∧ t 3 = .int .u64 (fnvTo s i)) (fun t _ => (s.size - num (t 7)).toNat) ⟨rfl, 0, by omega, rfl, rfl⟩ ?_
  rintro t h1 hf ⟨rfl, i, hi, t7, t3⟩
  have t0 : t 0 = .string s := by simpa using hf 0 (by simp)
  have t5 : t 5 = .string s := by simpa using hf 5 (by simp)
  have t6 : t 6 = .int .i64 s.size := by simpa using hf 6 (by simp)
  unfold maxLen at hs
  unfold qmbZ
  simp -implicitDefEqProofs only [t7, t6, bin_lss, ov_s, cd_b]
  refine ⟨fun hc => ?_, fun hc => ?_⟩
  · have hlt : i < s.size := by have : ((i : Int) < s.size) := by simpa using hc
                                omega
    have hb := byte_rng s i
    unfold qmaZ
    have hw : IntKind.i64.wrap ((i : Int) + 1) = i + 1 := wrap64_id (by omega) (by omega)
    simp -implicitDefEqProofs [t0, t7, t3, st_byte hlt, wrapU_id (n := byteAt s i) (by omega) (by omega), bin_fnvX, hw, t5, t6]
    exact ⟨⟨i + 1, by omega, by simp, by simp [fnvTo, fnvStep]⟩, by omega⟩
  · have : i = s.size := by have : ¬ ((i : Int) < s.size) := by simpa using hc
                            omega
    subst this
    simp -implicitDefEqProofs [t3]
    exact hk
theorem stripe_ok (s:ByteArray)(n:Int)(hn:n≤1000)(hs:s.size≤maxLen){h:Heap}(hk:K (.int .i64 (stripeOf s n)) h):callM P qhOZ #[.string s,.int .i64 n] h K:=by
 apply qmyZ
 unfold qiBZ
 simp -implicitDefEqProofs only[bin_lss,ov_s,cd_b]
 refine⟨fun hc=>?_,fun hc=>?_⟩
 ·have:n<1:=by simpa using hc
  simpa [stripeOf,this] using hk
 ·have hn1:¬ n<1:=by simpa using hc
  unfold qjlZ
  refine hashOf_ok s hs ?_
  have hf:=fnv_rng s
  have hm:(fnv s).tmod n=fnv s % n:=Int.tmod_eq_emod_of_nonneg hf.1
  have hl:=Int.emod_nonneg (fnv s) (show n≠0 by omega)
  have hu:=Int.emod_lt_of_pos (fnv s) (show 0<n by omega)
  simp -implicitDefEqProofs[wrapU_id (n:=n) (by omega) (by omega),show n≠0 by omega,hm,wrap64_id (n:=fnv s % n) (by omega) (by omega)]
  simpa [stripeOf,hn1] using hk
def cellC (v b:Int):List Value:=[.int .u64 v,.int .u64 b]
theorem cellNew_ok (b:Int)(hb:U64 b){h:Heap}(hk:∀ h',Ext h h'→K (.agg (cellC 0 (evn b)).toArray) h'):callM P qjDZ #[.int .u64 b] h K:=by
 apply qmYZ
 unfold qkCZ
 simp -implicitDefEqProofs only[zcCell,nwM_s,bin_andNot1 _ _ hb,ov_s,bdCell]
 intro v1 n1
 simp -implicitDefEqProofs[stm_upd,ld_same,cel_same,over]
 exact hk _ (Ext.upd n1 _)
theorem spent_ok (v b:Int){h:Heap}(hk:∀ h',Ext h h'→K (.bool (decide (b≤v))) h'):callM P qfrZ #[.agg (cellC v b).toArray] h K:=by
 apply qlVZ
 unfold qfTZ
 simp -implicitDefEqProofs only[nwM_s,cells_agg,cellC]
 intro v1 n1
 simp -implicitDefEqProofs[cel_same]
 exact hk _ (Ext.upd n1 _)
theorem writing_ok (v b:Int)(hv:U64 v){h:Heap}(hk:∀ h',Ext h h'→K (.bool (wrt v)) h'):callM P qblZ #[.agg (cellC v b).toArray] h K:=by
 apply qlhZ
 unfold qfeZ
 simp -implicitDefEqProofs only[nwM_s,cells_agg,cellC]
 intro v1 n1
 simp -implicitDefEqProofs[cel_same,bin_and1 _ _ hv]
 exact kb (hk _ (Ext.upd n1 _)) (by simp[wrt])
theorem tgCell:tagg P qDZ=some (some 2):=by kernel_rfl
theorem begin_ok (v b:Int)(hv:U64 v)(hb:U64 b){h:Heap}(hk:∀ h',Ext h h'→K (.agg (cellC (bgn v b) b).toArray) h'):callM P qfqZ #[.agg (cellC v b).toArray] h K:=by
 apply qlUZ
 unfold qfSZ
 refine nw_agg fun v1 h1 n1 e1 c1=>?_
 rw[zcCell]
 refine nw_intro fun v3 h2 n3 e3 c3=>?_
 have hne:=ne_fresh c1 n3
 have c1:=e3 _ _ c1
 rw[seqM_eq]
 unfold qhHZ
 simp -implicitDefEqProofs only[ld_box c1 (n:=2) rfl,ov_s]
 refine spent_ok v b fun h3 e4=>?_
 have c1:=e4 _ _ c1
 have c3:=e4 _ _ c3
 have e0:=(e1.trans e3).trans e4
 have n3:=fresh_of e1 n3
 unfold qhGZ
 simp -implicitDefEqProofs only[cellC] at c1
 by_cases hbv:b≤v
 ·simp -implicitDefEqProofs[hbv,ld_at c1,cel_of c1,stm_at c1,ld_at c3,cel_of c3,stm_at c3,stm_upd,ld_same,cel_same,over,tgCell]
  exact kv (hk _ (ext_upd n3 e0)) (by simp[cellC,bgn,show ¬ v<b by omega])
 ·simp -implicitDefEqProofs[hbv,ld_at c1,cel_of c1,stm_at c1,stm_upd,ld_same,cel_same,over]
  refine writing_ok v b hv fun h4 e5=>?_
  have c1:=e5 _ _ c1
  have c3:=e5 _ _ c3
  have e0:=e0.trans e5
  unfold qhFZ
  cases hw:wrt v
  ·have:IntKind.u64.wrap (v+1)=v+1:=wrapU_id (by have:=hv.1; omega) (by have:=hb.2; omega)
   simp -implicitDefEqProofs[ld_at c1,cel_of c1,stm_at c1,ld_at c3,cel_of c3,stm_at c3,stm_skip hne,stm_skip (Ne.symm hne),ld_skip hne,ld_skip (Ne.symm hne),cel_skip hne,cel_skip (Ne.symm hne),stm_upd,ld_same,cel_same,over,this,tgCell]
   exact kv (hk _ (ext_upd n1 (ext_upd n3 e0))) (by simp[cellC,bgn,show v<b by omega,hw])
  ·simp -implicitDefEqProofs[ld_at c1,cel_of c1,stm_at c1,ld_at c3,cel_of c3,stm_at c3,stm_upd,ld_same,cel_same,over,tgCell]
   exact kv (hk _ (ext_upd n3 e0)) (by simp[cellC,bgn,hw])
theorem lfree_ok (w:Int){h:Heap}(hk:∀ h',Ext h h'→K (.bool (decide (w=0))) h'):callM P qbPZ #[.agg #[.int .i64 w]] h K:=by
 apply qlyZ
 unfold qfzZ
 simp -implicitDefEqProofs only[nwM_s,cells_agg]
 intro v1 n1
 simp -implicitDefEqProofs[cel_same]
 exact hk _ (Ext.upd n1 _)
theorem lowner_ok (w:Int)(hw:-1000000≤w∧w≤1000000){h:Heap}(hk:∀ h',Ext h h'→K (.int .i64 (w-1)) h'):callM P qeDZ #[.agg #[.int .i64 w]] h K:=by
 apply qliZ
 unfold qfgZ
 simp -implicitDefEqProofs only[nwM_s,cells_agg]
 intro v1 n1
 simp -implicitDefEqProofs[cel_same,wrap64_id (n:=w-1) (by omega) (by omega)]
 exact hk _ (Ext.upd n1 _)
theorem ltake_ok (w who:Int)(hw:-1000≤who∧who≤1000000){h:Heap}(hk:∀ h',Ext h h'→K (.tuple #[.agg #[.int .i64 (if canTake w who then who+1 else w)],.bool (canTake w who)]) h'):callM P qeTZ #[.agg #[.int .i64 w],.int .i64 who] h K:=by
 apply qlDZ
 unfold qfAZ
 refine nw_agg fun v1 h1 n1 e1 c1=>?_
 rw[zcLatch]
 refine nw_intro fun v3 h2 n3 e3 c3=>?_
 have hne:=ne_fresh c1 n3
 have c1:=e3 _ _ c1
 have n3:=fresh_of e1 n3
 have e0:=e1.trans e3
 unfold qgXZ qgYZ
 by_cases hw0:who<0
 ·simp -implicitDefEqProofs[hw0,ld_at c1,cel_of c1,stm_at c1,ld_at c3,cel_of c3,stm_at c3,stm_upd,ld_same,cel_same,over]
  exact kv (hk _ (ext_upd n3 e0)) (by simp[canTake,show ¬ 0≤who by omega])
 ·simp -implicitDefEqProofs[hw0,ld_at c1,cel_of c1,stm_at c1,stm_upd,ld_same,cel_same,over]
  refine lfree_ok w fun h4 e5=>?_
  have c1:=e5 _ _ c1
  have c3:=e5 _ _ c3
  have e0:=e0.trans e5
  by_cases hw:w=0
  ·simp -implicitDefEqProofs[hw,ld_at c3,cel_of c3,stm_at c3,stm_upd,ld_same,cel_same,over,bdLatch,wrap64_id (n:=who+1) (by omega) (by omega)]
   exact kv (hk _ (ext_upd n3 e0)) (by simp[canTake,hw,show 0≤who by omega])
  ·simp -implicitDefEqProofs[hw,ld_at c1,cel_of c1,stm_at c1,ld_at c3,cel_of c3,stm_at c3,stm_upd,ld_same,cel_same,over]
   exact kv (hk _ (ext_upd n3 e0)) (by simp[canTake,hw])
theorem lgive_ok (w who:Int)(hw:-1000000≤w∧w≤1000000){h:Heap}(hk:∀ h',Ext h h'→K (.tuple #[.agg #[.int .i64 (if canGive w who then 0 else w)],.bool (canGive w who)]) h'):callM P qeUZ #[.agg #[.int .i64 w],.int .i64 who] h K:=by
 apply qlEZ
 unfold qfBZ
 refine nw_agg fun v1 h1 n1 e1 c1=>?_
 rw[zcLatch]
 refine nw_intro fun v3 h2 n3 e3 c3=>?_
 have hne:=ne_fresh c1 n3
 have c1:=e3 _ _ c1
 have n3:=fresh_of e1 n3
 have e0:=e1.trans e3
 simp -implicitDefEqProofs[ld_at c1,cel_of c1,stm_at c1,stm_upd,ld_same,cel_same,over]
 refine lfree_ok w fun h4 e5=>?_
 have c1:=e5 _ _ c1
 have c3:=e5 _ _ c3
 have e0:=e0.trans e5
 unfold qhbZ qgZZ qhaZ
 by_cases hw0:w=0
 ·simp -implicitDefEqProofs[hw0,ld_at c1,cel_of c1,stm_at c1,ld_at c3,cel_of c3,stm_at c3,stm_upd,ld_same,cel_same,over]
  exact kv (hk _ (ext_upd n3 e0)) (by simp[canGive,hw0])
 ·simp -implicitDefEqProofs[hw0,ld_at c1,cel_of c1,stm_at c1,stm_upd,ld_same,cel_same,over]
  refine lowner_ok w hw fun h4 e5=>?_
  have c1:=e5 _ _ c1
  have c3:=e5 _ _ c3
  have e0:=e0.trans e5
  by_cases hg:w-1=who
  ·simp -implicitDefEqProofs[hg,ld_at c3,cel_of c3,stm_at c3,stm_upd,ld_same,cel_same,over,bdLatch0]
   exact kv (hk _ (ext_upd n3 e0)) (by simp[canGive,hw0,hg])
  ·simp -implicitDefEqProofs[hg,ld_at c1,cel_of c1,stm_at c1,ld_at c3,cel_of c3,stm_at c3,stm_upd,ld_same,cel_same,over]
   exact kv (hk _ (ext_upd n3 e0)) (by simp[canGive,hg])
end Go.Proofs.YtcnphhhcknhhaaaGreat
namespace Go.Proofs.YtcnphhhcknhhaaaGreat
open Go Go.Den Go.MapKept
set_option linter.unusedSimpArgs false
set_option linter.unusedVariables false
set_option maxRecDepth 20000
variable {K:KTy}
theorem ringNew_ok (room:Int){T:Tags}{h:Heap}(w:Wf T h){g:Tag}(gg:Gd g)(hk:∀ T' h' p,Only (pre g) T h T' h'→RingR T' h' g p (ring0 room)→K (ptr p) h'):callM P qetZ #[.int .i64 room] h K:=by
 apply qkFZ
 unfold qeKZ
 refine vv_max ?_
 simp -implicitDefEqProofs only[bdRing,ov_s,nwM_s]
 intro p n
 exact hk (tset T p (g++[0])) _ p (Only.new _ w n) ⟨_,upd_same' _ _ _,tset_same _ _ _,Rw.nil _ _ _ _ _⟩
theorem ia_arr {n p o i:Nat}{k:IntKind}(hi:i<n):iaV (some (some n,1)) (.pointer (some ⟨p,o,none⟩)) (.int k i)=some (.pointer (some ⟨p,o+i,none⟩)):=by
 have h1:(0:Int)≤i∧(i:Int)<n:=by omega
 simp -implicitDefEqProofs[iaV,h1]
theorem feed_over {kv vv : Value} {q : Nat → Value} {j : Nat} {x : Value} (hj : j < 8) : over (feedC kv vv q).toArray (2 + j) [x] = (feedC kv vv fun k => if k = j then x else q k).toArray := by
  unfold feedC
  rw [over_map1 (by omega)]
  congr 1
  apply List.map_congr_left
  intro k _
  match k with
  | 0 => simp [feedG]; omega
  | 1 => simp [feedG]; omega
  | k + 2 => simp only [feedG]; by_cases h : k = j
             · subst h; rw [if_pos (by omega), if_pos rfl]
             · rw [if_neg (by omega), if_neg h]
theorem feedC_len (kv vv:Value)(q:Nat→Value):(feedC kv vv q).length=10:=by simp[feedC]
theorem feedC_congr {kv vv:Value}{q q':Nat→Value}(h:∀ k,k<8→q k=q' k):feedC kv vv q=feedC kv vv q':=by
 unfold feedC
 apply List.map_congr_left
 intro k hk
 match k with
 | 0=>rfl
 | 1=>rfl
 | k+2=>simp only[feedG]; exact h k (by have:=List.mem_range.1 hk; omega)
def FeedNewI (T : Tags) (h : Heap) (g : Tag) (p : Nat) (room : Int) (v : Value) (h' : Heap) : Prop := ∃ (T' : Tags) (j : Nat) (q : Nat → Nat), Only (pre g) T h T' h' ∧ h' p = some (.cells (feedC (.slice none 0 0) (.slice none 0 0) fun k => if k < j then ptr (q k) else .pointer none).toArray qdlZ (0, 0)) ∧ T' p = g ++ [0] ∧
      (∀ k, k < j → RingR T' h' (g ++ [1, k]) (q k) (ring0 room)) ∧ j ≤ 8 ∧ v = .int .i64 j
theorem feedNew_ok (room : Int) {T : Tags} {h : Heap} (w : Wf T h) {g : Tag} (gg : Gd g) (hk : ∀ T' h' p, Only (pre g) T h T' h' → FeedR T' h' g p (feed0 room) → K (ptr p) h') : callM P qjEZ #[.int .i64 room] h K := by
  apply qmZZ
  unfold qkDZ
  simp -implicitDefEqProofs only [bdFeed, ov_s, nwM_s]
  intro p n
  rw [seqM_eq]
  unfold qlwZ
  refine loop_on [0, 3] (fun s h' => FeedNewI T h g p room (s 7) h') (fun s _ => (8 - num (s 7)).toNat)
    ⟨tset T p (g ++ [0]), 0, fun _ => 0, Only.new _ w n, upd_same' _ _ _, tset_same _ _ _, fun k hk => by omega, by omega, rfl⟩ ?_
  rintro s h1 hf ⟨T1, j, q, o1, hp, tp, hr, hj, s7⟩
  have s0 : s 0 = .int .i64 room := by simpa using hf 0 (by simp)
  have s3 : s 3 = ptr p := by simpa using hf 3 (by simp)
  unfold qlvZ
  simp -implicitDefEqProofs only [s7, bin_lss, ov_s, cd_b]
  refine ⟨fun hc => ?_, fun hc => ?_⟩
  · have hlt : j < 8 := by have : ((j : Int) < 8) := by simpa using hc
                           omega
    unfold qluZ
    simp -implicitDefEqProofs only [s0, s3, ptr, ncV_p, ov_s, faV_p]
    refine ringNew_ok room o1.wf (gg.app [1, j]) fun T2 h2 p2 o2 r2 => ?_
    unfold qltZ
    have hp2 := o2.k.at hp tp (not_pre (by simp))
    simp -implicitDefEqProofs only [s7, Nat.zero_add, ia_arr hlt, ov_s, ptr]
    rw [stm_at hp2.1 (by simp) (by simp [feedC_len]; omega) (by simp)]
    simp -implicitDefEqProofs only [cells_p, feed_over hlt]
    have hw : IntKind.i64.wrap ((j : Int) + 1) = j + 1 := wrap64_id (by omega) (by omega)
    simp -implicitDefEqProofs [s7, s0, s3, hw]
    have o3 : Only (fun t => t = g ++ [0]) T2 h2 T2 (upd h2 p (.cells (feedC (.slice none 0 0) (.slice none 0 0) fun k => if k = j then ptr p2 else if k < j then ptr (q k) else .pointer none).toArray qdlZ (0, 0))) := Only.upd o2.wf hp2.1 hp2.2
    refine ⟨?_, by omega⟩
    refine ⟨T2, j + 1, fun k => if k = j then p2 else q k, (o1.trans (o2.mono fun t => pre_trans)).st hp2.1 (by rw [hp2.2]; exact pre_app g _), ?_, hp2.2, fun k hk => ?_, by omega, by simp⟩
    · rw [upd_same']
      congr 3
      apply feedC_congr
      intro k hk
      by_cases e : k = j
      · subst e; simp [ptr]
      · simp -implicitDefEqProofs only [if_neg e, ptr]; by_cases hkj : k < j
        · rw [if_pos hkj, if_pos (by omega)]
        · rw [if_neg hkj, if_neg (by omega)]
    · by_cases e : k = j
      · subst e; simp only [if_true]
        exact r2.kp o3.k (off_eq (by simp))
      · simp -implicitDefEqProofs only [if_neg e]
        exact ((hr k (by omega)).kp o2.k (off_pre (by simp; omega) (by simp; omega))).kp o3.k (off_eq (by simp))
  · have : j = 8 := by have : ¬ ((j : Int) < 8) := by simpa using hc
                       omega
    subst this
    simp -implicitDefEqProofs [s3]
    refine hk T1 h1 p o1 ⟨.slice none 0 0, .slice none 0 0, q, ?_, tp, .inl ⟨rfl, _, _, rfl⟩, .inl ⟨rfl, _, _, rfl⟩, fun k hk => hr k hk, Sn.nil, Sn.nil⟩
    rw [hp]
    congr 3
end Go.Proofs.YtcnphhhcknhhaaaGreat
namespace Go.Proofs.YtcnphhhcknhhaaaGreat
open Go Go.Den Go.MapKept
set_option linter.unusedSimpArgs false
set_option linter.unusedVariables false
set_option maxRecDepth 20000
def U02 (g t:Tag):Prop:=t=g++[0]∨t=g++[2]
def U012 (g t:Tag):Prop:=t=g++[0]∨t=g++[1]∨t=g++[2]
theorem U02.up {g t:Tag}(h:U02 g t):U012 g t:=h.elim .inl fun h=>.inr (.inr h)
theorem U012.pre {g t:Tag}(h:U012 g t):Den.pre g t:=by rcases h with rfl | rfl | rfl<;>exact pre_app _ _
theorem U02.one (g:Tag):¬ U02 g (g++[1]):=by rintro (h | h)<;>exact ne_tag (by simp) h
theorem U012.nil (g:Tag):¬ U012 g []:=by rintro (h | h | h)<;>simp at h
theorem U012.off (g:Tag)(i:Nat):Off (U012 g) (g++[3,i]):=fun t ht=>by
 rintro (h | h | h)
 ·exact off_eq (by simp) t ht h
 ·exact off_eq (by simp) t ht h
 ·exact off_eq (by simp) t ht h
variable {K:KTy}
theorem did_ok (who kind place:Int){T:Tags}{h:Heap}{g:Tag}{p:Nat}{H:Hall}(w:Wf T h)(gg:Gd g){sv av:Value}{Y:Nat→SV}(x:HallX T h g p H sv av Y)(hl:H.acts.length<1000000)
  (hk:∀ T' h' av',Only (U02 g) T h T' h'→HallX T' h' g p (H.did who kind place) sv av' Y→K (.tuple #[]) h'):callM P qFZ #[ptr p,.int .i64 who,.int .i64 kind,.int .i64 place] h K:=by
 apply qmkZ
 unfold qgNZ
 have hp:=x.hp
 simp -implicitDefEqProofs only[hallC] at hp
 simp -implicitDefEqProofs[cel_of hp,bdAct]
 refine Rw.app bsAct unSlAct apAct (by omega) (by simp) (by simp) w x.ac (by unfold maxLen; omega) (by omega) (by omega) (app_ne _ _) fun a av' T1 h1 o1 r1=>?_
 have hp1:=o1.k.at x.hp x.tp (ne_tag (by simp))
 have ho:=r1.one
 rw[stm_at hp1.1 (by simp[ho.2]) (by simp[hallC]) (by simp[ho.1,ho.2])]
 have o2:Only (U02 g) T h T1 (upd h1 p (.cells (over (hallC H sv av).toArray 11 av'.cells.toList) qaoZ (0,0))) :=
  (o1.mono fun t e=>.inr e).trans (Only.upd o1.wf hp1.1 (.inl hp1.2))
 refine hk T1 _ av' o2 ⟨?_,hp1.2,x.st.kp o2.k (U02.one g),?_,fun i hi=>(x.sr i hi).kp (o2.mono fun t=>U02.up).k (U012.off g i) (U012.nil g)⟩
 ·rw[upd_same']; simp[ho.2,hallC,over,Hall.did]
 ·have o3:Only (fun t=>t=g++[0]) T1 h1 T1 (upd h1 p (.cells (over (hallC H sv av).toArray 11 av'.cells.toList) qaoZ (0,0))):=Only.upd o1.wf hp1.1 hp1.2
  have:=r1.kp o3.k (ne_tag (by simp))
  simpa [Hall.did,actC] using this
def HallNewI (T:Tags)(h:Heap)(g:Tag)(p:Nat)(c:Cfg)(v:Value)(h':Heap):Prop :=
 ∃ (T':Tags) (i:Nat),Only (pre g) T h T' h'∧HallR T' h' g p (hall0 c i)∧i≤c.stripes.toNat∧v = .int .i64 i
theorem hallNew_ok (c : Cfg) (cw : CfgW c) {T : Tags} {h : Heap} (w : Wf T h) {g : Tag} (gg : Gd g)
    (hk1 : rightB c = true → ∀ T' h' p, Only (pre g) T h T' h' → HallR T' h' g p (hall0 c c.stripes.toNat) → K (.tuple #[ptr p, .int .i64 0]) h')
    (hk2 : rightB c = false → ∀ h', Ext h h' → K (.tuple #[.pointer none, .int .i64 1]) h') : callM P qibZ #[.agg (cfgC c).toArray] h K := by
  apply qmXZ
  unfold qkzZ
  refine nw_agg fun v1 h1 n1 e1 c1 => ?_
  have c1' := c1
  simp -implicitDefEqProofs only [cfgC] at c1
  simp -implicitDefEqProofs [ld_at c1, cel_of c1, stm_at c1, stm_upd, ld_same, cel_same, over]
  have ec : Value.agg #[.int .i64 c.stripes, .int .i64 c.sessions, .int .i64 c.queue, .int .i64 c.watches, .int .i64 c.retries, .int .u64 c.epochs, .int .u64 c.start] = .agg (cfgC c).toArray := rfl
  rw [ec]
  refine modRight_ok c fun h2 e2 => ?_
  have c1 := e2 _ _ c1
  have e0 := e1.trans e2
  unfold qlpZ
  simp -implicitDefEqProofs only [unV_n, ov_s, cd_b]
  refine ⟨fun hr => hk2 (by simpa using hr) _ e0, fun hr => ?_⟩
  have hr : rightB c = true := by simpa using hr
  have hn : 1 ≤ c.stripes ∧ c.stripes ≤ 8 := by simp [rightB] at hr; omega
  unfold qloZ
  simp -implicitDefEqProofs [ld_at c1, cel_of c1, stm_at c1, stm_upd, ld_same, cel_same, over, bdTime, bdHall]
  have w2 := w.ext e0
  refine nw_tag w2 (g ++ [0]) fun p T3 h3 n3 o3 t3 c3 => ?_
  rw [seqM_eq]
  unfold qlnZ
  have b1 : h2 v1 = _ ∧ T v1 = [] := ⟨c1, w v1 n1⟩
  have b1 := o3.see b1 (not_non _)
  have c1 := b1.1
  simp -implicitDefEqProofs [ld_at c1, cel_of c1, stm_at c1, stm_upd, ld_same, cel_same, over]
  have o0 : Only (pre g) T h T3 h3 := (Only.of_ext w e0).up o3 non_up
  have x0 : HallR T3 h3 g p (hall0 c 0) := ⟨.slice none 0 0, .slice none 0 0, fun _ => ⟨.slice none 0 0, .slice none 0 0, .slice none 0 0, .slice none 0 0, 0⟩, c3, t3, Rw.nil _ _ _ _ _, Rw.nil _ _ _ _ _, fun i hi => by simp [hall0] at hi⟩
  refine loop_on [1, 4, 15] (fun s h' => HallNewI T3 h3 g p c (s 16) h') (fun s _ => (c.stripes.toNat - num (s 16)).toNat) ⟨T3, 0, Only.refl o3.wf, x0, by omega, rfl⟩ ?_
  rintro s h4 hf ⟨T4, i, o4, x4, hi, s16⟩
  have s1 : s 1 = ptr v1 := by simpa using hf 1 (by simp)
  have s4 : s 4 = ptr p := by simpa using hf 4 (by simp)
  have s15 : s 15 = .int .i64 c.stripes := by simpa using hf 15 (by simp)
  have b1 := o4.see b1 gg.nil
  have c1 := b1.1
  unfold qlmZ
  simp -implicitDefEqProofs only [s16, s15, bin_lss, ov_s, cd_b]
  refine ⟨fun hc => ?_, fun hc => ?_⟩
  rotate_left
  · have : i = c.stripes.toNat := by have : ¬ ((i : Int) < c.stripes) := by simpa using hc
                                     omega
    subst this
    simp -implicitDefEqProofs [s4]
    exact hk1 hr T4 h4 p (o0.trans o4) x4
  have hlt : i < c.stripes.toNat := by have : ((i : Int) < c.stripes) := by simpa using hc
                                       omega
  obtain ⟨sv, av, Y, x⟩ := x4
  have bp : h4 p = _ ∧ T4 p = _ := ⟨x.hp, x.tp⟩
  simp -implicitDefEqProofs only [hallC] at bp
  have cp := bp.1
  unfold qllZ
  simp -implicitDefEqProofs [s1, s4, ld_at c1, cel_of c1, stm_at c1, ld_at cp, cel_of cp, stm_at cp, stm_upd, ld_same, cel_same, over]
  refine cellNew_ok _ cw.u1 fun h5 e5 => ?_
  have w4 := o4.wf
  have o5 : Only non T4 h4 T4 h5 := Only.of_ext w4 e5
  have c1 := e5 _ _ c1
  have bp := o5.see bp (not_non _)
  have cp := bp.1
  unfold qlkZ
  simp -implicitDefEqProofs [s1, s4, ld_at c1, cel_of c1, stm_at c1, ld_at cp, cel_of cp, stm_at cp, stm_upd, ld_same, cel_same, over]
  refine feedNew_ok _ o5.wf (gg.app [3, i]) fun T6 h6 fp o6 r6 => ?_
  have bp := o6.see bp (not_pre (by simp))
  have cp := bp.1
  simp -implicitDefEqProofs [ld_at cp, cel_of cp, stm_at cp, stm_upd, ld_same, cel_same, over, cellC, bdStripe]
  refine bs_one bsStripe (by simp) (by omega) fun sb h7 n7 e7 c7 => ?_
  have o7 : Only non T6 h6 T6 h7 := Only.of_ext o6.wf e7
  have bp := o7.see bp (not_non _)
  have cp := bp.1
  have r7 := r6.kp o7.k (Off.non _) (not_non _)
  refine ⟨by simp [ld_at cp, cel_of cp, stm_at cp, stm_upd, ld_same, cel_same, over], ?_⟩
  have st4 : Rw T6 h6 (g ++ [1]) 8 qxZ sv i _ := (x.st.kp o5.k (not_non _)).kp o6.k (not_pre (by simp))
  have st7 := st4.kp o7.k (not_non _)
  refine Rw.app1 (m := 1) (news := _) unSlStripe apStripe (by omega) o7.wf st7 (cels_one c7 (by simp)) (by simp) (by unfold maxLen; omega) (by omega) fun sv' T8 h8 o8 st8 => ?_
  have bp := o8.see bp (ne_tag (by simp))
  have cp := bp.1
  have ho := st8.one
  have hw : IntKind.i64.wrap ((i : Int) + 1) = i + 1 := wrap64_id (by omega) (by omega)
  simp -implicitDefEqProofs [ld_at cp, cel_of cp, stm_at cp, stm_upd, ld_same, cel_same, over, ho.1, ho.2, s16, s15, s1, s4, hw]
  refine ⟨?_, by omega⟩
  have o9 := fun o' => Only.upd (U := fun t => t = g ++ [0]) (o' := o') o8.wf bp.1 bp.2
  refine ⟨T8, i + 1, ((((o4.up o5 non_up).up o6 fun t => pre_trans).up o7 non_up).up o8 fun t e => e ▸ pre_app _ _).up (o9 _) fun t e => e ▸ pre_app _ _,
    ⟨sv', av, fun k => if k = i then ⟨.slice none 0 0, .slice none 0 0, .slice none 0 0, .slice none 0 0, fp⟩ else Y k, upd_same' _ _ _, bp.2, ?_, ?_, fun k hk => ?_⟩, by omega, by simp⟩
  · have := st8.kp (o9 (.cells #[.int .i64 c.stripes, .int .i64 c.sessions, .int .i64 c.queue, .int .i64 c.watches, .int .i64 c.retries, .int .u64 c.epochs, .int .u64 c.start, .int .u64 c.start, .int .u64 0, .bool false, sv', av] qaoZ (0, 0))).k (ne_tag (by simp))
    simp -implicitDefEqProofs only [hall0]
    rw [seqF_succ]
    have e1 : seqF i (fun k => strC (strp0 c) (if k = i then ⟨.slice none 0 0, .slice none 0 0, .slice none 0 0, .slice none 0 0, fp⟩ else Y k)) = seqF i fun k => strC (strp0 c) (Y k) := seqF_congr fun k hk => by rw [if_neg (by omega)]
    rw [e1]
    simpa [hall0, strC, strp0] using this
  · exact ((((x.ac.kp o5.k (not_non _)).kp o6.k (not_pre (by simp))).kp o7.k (not_non _)).kp o8.k (ne_tag (by simp))).kp (o9 _).k (ne_tag (by simp))
  · have f9 := (o9 (.cells #[.int .i64 c.stripes, .int .i64 c.sessions, .int .i64 c.queue, .int .i64 c.watches, .int .i64 c.retries, .int .u64 c.epochs, .int .u64 c.start, .int .u64 c.start, .int .u64 0, .bool false, sv', av] qaoZ (0, 0))).k
    have a8 : ∀ k, Off (fun t => t = g ++ [1]) (g ++ [3, k]) := fun k => off_eq (by simp)
    have a9 : ∀ k, Off (fun t => t = g ++ [0]) (g ++ [3, k]) := fun k => off_eq (by simp)
    by_cases hki : k = i
    · subst hki
      simp -implicitDefEqProofs only [if_true]
      have := (r7.kp o8.k (a8 _) (by simp)).kp f9 (a9 _) (by simp)
      exact ⟨BookR.nil _, BookR.nil _, this⟩
    · simp -implicitDefEqProofs only [if_neg hki]
      have hki' : k < i := by simp [hall0] at hk; omega
      exact ((((((x.sr k hki').kp o5.k (Off.non _) (not_non _))).kp o6.k (off_pre (by simp; omega) (by simp; omega)) ((gg.app _).nil)).kp o7.k (Off.non _) (not_non _)).kp o8.k (a8 _) (by simp)).kp f9 (a9 _) (by simp)
end Go.Proofs.YtcnphhhcknhhaaaGreat
