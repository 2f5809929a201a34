/- Words, plain data and contracts of the Go functions that this claim reaches. No condition beyond the hypotheses that each theorem states. -/
import Derived.Test.YtcnphhhcknhhaaaGreatWo1
set_option linter.unusedSimpArgs false
set_option linter.unusedVariables false
namespace Go.Proofs.YtcnphhhcknhhaaaGreat
open Go Go.Den
set_option maxRecDepth 100000
set_option linter.unusedVariables false
def qmdZ (a:Value)(b:Heap)(c d e f:Value)(g:Env)(h:Post)(m:List Nat)(i j k l:Value):Prop:=ldV (some none) a b=some c∧ldV (some none) d b=some e∧callM P qkvZ #[e] b fun n o=>ldV (some none) a o=some c∧ov (bdV (binf P qWZ) [(1,f),(4,n)]) fun p=>bsM (bsI P qbpZ) 1 [(0,p)] o fun q r=>ldV (some none) a r=some c∧vvM P (Builtin.append_ #[qbpZ,qbpZ] qbpZ #[c,q]) r fun s t=>ov (ncV (g 4)) fun u=>ov (faV (some 10) u) fun v=>stM (some 1) v s t fun w=>ov (binV BinOp.add 2 true (g 16) (Value.int IntKind.i64 1)) fun x=>h .normal m (puts g [(17,i),(18,(g 4)),(19,(g 4)),(20,j),(21,a),(22,c),(23,k),(24,l),(26,d),(27,e),(25,f),(28,n),(29,p),(30,q),(31,s),(32,u),(33,v),(34,x),(16,x)]) w
def qmeZ (a:Env)(b:Heap)(c:Post)(m:List Nat)(d:Value):Prop:=ov (ncV (a 4)) fun e=>ov (faV (some 10) e) fun f=>ov (ldV (some none) f b) fun g=>ov (faV (some 5) (a 1)) fun h=>ov (ldV (some none) h b) fun i=>ov (faV (some 2) (a 1)) fun j=>ov (ldV (some none) j b) fun k=>callM P qkuZ #[i] b fun l n=>qmdZ f n g j k l a c m d e h i
def qmfZ (a:Env)(b:Heap)(c:Post)(m:List Nat):Prop:=ov (binV BinOp.lss 2 false (a 16) (a 15)) fun d=>cdM d (qmeZ a b c m d) (c (.exit 0) m (puts a [(17,d)]) b)
def qmgZ (a:Value)(b:Heap)(x0 c d e f g h i j k:Value)(l:Post):Prop:=ov (faV (some 0) a) fun n=>ov (ldV (some none) n b) fun o=>loopM (fun m p q r=>qmfZ p q r m) [] (puts (envOf [x0]) [(1,a),(2,(Value.pointer none)),(3,(Value.int IntKind.i64 0)),(5,c),(6,d),(7,e),(8,f),(9,g),(10,h),(11,i),(12,j),(13,k),(4,k),(14,n),(15,o),(16,(Value.int IntKind.i64 0))]) b (blkM 0 l)
def qmhZ (a:Value)(b:Heap)(x0 c d e:Value)(K:KTy):Prop:=ov (ldV (some (some 7)) a b) fun f=>ov (faV (some 6) a) fun g=>ov (ldV (some none) g b) fun h=>ov (bdV (binf P qarZ) [(0,h)]) fun i=>ov (bdV (binf P qamZ) [(0,f),(1,i)]) fun j=>nwM (some j.cells) qamZ b fun k l=>seqM (fun n=>qmgZ a l x0 c d e f g h i j k n) (fun m o p=>(retM P [.tmp 2,.tmp 3] K) .ret m (puts o [(35,(o 4)),(2,(o 4)),(3,(Value.int IntKind.i64 0))]) p) (retM P [.tmp 2,.tmp 3] K)
def qmiZ (a:Value)(K:KTy)(b:Heap)(c x0 d:Value):Prop:=ov (unV UnOp.not a) fun e=>cdM e (K (.tuple #[(Value.pointer none),(Value.int IntKind.i64 1)]) b) (qmhZ c b x0 d a e K)
def qloZ (x0:Value)(h:Heap)(K:KTy):Prop:=nwM (some x0.cells) qcUZ h fun a b=>ov (ldV (some (some 7)) a b) fun c=>callM P qiHZ #[c] b fun d e=>qmiZ d K e a x0 c
variable {K:KTy}
theorem qnXZ {x0:Value}{h:Heap}(hd:qloZ x0 h K):callM P qiTZ #[x0] h K :=
 call_of good mixed (fn:=Tryz.f28) (args:=[x0]) Tryz.func28 rfl (by kernel_rfl) (of_decide_eq_true rfl) (B:=qloZ x0 h K) (by kernel_rfl) hd
def qfxZ (x0 x1:Value)(h:Heap)(K:KTy):Prop:=ov (ncV x0) fun a=>ov (faV (some 0) a) fun b=>ov (faV (some 0) b) fun c=>ov (ldV (some none) c h) fun d=>callM P qiIZ #[x1,d] h fun e f=>K e f
theorem qmjZ {x0 x1:Value}{h:Heap}(hd:qfxZ x0 x1 h K):callM P qbHZ #[x0,x1] h K :=
 call_of good mixed (fn:=Tryz.f43) (args:=[x0,x1]) Tryz.func43 rfl (by kernel_rfl) (of_decide_eq_true rfl) (B:=qfxZ x0 x1 h K) (by kernel_rfl) hd
def qggZ (a:Env)(b:Post)(m:List Nat)(c d e f g h:Value)(i:Heap):Prop:=ov (binV BinOp.add 2 true (a 4) (Value.int IntKind.i64 1)) fun j=>b .normal m (puts a [(19,(a 4)),(20,c),(21,c),(22,d),(23,e),(24,f),(25,g),(26,(a 3)),(27,(a 1)),(28,(a 4)),(29,h),(30,(a 4)),(31,j),(4,j)]) i
def qghZ (a:Env)(b:Heap)(c:Post)(m:List Nat)(d e f g h:Value):Prop:=callM P qahZ #[(a 3),(a 1),(a 4)] b fun i j=>qggZ a c m d e f g h i j
def qgiZ (a:Env)(b:Heap)(c:Post)(m:List Nat):Prop:=ov (binV BinOp.lss 2 true (a 4) (Value.int IntKind.i64 9)) fun d=>gM (isB d true) (fun e=>e (a 3) b) b fun f g=>gM (isB d true) (fun h=>callM P qcdZ #[f] g fun i j=>h i j) g fun k l=>gM (isB d true) (fun n=>ov (unV UnOp.not k) fun o=>n o l) l fun p q=>ov (pkV d p (Value.bool false)) fun r=>cdM r (qghZ a q c m d f k p r) (c (.exit 0) m (puts a [(19,(a 4)),(20,d),(21,d),(22,f),(23,k),(24,p),(25,r)]) q)
def qgjZ (a b c d e f g h i j:Value)(k:Heap)(l:Post):Prop:=loopM (fun m n o p=>qgiZ n o p m) [] (puts (envOf []) [(0,(Value.bool false)),(6,a),(7,b),(5,b),(8,c),(9,d),(1,c),(2,d),(10,d),(11,e),(12,e),(13,f),(14,g),(15,h),(16,c),(17,i),(18,j),(3,j),(4,(Value.int IntKind.i64 0))]) k (blkM 0 l)
def qgkZ (a:Env)(b:Heap)(K:KTy)(m:List Nat):Prop:=ov (binV BinOp.eql 2 true (a 4) (Value.int IntKind.i64 7)) fun c=>gM (isB c true) (fun d=>d (a 3) b) b fun e f=>gM (isB c true) (fun g=>callM P qeqZ #[e] f fun h i=>g h i) f fun j k=>gM (isB c true) (fun l=>ov (binV BinOp.eql 2 true j (Value.int IntKind.i64 2)) fun n=>l n k) k fun o p=>ov (pkV c o (Value.bool false)) fun q=>gM (isB q true) (fun r=>r (a 3) p) p fun s t=>gM (isB q true) (fun u=>callM P qcdZ #[s] t fun v w=>u v w) t fun x y=>ov (pkV q x (Value.bool false)) fun z=>gM (isB z true) (fun aa=>aa (a 1) y) y fun ab ac=>gM (isB z true) (fun ad=>callM P qeSZ #[ab] ac fun ae af=>ad ae af) ac fun ag ah=>gM (isB z true) (fun ai=>ov (binV BinOp.eql 2 true ag (Value.int IntKind.i64 1)) fun aj=>ai aj ah) ah fun ak al=>ov (pkV z ak (Value.bool false)) fun am=>(retM P [.tmp 0] K) .ret m (puts a [(32,(a 4)),(33,c),(34,c),(35,e),(36,j),(37,o),(38,q),(39,q),(40,s),(41,x),(42,z),(43,z),(44,ab),(45,ag),(46,ak),(47,am),(0,am)]) al
def qglZ (a b c d e f g h i j:Value)(k:Heap)(K:KTy):Prop:=seqM (fun l=>qgjZ a b c d e f g h i j k l) (fun m n o=>qgkZ n o K m) (retM P [.tmp 0] K)
def qgmZ (a:Value)(b:Heap)(c d e f g h i:Value)(K:KTy):Prop:=ov (bdV (binf P qaCZ) [(0,(Value.int IntKind.i64 1)),(1,(Value.string { data:=#[97,110,110] })),(3,(Value.int IntKind.i64 1)),(5,(Value.int IntKind.u64 5))]) fun j=>callM P qfmZ #[a,(Value.int IntKind.i64 0),j] b fun k l=>qglZ c d a e f g h i j k l K
def qgnZ (a:Value)(b:Heap)(K:KTy)(c:Value):Prop:=ov (exV a 0) fun d=>ov (exV a 1) fun e=>ov (binV BinOp.neq 2 true e (Value.int IntKind.i64 0)) fun f=>gM (isB f false) (fun g=>g d b) b fun h i=>gM (isB f false) (fun j=>ov (binV BinOp.eql 4 true h (Value.pointer none)) fun k=>j k i) i fun l m=>ov (pkV f (Value.bool true) l) fun n=>cdM n (K (Value.bool false) m) (qgmZ d m c a e f h l n K)
def qgoZ (a:Value)(b:Heap)(K:KTy):Prop:=callM P qiTZ #[a] b fun c d=>qgnZ c d K a
def qexZ (h:Heap)(K:KTy):Prop:=callM P qcGZ #[] h fun a b=>qgoZ a b K
theorem qlpZ {h:Heap}(hd:qexZ h K):callM P qaYZ #[] h K :=
 call_of good mixed (fn:=Tryz.f46) (args:=[]) Tryz.func46 rfl (by kernel_rfl) (of_decide_eq_true rfl) (B:=qexZ h K) (by kernel_rfl) hd
def qgpZ (a:Post)(m:List Nat)(b:Env)(c d e f g h i j k l:Value)(n:Heap):Prop:=a .ret m (puts b [(14,(b 3)),(15,c),(16,d),(17,e),(18,f),(21,g),(22,h),(23,(b 3)),(24,i),(25,j),(26,k),(27,l),(2,(Value.bool false))]) n
def qgqZ (a:Env)(b:Post)(m:List Nat)(c d e f g h i j k l:Value)(n:Heap):Prop:=ov (binV BinOp.add 2 true (a 3) (Value.int IntKind.i64 1)) fun o=>b .normal m (puts a [(14,(a 3)),(15,c),(16,d),(17,e),(18,f),(21,g),(22,h),(23,(a 3)),(24,i),(25,j),(26,k),(27,l),(19,(a 3)),(20,o),(3,o)]) n
def qgrZ (a:Env)(b:Heap)(c:Post)(m:List Nat)(d e f g:Value):Prop:=ov (faV (some 6) (a 1)) fun h=>ov (ldV (some none) h b) fun i=>ov (iaV (some (none,1)) i (a 3)) fun j=>ov (ldV (some none) j b) fun k=>ov (lnV 3 k) fun l=>ov (binV BinOp.gtr 2 true l (Value.int IntKind.i64 40)) fun n=>cdM n (qgpZ c m a d e f g h i j k l n b) (qgqZ a c m d e f g h i j k l n b)
def qgsZ (a:Env)(b:Heap)(c:Post)(m:List Nat):Prop:=ov (faV (some 6) (a 1)) fun d=>ov (ldV (some none) d b) fun e=>ov (lnV 7 e) fun f=>ov (binV BinOp.lss 2 false (a 3) f) fun g=>cdM g (qgrZ a b c m d e f g) (c (.exit 0) m (puts a [(14,(a 3)),(15,d),(16,e),(17,f),(18,g)]) b)
def qgtZ (x0 a b c d e f g h i j:Value)(k:Heap)(l:Post):Prop:=loopM (fun m n o p=>qgsZ n o p m) [] (puts (envOf [x0]) [(1,a),(2,(Value.bool false)),(4,b),(5,c),(6,d),(7,e),(8,e),(9,f),(10,g),(11,h),(12,i),(13,j),(3,(Value.int IntKind.i64 0))]) k (blkM 0 l)
def qguZ (x0 a b c d e f g h i j:Value)(k:Heap)(K:KTy):Prop:=seqM (fun l=>qgtZ x0 a b c d e f g h i j k l) (fun m n o=>(retM P [.tmp 2] K) .ret m (puts n [(2,(Value.bool true))]) o) (retM P [.tmp 2] K)
def qeyZ (x0:Value)(h:Heap)(K:KTy):Prop:=nwM (some x0.cells) qaCZ h fun a b=>ov (faV (some 1) a) fun c=>ov (ldV (some none) c b) fun d=>ov (lnV 3 d) fun e=>ov (binV BinOp.gtr 2 true e (Value.int IntKind.i64 40)) fun f=>gM (isB f false) (fun g=>ov (faV (some 6) a) fun i=>g i b) b fun j k=>gM (isB f false) (fun l=>ov (ldV (some none) j k) fun m=>l m k) k fun n o=>gM (isB f false) (fun p=>ov (lnV 7 n) fun q=>p q o) o fun r s=>gM (isB f false) (fun t=>ov (binV BinOp.gtr 2 true r (Value.int IntKind.i64 20)) fun u=>t u s) s fun v w=>ov (pkV f (Value.bool true) v) fun x=>cdM x (K (Value.bool false) w) (qguZ x0 a c d e f j n r v x w K)
theorem qlqZ {x0:Value}{h:Heap}(hd:qeyZ x0 h K):callM P qdIZ #[x0] h K :=
 call_of good mixed (fn:=Tryz.f47) (args:=[x0]) Tryz.func47 rfl (by kernel_rfl) (of_decide_eq_true rfl) (B:=qeyZ x0 h K) (by kernel_rfl) hd
def qdEZ (x0:Value)(h:Heap)(K:KTy):Prop:=nwM (some x0.cells) qaCZ h fun a b=>nwM (zc P qaCZ) qaCZ b fun c d=>ov (faV (some 0) a) fun e=>ov (ldV (some none) e d) fun f=>ov (binV BinOp.rem 2 true f (Value.int IntKind.i64 3)) fun g=>ov (binV BinOp.add 2 true g (Value.int IntKind.i64 3)) fun i=>ov (binV BinOp.rem 2 true i (Value.int IntKind.i64 3)) fun j=>ov (binV BinOp.add 2 true (Value.int IntKind.i64 1) j) fun k=>ov (faV (some 0) a) fun l=>stM (some 1) l k d fun m=>ov (ldV (some (some 7)) a m) fun n=>stM (some 7) c n m fun o=>ov (ldV (some (some 7)) c o) fun p=>K p o
theorem qkxZ {x0:Value}{h:Heap}(hd:qdEZ x0 h K):callM P qaxZ #[x0] h K :=
 call_of good mixed (fn:=Tryz.f48) (args:=[x0]) Tryz.func48 rfl (by kernel_rfl) (of_decide_eq_true rfl) (B:=qdEZ x0 h K) (by kernel_rfl) hd
def qlBZ (a b:Value)(c:Heap)(d:Post)(x0 e f g h i:Value):Prop:=ov (unV UnOp.not a) fun j=>gM (isB j false) (fun k=>ov (faV (some 2) b) fun l=>k l c) c fun m n=>gM (isB j false) (fun o=>ov (ldV (some none) m n) fun p=>o p n) n fun q r=>gM (isB j false) (fun s=>ov (faV (some 3) b) fun t=>s t r) r fun u v=>gM (isB j false) (fun w=>ov (ldV (some none) u v) fun x=>w x v) v fun y z=>gM (isB j false) (fun aa=>ov (faV (some 4) b) fun ab=>aa ab z) z fun ac ad=>gM (isB j false) (fun ae=>ov (ldV (some none) ac ad) fun af=>ae af ad) ad fun ag ah=>gM (isB j false) (fun ai=>callM P qjrZ #[q,y,ag] ah fun aj ak=>ai aj ak) ah fun al am=>gM (isB j false) (fun an=>ov (unV UnOp.not al) fun ao=>an ao am) am fun ap aq=>ov (pkV j (Value.bool true) ap) fun ar=>d .ret [] (puts (envOf [x0]) [(1,b),(2,(Value.bool false)),(5,e),(6,f),(8,g),(7,g),(9,h),(10,i),(11,a),(12,j),(13,j),(14,m),(15,q),(16,u),(17,y),(18,ac),(19,ag),(20,al),(21,ap),(22,ar),(2,ar)]) aq
def qlCZ (a:Value)(b:Heap)(c:Post)(x0 d e f:Value):Prop:=ov (faV (some 1) a) fun g=>ov (ldV (some none) g b) fun h=>callM P qdvZ #[h] b fun i j=>qlBZ i a j c x0 d e f g h
def qlDZ (a:Value)(b:Post)(x0 c d e f:Value)(g:Heap):Prop:=ov (binV BinOp.eql 2 true a (Value.int IntKind.i64 3)) fun h=>b .normal [] (puts (envOf [x0]) [(1,c),(2,(Value.bool false)),(5,d),(6,a),(8,e),(7,e),(24,f),(23,f),(25,h),(23,h)]) g
def qlEZ (a:Value)(b:Post)(x0 c d e:Value)(f:Heap):Prop:=ov (binV BinOp.eql 2 true a (Value.int IntKind.i64 2)) fun g=>cdM g (b .normal [] (puts (envOf [x0]) [(1,c),(2,(Value.bool false)),(5,d),(6,a),(8,e),(7,e),(24,g),(23,g)]) f) (qlDZ a b x0 c d e g f)
def qlFZ (a:Value)(b:Env)(c:Heap)(d:Post)(m:List Nat)(e f:Value):Prop:=ov (unV UnOp.not a) fun g=>gM (isB g false) (fun h=>ov (faV (some 2) (b 1)) fun i=>h i c) c fun j k=>gM (isB g false) (fun l=>ov (ldV (some none) j k) fun n=>l n k) k fun o p=>gM (isB g false) (fun q=>callM P qacZ #[o,(Value.int IntKind.i64 0),(Value.int IntKind.i64 255)] p fun r s=>q r s) p fun t u=>gM (isB g false) (fun v=>ov (unV UnOp.not t) fun w=>v w u) u fun x y=>ov (pkV g (Value.bool true) x) fun z=>d .ret m (puts b [(26,e),(27,f),(28,a),(29,g),(30,g),(31,j),(32,o),(33,t),(34,x),(35,z),(2,z)]) y
def qlGZ (a:Env)(b:Heap)(c:Post)(m:List Nat):Prop:=ov (faV (some 1) (a 1)) fun d=>ov (ldV (some none) d b) fun e=>callM P qdvZ #[e] b fun f g=>qlFZ f a g c m d e
def qkFZ (a:Env)(b:Post)(m:List Nat)(c d:Value)(e:Heap):Prop:=ov (binV BinOp.eql 2 true (a 6) (Value.int IntKind.i64 7)) fun f=>b .normal m (puts a [(37,c),(36,c),(38,d),(36,d),(39,f),(36,f)]) e
def qkGZ (a:Env)(b:Post)(m:List Nat)(c:Value)(d:Heap):Prop:=ov (binV BinOp.eql 2 true (a 6) (Value.int IntKind.i64 6)) fun e=>cdM e (b .normal m (puts a [(37,c),(36,c),(38,e),(36,e)]) d) (qkFZ a b m c e d)
def qkHZ (a:Env)(b:Post)(m:List Nat)(c:Heap):Prop:=ov (binV BinOp.eql 2 true (a 6) (Value.int IntKind.i64 4)) fun d=>cdM d (b .normal m (puts a [(37,d),(36,d)]) c) (qkGZ a b m d c)
def qkIZ (a:Env)(b:Heap)(c:Post)(m:List Nat):Prop:=ov (faV (some 1) (a 1)) fun d=>ov (ldV (some none) d b) fun e=>callM P qdvZ #[e] b fun f g=>ov (unV UnOp.not f) fun h=>c .ret m (puts a [(40,d),(41,e),(42,f),(43,h),(2,h)]) g
def qkJZ (a:Env)(b:Post)(m:List Nat)(c d e f g:Value)(h:Heap):Prop:=ov (binV BinOp.add 2 true (a 49) (Value.int IntKind.i64 1)) fun i=>b .normal m (puts a [(50,c),(51,d),(52,e),(4,e),(53,e),(54,f),(55,g),(56,i),(49,i)]) h
def qkKZ (a:Value)(b:Post)(m:List Nat)(c:Env)(d e f:Value)(g:Heap):Prop:=ov (unV UnOp.not a) fun h=>cdM h (b .ret m (puts c [(50,d),(51,e),(52,f),(4,f),(53,f),(54,a),(55,h),(2,(Value.bool true))]) g) (qkJZ c b m d e f a h g)
def qkLZ (a:Env)(b:Heap)(c:Post)(m:List Nat)(d:Value):Prop:=ov (iaV (some (none,1)) (a 47) (a 49)) fun e=>ov (ldV (some none) e b) fun f=>callM P qdvZ #[f] b fun g h=>qkKZ g c m a d e f h
def qkMZ (a:Env)(b:Heap)(c:Post)(m:List Nat):Prop:=ov (binV BinOp.lss 2 false (a 49) (a 48)) fun d=>cdM d (qkLZ a b c m d) (c (.exit 1) m (puts a [(50,d)]) b)
def qkNZ (a:Env)(b:Heap)(m:List Nat)(c:Value)(d:Post):Prop:=ov (faV (some 6) (a 1)) fun e=>ov (ldV (some none) e b) fun f=>ov (lnV 7 f) fun g=>loopM (fun m h i j=>qkMZ h i j m) m (puts a [(45,c),(44,c),(46,e),(47,f),(48,g),(49,(Value.int IntKind.i64 0))]) b (blkM 1 d)
def qkOZ (a:Env)(b:Heap)(c:Post)(m:List Nat):Prop:=ov (faV (some 6) (a 1)) fun d=>ov (ldV (some none) d b) fun e=>ov (lnV 7 e) fun f=>callM P qacZ #[f,(Value.int IntKind.i64 1),(Value.int IntKind.i64 8)] b fun g h=>ov (unV UnOp.not g) fun i=>c .ret m (puts a [(57,d),(58,e),(59,f),(60,g),(61,i),(2,i)]) h
def qkPZ (a:Env)(b:Heap)(m:List Nat)(c:Value)(d:Post):Prop:=seqM (fun e=>qkNZ a b m c e) (fun m f g=>qkOZ f g d m) (blkM 0 d)
def qkQZ (a:Env)(b:Post)(m:List Nat)(c d:Value)(e:Heap):Prop:=ov (binV BinOp.eql 2 true (a 6) (Value.int IntKind.i64 9)) fun f=>b .normal m (puts a [(45,c),(44,c),(63,d),(62,d),(64,f),(62,f)]) e
def qkRZ (a:Env)(b:Post)(m:List Nat)(c:Value)(d:Heap):Prop:=ov (binV BinOp.eql 2 true (a 6) (Value.int IntKind.i64 8)) fun e=>cdM e (b .normal m (puts a [(45,c),(44,c),(63,e),(62,e)]) d) (qkQZ a b m c e d)
def qkSZ (a:Env)(m:List Nat)(b:Value)(c:Heap)(d:Post):Prop:=seqM (fun e=>qkRZ a e m b c) (fun m f g=>cdM (f 62) (d .ret m (puts f [(2,(Value.bool false))]) g) (d .normal m f g)) (blkM 0 d)
def qkTZ (a:Env)(b:Heap)(m:List Nat)(c:Post):Prop:=ov (binV BinOp.eql 2 true (a 6) (Value.int IntKind.i64 5)) fun d=>cdM d (qkPZ a b m d c) (qkSZ a m d b c)
def qiMZ (a:Env)(b:Heap)(c:Post)(m:List Nat):Prop:=cdM (a 36) (qkIZ a b c m) (qkTZ a b m c)
def qkUZ (a:Env)(m:List Nat)(b:Heap)(c:Post):Prop:=seqM (fun d=>qkHZ a d m b) (fun m e f=>qiMZ e f c m) (blkM 0 c)
def qjtZ (a:Env)(b:Heap)(c:Post)(m:List Nat):Prop:=cdM (a 23) (qlGZ a b c m) (qkUZ a m b c)
def qlHZ (a x0 b c d:Value)(e:Heap)(f:Post):Prop:=seqM (fun g=>qlEZ a g x0 b c d e) (fun m h i=>qjtZ h i f m) (blkM 0 f)
def qlIZ (a:Value)(b:Heap)(c:Post)(x0:Value):Prop:=ov (faV (some 0) a) fun d=>ov (ldV (some none) d b) fun e=>ov (binV BinOp.eql 2 true e (Value.int IntKind.i64 1)) fun f=>cdM f (qlCZ a b c x0 d e f) (qlHZ e x0 a d f b c)
def qkyZ (x0:Value)(h:Heap)(K:KTy):Prop:=nwM (some x0.cells) qaCZ h fun a b=>seqM (fun c=>qlIZ a b c x0) (fun m d e=>(retM P [.tmp 2] K) .ret m (puts d [(2,(Value.bool true))]) e) (retM P [.tmp 2] K)
theorem qnQZ {x0:Value}{h:Heap}(hd:qkyZ x0 h K):callM P qjIZ #[x0] h K :=
 call_of good mixed (fn:=Tryz.f49) (args:=[x0]) Tryz.func49 rfl (by kernel_rfl) (of_decide_eq_true rfl) (B:=qkyZ x0 h K) (by kernel_rfl) hd
def qezZ (h:Heap)(K:KTy):Prop:=nwM (zc P qcUZ) qcUZ h fun a b=>ov (bdV (binf P qcUZ) [(0,(Value.int IntKind.i64 3)),(1,(Value.int IntKind.i64 2)),(2,(Value.int IntKind.i64 16)),(3,(Value.int IntKind.i64 4)),(4,(Value.int IntKind.i64 1)),(5,(Value.int IntKind.u64 100))]) fun c=>stM (some 7) a c b fun d=>ov (ldV (some (some 7)) a d) fun e=>K e d
theorem qlrZ {h:Heap}(hd:qezZ h K):callM P qcGZ #[] h K :=
 call_of good mixed (fn:=Tryz.f50) (args:=[]) Tryz.func50 rfl (by kernel_rfl) (of_decide_eq_true rfl) (B:=qezZ h K) (by kernel_rfl) hd
def qlJZ (a:Value)(b:Heap)(c:Post)(x0 x1 x2 d e f g h i j k l m n:Value):Prop:=ov (ncV a) fun o=>ov (faV (some 2) o) fun p=>stM (some 1) p (Value.nilFunc) b fun q=>c .normal [] (puts (envOf [x0,x1,x2]) [(4,d),(5,e),(6,(Value.pointer none)),(9,x0),(10,f),(11,g),(12,h),(7,i),(13,j),(14,k),(15,l),(16,a),(8,a),(17,m),(18,n),(19,a),(20,o),(21,p)]) q
def qlKZ (a:Post)(x0 x1 x2 b c d e f g h i j k l m:Value)(n:Heap):Prop:=a .normal [] (puts (envOf [x0,x1,x2]) [(4,b),(5,c),(6,(Value.pointer none)),(9,x0),(10,d),(11,e),(12,f),(7,g),(13,h),(14,i),(15,j),(16,k),(8,k),(17,l),(18,m)]) n
def qlLZ (a b:Value)(c:Heap)(d:Post)(x0 x1 x2 e f g h i j k l m n:Value):Prop:=cdM a (qlJZ b c d x0 x1 x2 e f g h i j k l m n a) (qlKZ d x0 x1 x2 e f g h i j k l m b n a c)
def qlMZ (a:Value)(b:Heap)(c:Value)(d:Post)(x0 x1 x2 e f g h i j k l:Value):Prop:=ov (ldV (some (some 7)) a b) fun m=>callM P qjIZ #[m] b fun n o=>qlLZ n c o d x0 x1 x2 e a f g h i j k l m
def qlNZ (a:Value)(b:Heap)(c x0 x1 x2 d e f g h i j k:Value)(K:KTy):Prop:=seqM (fun l=>qlMZ a b c l x0 x1 x2 d e f g h i j k) (fun m n o=>(retM P [.tmp 6] K) .ret m (puts n [(22,(n 8)),(6,(n 8))]) o) (retM P [.tmp 6] K)
def qlOZ (a:Heap)(b c d x0 x1 x2 e f:Value)(K:KTy):Prop:=nwM (zc P qmZ) qmZ a fun g h=>stM (some 1) g b h fun i=>ov (ldV (some none) c i) fun j=>ov (ldV (some none) g i) fun k=>ov ((some (.func (Fn.func qdxZ) #[] #[c,g,d]):Option Value)) fun l=>callM P qgDZ #[j,k,l] i fun m n=>qlNZ d n m x0 x1 x2 c e f b g j k l K
def qkzZ (x0 x1 x2:Value)(h:Heap)(K:KTy):Prop:=nwM (some x1.cells) qmZ h fun a b=>nwM (some x2.cells) qaCZ b fun c d=>ov (faV (some 1) c) fun e=>ov (ldV (some none) e d) fun f=>callM P qbHZ #[x0,f] d fun g i=>qlOZ i g a c x0 x1 x2 e f K
theorem qnRZ {x0 x1 x2:Value}{h:Heap}(hd:qkzZ x0 x1 x2 h K):callM P qfmZ #[x0,x1,x2] h K :=
 call_of good mixed (fn:=Tryz.f51) (args:=[x0,x1,x2]) Tryz.func51 rfl (by kernel_rfl) (of_decide_eq_true rfl) (B:=qkzZ x0 x1 x2 h K) (by kernel_rfl) hd
def qhYZ (a x0 b:Value)(c:Heap)(x2:Value)(K:KTy):Prop:=ov (lnV 7 a) fun d=>ov (ncV x0) fun e=>ov (faV (some 8) e) fun f=>stM (some 4) f b c fun g=>ov (ncV x0) fun h=>ov (faV (some 7) h) fun i=>stM (some 1) i x2 g fun j=>ov (ncV x0) fun k=>ov (faV (some 3) k) fun l=>stM (some 1) l d j fun m=>K (.tuple #[]) m
def qhZZ (a:Heap)(x0 x2:Value)(K:KTy):Prop:=ov (bdV (binf P qaMZ) [(0,(Value.int IntKind.i64 1))]) fun b=>callM P qdKZ #[] a fun c d=>qhYZ c x0 b d x2 K
def qiaZ (x0 x2:Value)(a:Heap)(b:Post)(x1 c d e f g h i j k l:Value):Prop:=ov (ncV x0) fun m=>ov (faV (some 7) m) fun n=>stM (some 1) n x2 a fun o=>b .normal [] (puts (envOf [x0,x1,x2]) [(6,x0),(7,x1),(8,c),(9,d),(10,x0),(11,e),(12,f),(13,g),(14,h),(28,x0),(29,i),(30,j),(31,k),(32,l),(33,x0),(34,x2),(35,m),(36,n)]) o
def qibZ (a:Post)(x0 x1 x2 b c d e f g h i j k:Value)(l:Heap):Prop:=a .normal [] (puts (envOf [x0,x1,x2]) [(6,x0),(7,x1),(8,b),(9,c),(10,x0),(11,d),(12,e),(13,f),(14,g),(28,x0),(29,h),(30,i),(31,j),(32,k)]) l
def qicZ (x0:Value)(a:Heap)(x2:Value)(b:Post)(x1 c d e f g h:Value):Prop:=ov (ncV x0) fun i=>ov (faV (some 3) i) fun j=>ov (ldV (some none) j a) fun k=>ov (binV BinOp.eql 2 true k (Value.int IntKind.i64 2)) fun l=>cdM l (qiaZ x0 x2 a b x1 c d e f g h i j k l) (qibZ b x0 x1 x2 c d e f g h i j k l a)
def qhnZ (a:Env)(b:Heap)(K:KTy)(m:List Nat)(c d e f g h i:Value):Prop:=ov (ncV (a 0)) fun j=>ov (faV (some 3) j) fun k=>ov (ldV (some none) k b) fun l=>ov (binV BinOp.add 2 true l (Value.int IntKind.i64 1)) fun n=>ov (ncV (a 0)) fun o=>ov (faV (some 3) o) fun p=>stM (some 1) p n b fun q=>(retM P [] K) .normal m (puts a [(38,(a 0)),(39,c),(40,d),(41,e),(44,(a 0)),(45,(a 1)),(37,f),(42,g),(43,h),(46,i),(47,(a 0)),(48,j),(49,k),(50,l),(51,n),(52,o),(53,p)]) q
def qhoZ (a:Value)(b:Heap)(c e:Value)(f:Env)(K:KTy)(m:List Nat)(g:Value):Prop:=ldV (some none) a b=some c∧ov (iaV (some (none,1)) e c) fun h=>ov (ldV (some none) h b) fun i=>nxM P (do let d ← Deferred.ofValue i #[(f 0),(f 1)] ; invoke d.target d.args) b fun j k=>qhnZ f k K m g a c e h i j
def qeWZ (a:Env)(b:Heap)(K:KTy)(m:List Nat):Prop:=ov (ncV (a 0)) fun c=>ov (faV (some 3) c) fun d=>ov (ldV (some none) d b) fun e=>callM P qdKZ #[] b fun f g=>qhoZ d g e f a K m c
def qidZ (x0:Value)(a:Heap)(x2 x1 b c d e f g:Value)(K:KTy):Prop:=seqM (fun h=>qicZ x0 a x2 h x1 b c d e f g) (fun m i j=>qeWZ i j K m) (retM P [] K)
def qieZ (x0:Value)(a:Heap)(x2:Value)(K:KTy)(x1 b c:Value):Prop:=ov (ncV x0) fun d=>ov (faV (some 2) d) fun e=>ov (ldV (some none) e a) fun f=>ov (binV BinOp.eql 6 true f (Value.nilFunc)) fun g=>cdM g (qhZZ a x0 x2 K) (qidZ x0 a x2 x1 b c d e f g K)
def qifZ (a:Value)(K:KTy)(b:Heap)(x0 x2 x1:Value):Prop:=ov (unV UnOp.not a) fun c=>cdM c (K (.tuple #[]) b) (qieZ x0 b x2 K x1 a c)
def qfRZ (x0 x1 x2:Value)(h:Heap)(K:KTy):Prop:=callM P qcHZ #[x0,x1] h fun a b=>qifZ a K b x0 x2 x1
theorem qmLZ {x0 x1 x2:Value}{h:Heap}(hd:qfRZ x0 x1 x2 h K):callM P qahZ #[x0,x1,x2] h K :=
 call_of good mixed (fn:=Tryz.f52) (args:=[x0,x1,x2]) Tryz.func52 rfl (by kernel_rfl) (of_decide_eq_true rfl) (B:=qfRZ x0 x1 x2 h K) (by kernel_rfl) hd
def qfSZ (x0:Value)(h:Heap)(K:KTy):Prop:=ov (ncV x0) fun a=>ov (faV (some 3) a) fun b=>ov (ldV (some none) b h) fun c=>callM P qdKZ #[] h fun d e=>ldV (some none) b e=some c∧ov (lnV 7 d) fun f=>ov (binV BinOp.geq 2 false c f) fun g=>K g e
theorem qmMZ {x0:Value}{h:Heap}(hd:qfSZ x0 h K):callM P qcdZ #[x0] h K :=
 call_of good mixed (fn:=Tryz.f53) (args:=[x0]) Tryz.func53 rfl (by kernel_rfl) (of_decide_eq_true rfl) (B:=qfSZ x0 h K) (by kernel_rfl) hd
def qeXZ (x0:Value)(h:Heap)(K:KTy):Prop:=ov (ncV x0) fun a=>ov (faV (some 7) a) fun b=>ov (ldV (some none) b h) fun c=>K c h
theorem qlUZ {x0:Value}{h:Heap}(hd:qeXZ x0 h K):callM P qeqZ #[x0] h K :=
 call_of good mixed (fn:=Tryz.f54) (args:=[x0]) Tryz.func54 rfl (by kernel_rfl) (of_decide_eq_true rfl) (B:=qeXZ x0 h K) (by kernel_rfl) hd
def qgvZ (a x0:Value)(b:Heap)(x1:Value)(K:KTy):Prop:=ov (unV UnOp.not a) fun c=>gM (isB c true) (fun d=>d x0 b) b fun e f=>gM (isB c true) (fun g=>callM P qeRZ #[e] f fun h i=>g h i) f fun j k=>gM (isB c true) (fun l=>ov (binV BinOp.lss 2 true j (Value.int IntKind.i64 0)) fun m=>l m k) k fun n o=>gM (isB c true) (fun p=>p n o) o fun q r=>gM (isB q false) (fun s=>s x1 r) r fun t u=>gM (isB q false) (fun v=>v x0 u) u fun w x=>gM (isB q false) (fun y=>ov (ncV w) fun z=>y z x) x fun aa ab=>gM (isB q false) (fun ac=>ov (faV (some 1) aa) fun ad=>ac ad ab) ab fun ae af=>gM (isB q false) (fun ag=>ov (ldV (some none) ae af) fun ah=>ag ah af) af fun ai aj=>gM (isB q false) (fun ak=>callM P qfOZ #[t,ai] aj fun al am=>ak al am) aj fun an ao=>gM (isB c true) (fun ap=>ov (pkV q (Value.bool true) an) fun aq=>ap aq ao) ao fun ar au=>ov (pkV c ar (Value.bool false)) fun av=>K av au
def qeAZ (x0 x1:Value)(h:Heap)(K:KTy):Prop:=callM P qcdZ #[x0] h fun a b=>qgvZ a x0 b x1 K
theorem qlsZ {x0 x1:Value}{h:Heap}(hd:qeAZ x0 x1 h K):callM P qcHZ #[x0,x1] h K :=
 call_of good mixed (fn:=Tryz.f55) (args:=[x0,x1]) Tryz.func55 rfl (by kernel_rfl) (of_decide_eq_true rfl) (B:=qeAZ x0 x1 h K) (by kernel_rfl) hd
def qfyZ (x0:Value)(h:Heap)(K:KTy):Prop:=ov (ncV x0) fun a=>ov (faV (some 2) a) fun b=>ov (ldV (some none) b h) fun c=>ov (binV BinOp.eql 6 true c (Value.nilFunc)) fun d=>gM (isB d false) (fun e=>e x0 h) h fun f g=>gM (isB d false) (fun i=>ov (ncV f) fun j=>i j g) g fun k l=>gM (isB d false) (fun m=>ov (faV (some 3) k) fun n=>m n l) l fun o p=>gM (isB d false) (fun q=>ov (ldV (some none) o p) fun r=>q r p) p fun s t=>gM (isB d false) (fun u=>ov (binV BinOp.gtr 2 true s (Value.int IntKind.i64 0)) fun v=>u v t) t fun w x=>ov (pkV d (Value.bool true) w) fun y=>cdM y (K (Value.int IntKind.i64 (-1)) x) (ov (ncV x0) fun z=>ov (faV (some 1) z) fun aa=>ov (ldV (some none) aa x) fun ab=>K ab x)
theorem qmkZ {x0:Value}{h:Heap}(hd:qfyZ x0 h K):callM P qeRZ #[x0] h K :=
 call_of good mixed (fn:=Tryz.f56) (args:=[x0]) Tryz.func56 rfl (by kernel_rfl) (of_decide_eq_true rfl) (B:=qfyZ x0 h K) (by kernel_rfl) hd
def qhpZ (a b:Value)(c:Heap)(d:Value)(K:KTy):Prop:=gM (isB a true) (fun e=>e b c) c fun f g=>ov (pkV a f (Value.bool false)) fun h=>gM (isB h true) (fun i=>ov (faV (some 3) d) fun j=>i j g) g fun k l=>gM (isB h true) (fun m=>ov (ldV (some none) k l) fun n=>m n l) l fun o p=>gM (isB h true) (fun q=>ov (binV BinOp.gtr 2 true o (Value.int IntKind.i64 0)) fun r=>q r p) p fun s t=>ov (pkV h s (Value.bool false)) fun u=>gM (isB u true) (fun v=>ov (faV (some 3) d) fun w=>v w t) t fun x y=>gM (isB u true) (fun z=>ov (ldV (some none) x y) fun aa=>z aa y) y fun ab ac=>gM (isB u true) (fun ad=>ov (binV BinOp.lss 2 true ab (Value.int IntKind.i64 10)) fun ae=>ad ae ac) ac fun af ag=>ov (pkV u af (Value.bool false)) fun ah=>gM (isB ah true) (fun ai=>ov (faV (some 4) d) fun aj=>ai aj ag) ag fun ak al=>gM (isB ah true) (fun am=>ov (ldV (some none) ak al) fun an=>am an al) al fun ao ap=>gM (isB ah true) (fun aq=>ov (binV BinOp.geq 2 true ao (Value.int IntKind.i64 0)) fun ar=>aq ar ap) ap fun au av=>ov (pkV ah au (Value.bool false)) fun aw=>gM (isB aw true) (fun ax=>ov (faV (some 4) d) fun ay=>ax ay av) av fun az ba=>gM (isB aw true) (fun bb=>ov (ldV (some none) az ba) fun bc=>bb bc ba) ba fun bd be=>gM (isB aw true) (fun bf=>ov (binV BinOp.lss 2 true bd (Value.int IntKind.i64 10)) fun bg=>bf bg be) be fun bh bi=>ov (pkV aw bh (Value.bool false)) fun bj=>ov (unV UnOp.not bj) fun bk=>K bk bi
def qhqZ (a:Value)(b:Heap)(c:Value)(K:KTy):Prop:=ov (faV (some 1) a) fun d=>ov (ldV (some none) d b) fun e=>callM P qasZ #[e] b fun f g=>qhpZ f c g a K
def qhrZ (a b:Value)(c:Heap)(K:KTy):Prop:=gM (isB a true) (fun d=>d b c) c fun e f=>ov (pkV a e (Value.bool false)) fun g=>ov (unV UnOp.not g) fun h=>K h f
def qhsZ (a:Value)(b:Heap)(c:Value)(K:KTy):Prop:=ov (faV (some 1) a) fun d=>ov (ldV (some none) d b) fun e=>callM P qasZ #[e] b fun f g=>qhrZ f c g K
def qhtZ (a:Value)(b:Heap)(K:KTy):Prop:=ov (faV (some 1) a) fun c=>ov (ldV (some none) c b) fun d=>callM P qasZ #[d] b fun e f=>ov (unV UnOp.not e) fun g=>K g f
def qgQZ (a:Env)(b:Heap)(c:Post)(m:List Nat)(d e f g:Value):Prop:=gM (isB (a 4) false) (fun h=>ov (faV (some 6) (a 1)) fun i=>h i b) b fun j k=>gM (isB (a 4) false) (fun l=>ov (ldV (some none) j k) fun n=>l n k) k fun o p=>gM (isB (a 4) false) (fun q=>q (a 5) p) p fun r s=>gM (isB (a 4) false) (fun t=>ov (iaV (some (none,1)) o r) fun u=>t u s) s fun v w=>gM (isB (a 4) false) (fun x=>ov (ldV (some none) v w) fun y=>x y w) w fun z aa=>gM (isB (a 4) false) (fun ab=>callM P qasZ #[z] aa fun ac ad=>ab ac ad) aa fun ae af=>gM (isB (a 4) false) (fun ag=>ov (unV UnOp.not ae) fun ah=>ag ah af) af fun ai aj=>ov (pkV (a 4) (Value.bool true) ai) fun ak=>ov (binV BinOp.add 2 true (a 5) (Value.int IntKind.i64 1)) fun al=>c .normal m (puts a [(89,(a 5)),(90,d),(91,e),(92,f),(93,g),(96,(a 4)),(97,(a 4)),(98,j),(99,o),(100,r),(101,v),(102,z),(103,ae),(104,ai),(105,ak),(4,ak),(94,(a 5)),(95,al),(5,al)]) aj
def qgRZ (a:Env)(b:Heap)(c:Post)(m:List Nat):Prop:=ov (faV (some 6) (a 1)) fun d=>ov (ldV (some none) d b) fun e=>ov (lnV 7 e) fun f=>ov (binV BinOp.lss 2 false (a 5) f) fun g=>cdM g (qgQZ a b c m d e f g) (c (.exit 0) m (puts a [(89,(a 5)),(90,d),(91,e),(92,f),(93,g)]) b)
def qgSZ (x0 a b c d e f g h i j k l n o p q r s t u v w x y z aa ab ac ad ae af ag ah ai aj ak al am an ao ap:Value)(aq:Heap)(ar:Post):Prop:=loopM (fun m au av aw=>qgRZ au av aw m) [] (puts (envOf [x0]) [(1,a),(2,(Value.bool false)),(6,b),(7,c),(8,d),(9,d),(10,e),(11,f),(12,g),(13,h),(3,h),(14,i),(15,j),(16,k),(44,l),(45,n),(46,o),(47,o),(48,p),(49,q),(50,r),(51,s),(59,t),(60,u),(61,v),(62,v),(63,w),(64,x),(65,y),(66,z),(67,z),(68,aa),(69,ab),(70,ac),(71,ad),(76,ae),(77,af),(78,ag),(79,ah),(80,ai),(81,aj),(82,ak),(83,ak),(84,al),(85,am),(86,an),(87,ao),(88,ap),(4,ap),(5,(Value.int IntKind.i64 0))]) aq (blkM 0 ar)
def qgTZ (a:Value)(b:Heap)(x0 c d e f g h i j k l n o p q r s t u v w x y z aa ab ac ad ae af ag ah:Value)(ai:Post):Prop:=ov (faV (some 6) a) fun aj=>ov (ldV (some none) aj b) fun ak=>ov (lnV 7 ak) fun al=>ov (binV BinOp.lss 2 true al (Value.int IntKind.i64 1)) fun am=>gM (isB am false) (fun an=>ov (faV (some 6) a) fun ao=>an ao b) b fun ap aq=>gM (isB am false) (fun ar=>ov (ldV (some none) ap aq) fun au=>ar au aq) aq fun av aw=>gM (isB am false) (fun ax=>ov (lnV 7 av) fun ay=>ax ay aw) aw fun az ba=>gM (isB am false) (fun bb=>ov (binV BinOp.gtr 2 true az (Value.int IntKind.i64 8)) fun bc=>bb bc ba) ba fun bd be=>ov (pkV am (Value.bool true) bd) fun bf=>seqM (fun bg=>qgSZ x0 a c d e f g h i j k l n o p q r s t u v w x y z aa ab ac ad ae af ag ah aj ak al am ap av az bd bf be bg) (fun m bh bi=>ai .ret m (puts bh [(106,(bh 4)),(2,(bh 4))]) bi) ai
def qgUZ (a:Post)(x0 b c d e f g h i j k l m n o p q r s t u v w x y z aa ab ac ad ae af ag:Value)(ah:Heap):Prop:=a .normal [] (puts (envOf [x0]) [(1,b),(2,(Value.bool false)),(6,c),(7,d),(8,e),(9,e),(10,f),(11,g),(12,h),(13,i),(3,i),(14,j),(15,k),(16,l),(44,m),(45,n),(46,o),(47,o),(48,p),(49,q),(50,r),(51,s),(59,t),(60,u),(61,v),(62,v),(63,w),(64,x),(65,y),(66,z),(67,z),(68,aa),(69,ab),(70,ac),(71,ad),(76,ae),(77,af),(78,ag)]) ah
def qhuZ (a:Value)(b:Heap)(x0 c d e f g h i j k l m n o p q r s t u v w x y z aa ab ac ad:Value)(ae:Post):Prop:=ov (faV (some 0) a) fun af=>ov (ldV (some none) af b) fun ag=>ov (binV BinOp.eql 2 true ag (Value.int IntKind.i64 5)) fun ah=>cdM ah (qgTZ a b x0 c d e f g h i j k l m n o p q r s t u v w x y z aa ab ac ad af ag ah ae) (qgUZ ae x0 a c d e f g h i j k l m n o p q r s t u v w x y z aa ab ac ad af ag ah b)
def qgVZ (a:Env)(b:Heap)(K:KTy)(m:List Nat):Prop:=ov (faV (some 0) (a 1)) fun c=>ov (ldV (some none) c b) fun d=>ov (binV BinOp.neq 2 true d (Value.int IntKind.i64 8)) fun e=>gM (isB e true) (fun f=>ov (faV (some 0) (a 1)) fun g=>f g b) b fun h i=>gM (isB e true) (fun j=>ov (ldV (some none) h i) fun k=>j k i) i fun l n=>gM (isB e true) (fun o=>ov (binV BinOp.neq 2 true l (Value.int IntKind.i64 9)) fun p=>o p n) n fun q r=>ov (pkV e q (Value.bool false)) fun s=>(retM P [.tmp 2] K) .ret m (puts a [(107,c),(108,d),(109,e),(110,e),(111,h),(112,l),(113,q),(114,s),(2,s)]) r
def qhvZ (a:Value)(b:Heap)(x0 c d e f g h i j k l n o p q r s t u v w x y z aa ab ac ad ae:Value)(K:KTy):Prop:=seqM (fun af=>qhuZ a b x0 c d e f g h i j k l n o p q r s t u v w x y z aa ab ac ad ae af) (fun m ag ah=>qgVZ ag ah K m) (retM P [.tmp 2] K)
def qhwZ (a:Value)(b:Heap)(K:KTy)(x0 c d e f g h i j k l m n o p q r s:Value):Prop:=ov (faV (some 0) a) fun t=>ov (ldV (some none) t b) fun u=>ov (binV BinOp.eql 2 true u (Value.int IntKind.i64 4)) fun v=>gM (isB v false) (fun w=>ov (faV (some 0) a) fun x=>w x b) b fun y z=>gM (isB v false) (fun aa=>ov (ldV (some none) y z) fun ab=>aa ab z) z fun ac ad=>gM (isB v false) (fun ae=>ov (binV BinOp.eql 2 true ac (Value.int IntKind.i64 6)) fun af=>ae af ad) ad fun ag ah=>ov (pkV v (Value.bool true) ag) fun ai=>gM (isB ai false) (fun aj=>ov (faV (some 0) a) fun ak=>aj ak ah) ah fun al am=>gM (isB ai false) (fun an=>ov (ldV (some none) al am) fun ao=>an ao am) am fun ap aq=>gM (isB ai false) (fun ar=>ov (binV BinOp.eql 2 true ap (Value.int IntKind.i64 7)) fun au=>ar au aq) aq fun av aw=>ov (pkV ai (Value.bool true) av) fun ax=>cdM ax (qhtZ a aw K) (qhvZ a aw x0 c d e f g h i j k l m n o p q r s t u v y ac ag ai al ap av ax K)
def qhxZ (a:Value)(b:Heap)(c:Value)(K:KTy)(x0 d e f g h i j k l:Value):Prop:=ov (faV (some 0) a) fun m=>ov (ldV (some none) m b) fun n=>ov (binV BinOp.eql 2 true n (Value.int IntKind.i64 2)) fun o=>gM (isB o false) (fun p=>ov (faV (some 0) a) fun q=>p q b) b fun r s=>gM (isB o false) (fun t=>ov (ldV (some none) r s) fun u=>t u s) s fun v w=>gM (isB o false) (fun x=>ov (binV BinOp.eql 2 true v (Value.int IntKind.i64 3)) fun y=>x y w) w fun z aa=>ov (pkV o (Value.bool true) z) fun ab=>cdM ab (qhsZ a aa c K) (qhwZ a aa K x0 d e f g h i c j k l m n o r v z ab)
def qfzZ (x0:Value)(h:Heap)(K:KTy):Prop:=nwM (some x0.cells) qaCZ h fun a b=>ov (faV (some 2) a) fun c=>ov (ldV (some none) c b) fun d=>ov (binV BinOp.geq 2 true d (Value.int IntKind.i64 0)) fun e=>gM (isB e true) (fun f=>ov (faV (some 2) a) fun g=>f g b) b fun i j=>gM (isB e true) (fun k=>ov (ldV (some none) i j) fun l=>k l j) j fun m n=>gM (isB e true) (fun o=>ov (binV BinOp.lss 2 true m (Value.int IntKind.i64 256)) fun p=>o p n) n fun q r=>ov (pkV e q (Value.bool false)) fun s=>ov (faV (some 0) a) fun t=>ov (ldV (some none) t r) fun u=>ov (binV BinOp.eql 2 true u (Value.int IntKind.i64 1)) fun v=>cdM v (qhqZ a r s K) (qhxZ a r s K x0 c d e i m q t u v)
theorem qmlZ {x0:Value}{h:Heap}(hd:qfzZ x0 h K):callM P qdhZ #[x0] h K :=
 call_of good mixed (fn:=Tryz.f57) (args:=[x0]) Tryz.func57 rfl (by kernel_rfl) (of_decide_eq_true rfl) (B:=qfzZ x0 h K) (by kernel_rfl) hd
def qgwZ (a b:Value)(c:Heap)(K:KTy):Prop:=ov ((some (.func (Fn.func qaiZ) #[] #[a]):Option Value)) fun e=>nxM P (do let d ← Deferred.ofValue b #[e] ; invoke d.target d.args) c fun f g=>ov (ldV (some none) a g) fun h=>K h g
def qeBZ (x0:Value)(h:Heap)(K:KTy):Prop:=nwM (some x0.cells) qaZ h fun a b=>nwM (zc P qkZ) qkZ b fun c d=>ov (ldV (some (some 2)) a d) fun e=>callM P quZ #[e] d fun f g=>qgwZ c f g K
theorem qltZ {x0:Value}{h:Heap}(hd:qeBZ x0 h K):callM P qcIZ #[x0] h K :=
 call_of good mixed (fn:=Tryz.f58) (args:=[x0]) Tryz.func58 rfl (by kernel_rfl) (of_decide_eq_true rfl) (B:=qeBZ x0 h K) (by kernel_rfl) hd
def qiVZ (x0:Value)(a:Heap)(x2 b:Value)(K:KTy):Prop:=ov (ncV x0) fun c=>ov (faV (some 10) c) fun d=>ov (ldV (some none) d a) fun e=>ov (iaV (some (none,8)) e x2) fun f=>ov (faV (some 3) f) fun g=>ov (ldV (some (some 2)) g a) fun h=>stM (some 2) b h a fun i=>ov (ldV (some (some 2)) b i) fun j=>K j i
def qiWZ (x0 x1 a:Value)(b:Heap)(x2 c:Value)(K:KTy):Prop:=callM P qsZ #[x0,x1,(Value.int IntKind.i64 3),a] b fun d e=>qiVZ x0 e x2 c K
def qgHZ (x0 x1 x2:Value)(h:Heap)(K:KTy):Prop:=nwM (zc P qaZ) qaZ h fun a b=>callM P qTZ #[x2,(Value.int IntKind.i64 3)] b fun c d=>qiWZ x0 x1 c d x2 a K
theorem qneZ {x0 x1 x2:Value}{h:Heap}(hd:qgHZ x0 x1 x2 h K):callM P qdHZ #[x0,x1,x2] h K :=
 call_of good mixed (fn:=Tryz.f59) (args:=[x0,x1,x2]) Tryz.func59 rfl (by kernel_rfl) (of_decide_eq_true rfl) (B:=qgHZ x0 x1 x2 h K) (by kernel_rfl) hd
def qcKZ (a:Post)(m:List Nat)(b:Env)(c d e f g h i j k l n o p q r s t u v w x y z aa ab ac ad ae af ag ah ai aj ak:Value)(al:Heap):Prop:=a .ret m (puts b [(11,(b 5)),(12,(b 0)),(13,c),(14,d),(17,(b 0)),(18,(b 5)),(19,e),(20,f),(21,g),(22,(b 1)),(23,(b 5)),(24,h),(25,i),(26,j),(27,k),(28,k),(29,l),(30,n),(31,o),(32,p),(33,q),(34,r),(35,s),(36,t),(37,u),(38,v),(39,w),(40,x),(41,x),(42,y),(43,z),(44,aa),(45,ab),(46,ac),(47,ad),(48,ae),(49,af),(50,ag),(51,ah),(52,ai),(53,aj),(54,ak),(4,(Value.bool false))]) al
def qgWZ (a:Env)(b:Post)(m:List Nat)(c d e f g h i j k l n o p q r s t u v w x y z aa ab ac ad ae af ag ah ai aj ak:Value)(al:Heap):Prop:=ov (binV BinOp.add 2 true (a 5) (Value.int IntKind.i64 1)) fun am=>b .normal m (puts a [(11,(a 5)),(12,(a 0)),(13,c),(14,d),(17,(a 0)),(18,(a 5)),(19,e),(20,f),(21,g),(22,(a 1)),(23,(a 5)),(24,h),(25,i),(26,j),(27,k),(28,k),(29,l),(30,n),(31,o),(32,p),(33,q),(34,r),(35,s),(36,t),(37,u),(38,v),(39,w),(40,x),(41,x),(42,y),(43,z),(44,aa),(45,ab),(46,ac),(47,ad),(48,ae),(49,af),(50,ag),(51,ah),(52,ai),(53,aj),(54,ak),(15,(a 5)),(16,am),(5,am)]) al
def qgXZ (a:Env)(b:Heap)(c:Post)(m:List Nat)(d e:Value):Prop:=ov (iaV (some (none,5)) (a 0) (a 5)) fun f=>ov (faV (some 0) f) fun g=>ov (ldV (some none) g b) fun h=>ov (iaV (some (none,5)) (a 1) (a 5)) fun i=>ov (faV (some 0) i) fun j=>ov (ldV (some none) j b) fun l=>ov (binV BinOp.neq 3 false h l) fun n=>gv (isB n false) (fun k=>k (a 0)) fun o=>gv (isB n false) (fun k=>k (a 5)) fun p=>gv (isB n false) (ov (iaV (some (none,5)) o p)) fun q=>gv (isB n false) (ov (faV (some 2) q)) fun r=>gv (isB n false) (ov (ldV (some (some 3)) r b)) fun s=>gv (isB n false) (fun k=>k (a 1)) fun t=>gv (isB n false) (fun k=>k (a 5)) fun u=>gv (isB n false) (ov (iaV (some (none,5)) t u)) fun v=>gv (isB n false) (ov (faV (some 2) v)) fun w=>gv (isB n false) (ov (ldV (some (some 3)) w b)) fun x=>gv (isB n false) (pvM P (do eqGuard BinOp.neq qqZ (Operand.tmp 33) (Operand.tmp 38) s x; binOp BinOp.neq qqZ s x)) fun y=>ov (pkV n (Value.bool true) y) fun z=>gv (isB z false) (fun k=>k (a 0)) fun aa=>gv (isB z false) (fun k=>k (a 5)) fun ab=>gv (isB z false) (ov (iaV (some (none,5)) aa ab)) fun ac=>gv (isB z false) (ov (faV (some 1) ac)) fun ad=>gv (isB z false) (ov (ldV (some none) ad b)) fun ae=>gv (isB z false) (fun k=>k (a 1)) fun af=>gv (isB z false) (fun k=>k (a 5)) fun ag=>gv (isB z false) (ov (iaV (some (none,5)) af ag)) fun ah=>gv (isB z false) (ov (faV (some 1) ah)) fun ai=>gv (isB z false) (ov (ldV (some none) ai b)) fun aj=>gM (isB z false) (fun ak=>callM P qetZ #[ae,aj] b fun al am=>ak al am) b fun an ao=>gv (isB z false) (ov (unV UnOp.not an)) fun ap=>ov (pkV z (Value.bool true) ap) fun aq=>cdM aq (qcKZ c m a d e f g h i j l n o p q r s t u v w x y z aa ab ac ad ae af ag ah ai aj an ap aq ao) (qgWZ a c m d e f g h i j l n o p q r s t u v w x y z aa ab ac ad ae af ag ah ai aj an ap aq ao)
def qgYZ (a:Env)(b:Heap)(c:Post)(m:List Nat):Prop:=ov (lnV 7 (a 0)) fun d=>ov (binV BinOp.lss 2 false (a 5) d) fun e=>cdM e (qgXZ a b c m d e) (c (.exit 0) m (puts a [(11,(a 5)),(12,(a 0)),(13,d),(14,e)]) b)
def qgZZ (x0 x1 a b c:Value)(h:Heap)(d:Post):Prop:=loopM (fun m e f g=>qgYZ e f g m) [] (puts (envOf [x0,x1]) [(4,(Value.bool false)),(6,x0),(7,a),(8,x1),(9,b),(10,c),(5,(Value.int IntKind.i64 0))]) h (blkM 0 d)
def qhaZ (x0 x1 a b c:Value)(h:Heap)(K:KTy):Prop:=seqM (fun d=>qgZZ x0 x1 a b c h d) (fun m e f=>(retM P [.tmp 4] K) .ret m (puts e [(4,(Value.bool true))]) f) (retM P [.tmp 4] K)
def qeYZ (x0 x1:Value)(h:Heap)(K:KTy):Prop:=ov (lnV 7 x0) fun a=>ov (lnV 7 x1) fun b=>ov (binV BinOp.neq 2 false a b) fun c=>cdM c (K (Value.bool false) h) (qhaZ x0 x1 a b c h K)
theorem qlVZ {x0 x1:Value}{h:Heap}(hd:qeYZ x0 x1 h K):callM P qerZ #[x0,x1] h K :=
 call_of good mixed (fn:=Tryz.f60) (args:=[x0,x1]) Tryz.func60 rfl (by kernel_rfl) (of_decide_eq_true rfl) (B:=qeYZ x0 x1 h K) (by kernel_rfl) hd
def qigZ (x0:Value)(a:Heap)(x2:Value)(K:KTy):Prop:=ov (ncV x0) fun b=>ov (faV (some 10) b) fun c=>ov (ldV (some none) c a) fun d=>ov (iaV (some (none,8)) d x2) fun e=>ov (faV (some 1) e) fun f=>ov (ldV (some (some 2)) f a) fun g=>callM P qfqZ #[g] a fun h i=>K h i
def qihZ (x0 x1 a:Value)(b:Heap)(x2:Value)(K:KTy):Prop:=callM P qsZ #[x0,x1,(Value.int IntKind.i64 3),a] b fun c d=>qigZ x0 d x2 K
def qfTZ (x0 x1 x2:Value)(h:Heap)(K:KTy):Prop:=callM P qTZ #[x2,(Value.int IntKind.i64 2)] h fun a b=>qihZ x0 x1 a b x2 K
theorem qmNZ {x0 x1 x2:Value}{h:Heap}(hd:qfTZ x0 x1 x2 h K):callM P qfnZ #[x0,x1,x2] h K :=
 call_of good mixed (fn:=Tryz.f61) (args:=[x0,x1,x2]) Tryz.func61 rfl (by kernel_rfl) (of_decide_eq_true rfl) (B:=qfTZ x0 x1 x2 h K) (by kernel_rfl) hd
end Go.Proofs.YtcnphhhcknhhaaaGreat
namespace Go.Proofs.YtcnphhhcknhhaaaGreat
open Go Go.Den
set_option maxRecDepth 100000
set_option linter.unusedVariables false
def qhyZ (x0 x1 x2:Value)(h:Heap)(K:KTy):Prop:=ov (bdV (binf P qbqZ) [(0,x0),(1,x1),(2,x2),(5,(Value.int IntKind.i64 (-1)))]) fun a=>nwM (some a.cells) qbqZ h fun b c=>K b c
variable {K:KTy}
theorem qnmZ {x0 x1 x2:Value}{h:Heap}(hd:qhyZ x0 x1 x2 h K):callM P qgDZ #[x0,x1,x2] h K :=
 call_of good mixed (fn:=Tryz.f67) (args:=[x0,x1,x2]) Tryz.func67 rfl (by kernel_rfl) (of_decide_eq_true rfl) (B:=qhyZ x0 x1 x2 h K) (by kernel_rfl) hd
def qgIZ (x0 x1:Value)(h:Heap)(K:KTy):Prop:=ov (ncV x0) fun a=>ov (faV (some 10) a) fun b=>ov (ldV (some none) b h) fun c=>ov (iaV (some (none,8)) c x1) fun d=>ov (faV (some 0) d) fun e=>ov (ldV (some (some 1)) e h) fun f=>callM P qbIZ #[f] h fun g i=>K g i
theorem qnfZ {x0 x1:Value}{h:Heap}(hd:qgIZ x0 x1 h K):callM P qfOZ #[x0,x1] h K :=
 call_of good mixed (fn:=Tryz.f70) (args:=[x0,x1]) Tryz.func70 rfl (by kernel_rfl) (of_decide_eq_true rfl) (B:=qgIZ x0 x1 h K) (by kernel_rfl) hd
def qhzZ (a:Env)(b:Value)(c:Post)(m:List Nat)(d e f g h i:Value)(j:Heap):Prop:=ov (binV BinOp.add 2 false (a 3) b) fun k=>ov (binV BinOp.add 2 true (a 11) (Value.int IntKind.i64 1)) fun l=>c .normal m (puts a [(12,d),(13,e),(14,f),(5,g),(15,(a 3)),(16,h),(17,i),(18,b),(19,k),(3,k),(20,l),(11,l)]) j
def qhAZ (a:Env)(b:Heap)(c:Post)(m:List Nat)(d:Value):Prop:=ov (iaV (some (none,8)) (a 9) (a 11)) fun e=>ov (ldV (some (some 8)) e b) fun f=>nwM (zc P qWZ) qWZ b fun g h=>stM (some 8) g f h fun i=>ov (faV (some 5) g) fun j=>ov (ldV (some (some 2)) j i) fun k=>callM P qbOZ #[k] i fun l n=>qhzZ a l c m d e f g j k n
def qhBZ (a:Env)(b:Heap)(c:Post)(m:List Nat):Prop:=ov (binV BinOp.lss 2 false (a 11) (a 10)) fun d=>cdM d (qhAZ a b c m d) (c (.exit 0) m (puts a [(12,d)]) b)
def qhCZ (x0:Value)(h:Heap)(a:Post):Prop:=ov (ncV x0) fun b=>ov (faV (some 10) b) fun c=>ov (ldV (some none) c h) fun d=>ov (lnV 7 d) fun e=>loopM (fun m f g i=>qhBZ f g i m) [] (puts (envOf [x0]) [(2,(Value.int IntKind.i64 0)),(3,(Value.int IntKind.i64 0)),(6,x0),(7,b),(8,c),(9,d),(10,e),(11,(Value.int IntKind.i64 0))]) h (blkM 0 a)
def qfAZ (x0:Value)(h:Heap)(K:KTy):Prop:=seqM (fun a=>qhCZ x0 h a) (fun m b c=>(retM P [.tmp 2] K) .ret m (puts b [(21,(b 3)),(2,(b 3))]) c) (retM P [.tmp 2] K)
theorem qmmZ {x0:Value}{h:Heap}(hd:qfAZ x0 h K):callM P qeSZ #[x0] h K :=
 call_of good mixed (fn:=Tryz.f81) (args:=[x0]) Tryz.func81 rfl (by kernel_rfl) (of_decide_eq_true rfl) (B:=qfAZ x0 h K) (by kernel_rfl) hd
def qaWZ (x0:Value)(h:Heap)(K:KTy):Prop:=nwM (some x0.cells) qaZ h fun a b=>ov ((some (.func (Fn.func qyZ) #[] #[a]):Option Value)) fun c=>K c b
theorem qgJZ {x0:Value}{h:Heap}(hd:qaWZ x0 h K):callM P quZ #[x0] h K :=
 call_of good mixed (fn:=Tryz.f93) (args:=[x0]) Tryz.func93 rfl (by kernel_rfl) (of_decide_eq_true rfl) (B:=qaWZ x0 h K) (by kernel_rfl) hd
def qiXZ (a x0:Value)(b:Heap)(c:Value)(K:KTy):Prop:=ov (exV a 0) fun d=>ov (exV a 1) fun e=>ov (ncV x0) fun f=>ov (faV (some 7) f) fun g=>stM (some 3) g d b fun h=>ov (ncV x0) fun i=>ov (faV (some 7) i) fun j=>ov (ldV (some (some 3)) j h) fun k=>stM (some 3) c k h fun l=>ov (ldV (some (some 3)) c l) fun m=>K m l
def qiYZ (x0:Value)(a:Heap)(b:Value)(K:KTy):Prop:=ov (ncV x0) fun c=>ov (faV (some 7) c) fun d=>ov (ldV (some (some 3)) d a) fun e=>callM P qjJZ #[e] a fun f g=>qiXZ f x0 g b K
def qgKZ (x0 x1:Value)(h:Heap)(K:KTy):Prop:=nwM (zc P qarZ) qarZ h fun a b=>callM P qsZ #[x0,x1,(Value.int IntKind.i64 4),(Value.int IntKind.i64 0)] b fun c d=>qiYZ x0 d a K
theorem qngZ {x0 x1:Value}{h:Heap}(hd:qgKZ x0 x1 h K):callM P qfPZ #[x0,x1] h K :=
 call_of good mixed (fn:=Tryz.f102) (args:=[x0,x1]) Tryz.func102 rfl (by kernel_rfl) (of_decide_eq_true rfl) (B:=qgKZ x0 x1 h K) (by kernel_rfl) hd
def qiiZ (a:Value)(b:Heap)(c:Post)(x0 x1 x2 x3 d e f g h i j:Value):Prop:=ov (exV a 0) fun k=>ov (exV a 1) fun l=>nwM (zc P qaZ) qaZ b fun m n=>stM (some 2) m k n fun o=>c .normal [] (puts (envOf [x0,x1,x2,x3]) [(7,d),(11,x0),(12,x1),(13,x2),(14,e),(8,e),(16,e),(17,f),(18,g),(19,h),(20,i),(21,j),(22,a),(15,a),(23,k),(24,l),(9,m),(10,l)]) o
def qijZ (a b:Value)(c:Heap)(d:Post)(x0 x1 x2 x3 e f g h i:Value):Prop:=callM P qaVZ #[a,b] c fun j k=>qiiZ j k d x0 x1 x2 x3 e f g h a i b
def qikZ (a:Heap)(b c d e:Value)(f:Post)(x0 x1 x2 x3 g h i:Value):Prop:=nwM (zc P qaZ) qaZ a fun j k=>ldV (some (some 2)) b k=some c∧ldV (some none) d k=some e∧callM P qaVZ #[c,e] k fun l m=>ov (exV l 0) fun n=>ov (exV l 1) fun o=>stM (some 2) j n m fun p=>f .normal [] (puts (envOf [x0,x1,x2,x3]) [(7,g),(11,x0),(12,x1),(13,x2),(14,h),(8,h),(16,h),(17,i),(18,b),(19,c),(20,d),(21,e),(9,j),(22,l),(15,l),(23,n),(24,o),(10,o)]) p
def qilZ (a:Value)(b:Heap)(c:Value)(d:Post)(x0 x1 x2 x3:Value):Prop:=ov (ncV a) fun e=>ov (faV (some 5) e) fun f=>ov (ldV (some (some 2)) f b) fun g=>ov (faV (some 0) c) fun h=>ov (ldV (some none) h b) fun i=>(qijZ g i b d x0 x1 x2 x3 c a e f h)∧(qikZ b f g h i d x0 x1 x2 x3 c a e)
def qimZ (K:KTy)(m:List Nat)(a:Env)(b c d e f g h i j:Value)(k:Heap):Prop:=(retM P [] K) .normal m (puts a [(25,(a 8)),(26,b),(27,c),(28,d),(29,(a 8)),(30,e),(31,f),(32,g),(33,(a 10)),(34,h),(35,i),(36,j)]) k
def qeZZ (a:Env)(b:Heap)(K:KTy)(m:List Nat):Prop:=ov (ldV (some (some 2)) (a 9) b) fun c=>ov (ncV (a 8)) fun d=>ov (faV (some 5) d) fun e=>stM (some 2) e c b fun f=>ov (ncV (a 8)) fun g=>ov (faV (some 7) g) fun h=>ov (ldV (some none) h f) fun i=>ov (faV (some 1) (a 7)) fun j=>ov (ldV (some none) j f) fun k=>callM P qcVZ #[i,(a 10),k] f fun l n=>qimZ K m a c d e g h i j k l n
def qinZ (a:Value)(b:Heap)(c x0 x1 x2 x3:Value)(K:KTy):Prop:=seqM (fun d=>qilZ a b c d x0 x1 x2 x3) (fun m e f=>qeZZ e f K m) (retM P [] K)
def qfUZ (x0 x1 x2 x3:Value)(h:Heap)(K:KTy):Prop:=nwM (some x3.cells) qarZ h fun a b=>callM P qdyZ #[x0,x1,x2] b fun c d=>qinZ c d a x0 x1 x2 x3 K
theorem qmOZ {x0 x1 x2 x3:Value}{h:Heap}(hd:qfUZ x0 x1 x2 x3 h K):callM P qfoZ #[x0,x1,x2,x3] h K :=
 call_of good mixed (fn:=Tryz.f103) (args:=[x0,x1,x2,x3]) Tryz.func103 rfl (by kernel_rfl) (of_decide_eq_true rfl) (B:=qfUZ x0 x1 x2 x3 h K) (by kernel_rfl) hd
def qhbZ (x0:Value)(a:Heap)(x2:Value)(K:KTy):Prop:=ov (ncV x0) fun b=>ov (faV (some 10) b) fun c=>ov (ldV (some none) c a) fun d=>ov (ncV x0) fun e=>ov (faV (some 10) e) fun f=>ov (ldV (some none) f a) fun g=>ov (iaV (some (none,8)) g x2) fun h=>ov (faV (some 5) h) fun i=>ov (ldV (some (some 2)) i a) fun j=>ov (iaV (some (none,8)) d x2) fun k=>ov (faV (some 3) k) fun l=>stM (some 2) l j a fun m=>K (.tuple #[]) m
def qhcZ (x0 x1 a:Value)(b:Heap)(x2:Value)(K:KTy):Prop:=callM P qsZ #[x0,x1,(Value.int IntKind.i64 4),a] b fun c d=>qhbZ x0 d x2 K
def qhdZ (x2:Value)(a:Heap)(x0 x1:Value)(K:KTy):Prop:=callM P qTZ #[x2,(Value.int IntKind.i64 3)] a fun b c=>qhcZ x0 x1 b c x2 K
def qheZ (x0 x1 a:Value)(b:Heap)(x2:Value)(K:KTy):Prop:=callM P qsZ #[x0,x1,(Value.int IntKind.i64 1),a] b fun c d=>qhdZ x2 d x0 x1 K
def qfaZ (x0 x1 x2:Value)(h:Heap)(K:KTy):Prop:=callM P qTZ #[x2,(Value.int IntKind.i64 4)] h fun a b=>qheZ x0 x1 a b x2 K
theorem qlWZ {x0 x1 x2:Value}{h:Heap}(hd:qfaZ x0 x1 x2 h K):callM P qesZ #[x0,x1,x2] h K :=
 call_of good mixed (fn:=Tryz.f104) (args:=[x0,x1,x2]) Tryz.func104 rfl (by kernel_rfl) (of_decide_eq_true rfl) (B:=qfaZ x0 x1 x2 h K) (by kernel_rfl) hd
def qioZ (a:Value)(b:Heap)(c:Post)(x0 x1 x2 x3 x4 d e f g h i j k l m n o p q r:Value):Prop:=ov (exV a 0) fun s=>ov (exV a 1) fun t=>ov (exV a 2) fun u=>nwM (zc P qaZ) qaZ b fun v w=>stM (some 2) v s w fun x=>c .normal [] (puts (envOf [x0,x1,x2,x3,x4]) [(8,d),(9,e),(10,(Value.int IntKind.i64 0)),(15,x0),(16,x1),(17,x2),(18,f),(11,f),(19,g),(20,h),(22,f),(23,i),(24,j),(25,k),(26,l),(27,m),(28,n),(29,x0),(30,o),(31,p),(32,q),(33,r),(34,a),(21,a),(35,s),(36,t),(37,u),(12,v),(13,t),(14,u)]) x
def qipZ (a b c d:Value)(e:Heap)(f:Post)(x0 x1 x2 x3 x4 g h i j k l m n o p q:Value):Prop:=callM P qgBZ #[a,b,c,d] e fun r s=>qioZ r s f x0 x1 x2 x3 x4 g h i j k l m a b n c o p q d
def qiqZ (a:Heap)(b c d e f g h i:Value)(j:Post)(x0 x1 x2 x3 x4 k l m n o p q:Value):Prop:=nwM (zc P qaZ) qaZ a fun r s=>ldV (some (some 2)) b s=some c∧ldV (some (some 7)) d s=some e∧ldV (some none) f s=some g∧ldV (some none) h s=some i∧callM P qgBZ #[c,e,g,i] s fun t u=>ov (exV t 0) fun v=>ov (exV t 1) fun w=>ov (exV t 2) fun x=>stM (some 2) r v u fun y=>j .normal [] (puts (envOf [x0,x1,x2,x3,x4]) [(8,d),(9,k),(10,(Value.int IntKind.i64 0)),(15,x0),(16,x1),(17,x2),(18,l),(11,l),(19,m),(20,n),(22,l),(23,o),(24,b),(25,c),(26,e),(27,f),(28,g),(29,x0),(30,p),(31,q),(32,h),(33,i),(12,r),(34,t),(21,t),(35,v),(36,w),(37,x),(13,w),(14,x)]) y
def qirZ (a:Value)(b:Heap)(c d x0:Value)(e:Post)(x1 x2 x3 x4 f g:Value):Prop:=ov (ncV a) fun h=>ov (faV (some 5) h) fun i=>ov (ldV (some (some 2)) i b) fun j=>ov (ldV (some (some 7)) c b) fun k=>ov (faV (some 0) d) fun l=>ov (ldV (some none) l b) fun m=>ov (ncV x0) fun n=>ov (faV (some 0) n) fun o=>ov (faV (some 1) o) fun p=>ov (ldV (some none) p b) fun q=>(qipZ j k m q b e x0 x1 x2 x3 x4 c d a f g h i l n o p)∧(qiqZ b i j c k l m p q e x0 x1 x2 x3 x4 d a f g h n o)
def qisZ (K:KTy)(m:List Nat)(a:Env)(b c d e f g h i j:Value)(k:Heap):Prop:=(retM P [.tmp 10] K) .ret m (puts a [(38,(a 11)),(39,b),(40,c),(41,d),(42,(a 11)),(43,e),(44,f),(45,g),(46,(a 13)),(47,h),(48,i),(49,j),(50,(a 14)),(10,(a 14))]) k
def qfbZ (a:Env)(b:Heap)(K:KTy)(m:List Nat):Prop:=ov (ldV (some (some 2)) (a 12) b) fun c=>ov (ncV (a 11)) fun d=>ov (faV (some 5) d) fun e=>stM (some 2) e c b fun f=>ov (ncV (a 11)) fun g=>ov (faV (some 7) g) fun h=>ov (ldV (some none) h f) fun i=>ov (faV (some 1) (a 9)) fun j=>ov (ldV (some none) j f) fun k=>callM P qcVZ #[i,(a 13),k] f fun l n=>qisZ K m a c d e g h i j k l n
def qitZ (a:Value)(b:Heap)(c d x0 x1 x2 x3 x4 e f:Value)(K:KTy):Prop:=seqM (fun g=>qirZ a b c d x0 g x1 x2 x3 x4 e f) (fun m h i=>qfbZ h i K m) (retM P [.tmp 10] K)
def qiuZ (a:Value)(b:Heap)(K:KTy)(c d x0 x1 x2 x3 x4:Value):Prop:=ov (faV (some 2) a) fun e=>ov (ldV (some none) e b) fun f=>cdM f (K (Value.int IntKind.i64 5) b) (qitZ c b d a x0 x1 x2 x3 x4 e f K)
def qfVZ (x0 x1 x2 x3 x4:Value)(h:Heap)(K:KTy):Prop:=nwM (some x3.cells) qaCZ h fun a b=>nwM (some x4.cells) qarZ b fun c d=>callM P qdyZ #[x0,x1,x2] d fun e f=>qiuZ c f K e a x0 x1 x2 x3 x4
theorem qmPZ {x0 x1 x2 x3 x4:Value}{h:Heap}(hd:qfVZ x0 x1 x2 x3 x4 h K):callM P qfpZ #[x0,x1,x2,x3,x4] h K :=
 call_of good mixed (fn:=Tryz.f106) (args:=[x0,x1,x2,x3,x4]) Tryz.func106 rfl (by kernel_rfl) (of_decide_eq_true rfl) (B:=qfVZ x0 x1 x2 x3 x4 h K) (by kernel_rfl) hd
end Go.Proofs.YtcnphhhcknhhaaaGreat
namespace Go.Proofs.YtcnphhhcknhhaaaGreat
open Go Go.Den
set_option maxRecDepth 100000
set_option linter.unusedVariables false
def qkbZ (a b:Value)(c:Heap)(K:KTy):Prop:=gM (isB a true) (fun d=>ov (faV (some 1) b) fun e=>d e c) c fun f g=>gM (isB a true) (fun h=>ov (ldV (some none) f g) fun i=>h i g) g fun j k=>gM (isB a true) (fun l=>callM P qacZ #[j,(Value.int IntKind.i64 1),(Value.int IntKind.i64 8)] k fun m n=>l m n) k fun o p=>ov (pkV a o (Value.bool false)) fun q=>gM (isB q true) (fun r=>ov (faV (some 2) b) fun s=>r s p) p fun t u=>gM (isB q true) (fun v=>ov (ldV (some none) t u) fun w=>v w u) u fun x y=>gM (isB q true) (fun z=>callM P qacZ #[x,(Value.int IntKind.i64 1),(Value.int IntKind.i64 16)] y fun aa ab=>z aa ab) y fun ac ad=>ov (pkV q ac (Value.bool false)) fun ae=>gM (isB ae true) (fun af=>ov (faV (some 3) b) fun ag=>af ag ad) ad fun ah ai=>gM (isB ae true) (fun aj=>ov (ldV (some none) ah ai) fun ak=>aj ak ai) ai fun al am=>gM (isB ae true) (fun an=>callM P qacZ #[al,(Value.int IntKind.i64 1),(Value.int IntKind.i64 8)] am fun ao ap=>an ao ap) am fun aq ar=>ov (pkV ae aq (Value.bool false)) fun au=>gM (isB au true) (fun av=>ov (faV (some 4) b) fun aw=>av aw ar) ar fun ax ay=>gM (isB au true) (fun az=>ov (ldV (some none) ax ay) fun ba=>az ba ay) ay fun bb bc=>gM (isB au true) (fun bd=>callM P qacZ #[bb,(Value.int IntKind.i64 0),(Value.int IntKind.i64 4)] bc fun be bf=>bd be bf) bc fun bg bh=>ov (pkV au bg (Value.bool false)) fun bi=>K bi bh
def qjuZ (x0:Value)(h:Heap)(K:KTy):Prop:=nwM (some x0.cells) qcUZ h fun a b=>ov (faV (some 0) a) fun c=>ov (ldV (some none) c b) fun d=>callM P qacZ #[d,(Value.int IntKind.i64 1),(Value.int IntKind.i64 8)] b fun e f=>qkbZ e a f K
variable {K:KTy}
theorem qnzZ {x0:Value}{h:Heap}(hd:qjuZ x0 h K):callM P qiHZ #[x0] h K :=
 call_of good mixed (fn:=Tryz.f143) (args:=[x0]) Tryz.func143 rfl (by kernel_rfl) (of_decide_eq_true rfl) (B:=qjuZ x0 h K) (by kernel_rfl) hd
def qluZ (x0:Value)(h:Heap)(K:KTy):Prop:=nwM (zc P qvZ) qvZ h fun a b=>ov (binV BinOp.andNot 2 true x0 (Value.int IntKind.u64 1)) fun c=>ov (bdV (binf P qvZ) [(1,c)]) fun d=>stM (some 2) a d b fun e=>ov (ldV (some (some 2)) a e) fun f=>K f e
theorem qnYZ {x0:Value}{h:Heap}(hd:qluZ x0 h K):callM P qkuZ #[x0] h K :=
 call_of good mixed (fn:=Tryz.f144) (args:=[x0]) Tryz.func144 rfl (by kernel_rfl) (of_decide_eq_true rfl) (B:=qluZ x0 h K) (by kernel_rfl) hd
def qmnZ (a:Value)(b:Env)(c:Value)(d:Heap)(e:Post)(m:List Nat)(f g:Value):Prop:=ov (iaV (some (some 8,1)) a (b 7)) fun h=>stM (some 1) h c d fun i=>ov (binV BinOp.add 2 true (b 7) (Value.int IntKind.i64 1)) fun j=>e .normal m (puts b [(8,f),(9,(b 7)),(4,(b 7)),(10,(b 3)),(11,(b 7)),(12,(b 0)),(14,g),(15,a),(13,c),(16,h),(17,j),(7,j)]) i
def qmoZ (a:Env)(b:Heap)(c:Post)(m:List Nat)(d:Value):Prop:=ov (ncV (a 3)) fun e=>ov (faV (some 2) e) fun f=>callM P qdLZ #[(a 0)] b fun g h=>qmnZ f a g h c m d e
def qmpZ (a:Env)(b:Heap)(c:Post)(m:List Nat):Prop:=ov (binV BinOp.lss 2 true (a 7) (Value.int IntKind.i64 8)) fun d=>cdM d (qmoZ a b c m d) (c (.exit 0) m (puts a [(8,d)]) b)
def qmqZ (x0 a b:Value)(c:Heap)(d:Post):Prop:=loopM (fun m e f g=>qmpZ e f g m) [] (puts (envOf [x0]) [(2,(Value.pointer none)),(5,a),(6,b),(3,b),(7,(Value.int IntKind.i64 0))]) c (blkM 0 d)
def qlvZ (x0:Value)(h:Heap)(K:KTy):Prop:=ov (bdV (binf P qdeZ) []) fun a=>nwM (some a.cells) qdeZ h fun b c=>seqM (fun d=>qmqZ x0 a b c d) (fun m e f=>(retM P [.tmp 2] K) .ret m (puts e [(18,(e 3)),(2,(e 3))]) f) (retM P [.tmp 2] K)
theorem qnZZ {x0:Value}{h:Heap}(hd:qlvZ x0 h K):callM P qkvZ #[x0] h K :=
 call_of good mixed (fn:=Tryz.f145) (args:=[x0]) Tryz.func145 rfl (by kernel_rfl) (of_decide_eq_true rfl) (B:=qlvZ x0 h K) (by kernel_rfl) hd
def qhDZ (x0 x1 x2 x3:Value)(h:Heap)(K:KTy):Prop:=ov (ncV x0) fun a=>ov (faV (some 11) a) fun b=>ov (ldV (some none) b h) fun c=>ov (bdV (binf P qfLZ) [(0,x1),(1,x2),(2,x3)]) fun d=>bsM (bsI P qdwZ) 1 [(0,d)] h fun e f=>vvM P (Builtin.append_ #[qdwZ,qdwZ] qdwZ #[c,e]) f fun g i=>ov (ncV x0) fun j=>ov (faV (some 11) j) fun k=>stM (some 1) k g i fun l=>K (.tuple #[]) l
theorem qnnZ {x0 x1 x2 x3:Value}{h:Heap}(hd:qhDZ x0 x1 x2 x3 h K):callM P qsZ #[x0,x1,x2,x3] h K :=
 call_of good mixed (fn:=Tryz.f153) (args:=[x0,x1,x2,x3]) Tryz.func153 rfl (by kernel_rfl) (of_decide_eq_true rfl) (B:=qhDZ x0 x1 x2 x3 h K) (by kernel_rfl) hd
def qjLZ (x0 x1:Value)(h:Heap)(K:KTy):Prop:=ov (binV BinOp.mul 2 true (Value.int IntKind.i64 4) x0) fun a=>ov (binV BinOp.add 2 false a x1) fun b=>K b h
theorem qnHZ {x0 x1:Value}{h:Heap}(hd:qjLZ x0 x1 h K):callM P qTZ #[x0,x1] h K :=
 call_of good mixed (fn:=Tryz.f154) (args:=[x0,x1]) Tryz.func154 rfl (by kernel_rfl) (of_decide_eq_true rfl) (B:=qjLZ x0 x1 h K) (by kernel_rfl) hd
end Go.Proofs.YtcnphhhcknhhaaaGreat
namespace Go.Proofs.YtcnphhhcknhhaaaGreat
open Go Go.Den
set_option maxRecDepth 100000
set_option linter.unusedVariables false
def qgxZ (a b:Value)(c:Heap)(x1:Value)(K:KTy):Prop:=gM (isB a true) (fun d=>d b c) c fun e f=>gM (isB a true) (fun g=>g x1 f) f fun h i=>gM (isB a true) (fun j=>ov (binV BinOp.shr 2 false e h) fun k=>j k i) i fun l m=>gM (isB a true) (fun n=>ov (binV BinOp.and 2 true l (Value.int IntKind.u32 1)) fun o=>n o m) m fun p q=>gM (isB a true) (fun r=>ov (binV BinOp.eql 2 true p (Value.int IntKind.u32 1)) fun s=>r s q) q fun t u=>ov (pkV a t (Value.bool false)) fun v=>K v u
def qgyZ (a x1:Value)(b:Heap)(K:KTy):Prop:=ov (exV a 0) fun c=>ov (exV a 1) fun d=>callM P qiJZ #[x1] b fun e f=>qgxZ e c f x1 K
def qeCZ (x0 x1 x2:Value)(h:Heap)(K:KTy):Prop:=ov (ncV x0) fun a=>ov (faV (some 0) a) fun b=>ov (ldV (some (some 2)) b h) fun c=>callM P qbDZ #[c,x2] h fun d e=>qgyZ d x1 e K
variable {K:KTy}
theorem qlwZ {x0 x1 x2:Value}{h:Heap}(hd:qeCZ x0 x1 x2 h K):callM P qdJZ #[x0,x1,x2] h K :=
 call_of good mixed (fn:=Tryz.f156) (args:=[x0,x1,x2]) Tryz.func156 rfl (by kernel_rfl) (of_decide_eq_true rfl) (B:=qeCZ x0 x1 x2 h K) (by kernel_rfl) hd
def qkcZ (x0:Value)(h:Heap)(x1:Value)(K:KTy):Prop:=callM P qlnZ #[x0] h fun a b=>ov (cvV (some .u64) x1) fun c=>ov (binV BinOp.rem 2 false a c) fun d=>ov (cvV (some .i64) d) fun e=>K e b
def qjvZ (x0 x1:Value)(h:Heap)(K:KTy):Prop:=ov (binV BinOp.lss 2 true x1 (Value.int IntKind.i64 1)) fun a=>cdM a (K (Value.int IntKind.i64 0) h) (qkcZ x0 h x1 K)
theorem qnAZ {x0 x1:Value}{h:Heap}(hd:qjvZ x0 x1 h K):callM P qiIZ #[x0,x1] h K :=
 call_of good mixed (fn:=Tryz.f157) (args:=[x0,x1]) Tryz.func157 rfl (by kernel_rfl) (of_decide_eq_true rfl) (B:=qjvZ x0 x1 h K) (by kernel_rfl) hd
def qjMZ (x0:Value)(h:Heap)(K:KTy):Prop:=ov (binV BinOp.neq 3 true x0 (Value.string { data:=#[] })) fun a=>gM (isB a true) (fun b=>b x0 h) h fun c d=>gM (isB a true) (fun e=>ov (lnV 3 c) fun f=>e f d) d fun g i=>gM (isB a true) (fun j=>ov (binV BinOp.leq 2 true g (Value.int IntKind.i64 16)) fun k=>j k i) i fun l m=>ov (pkV a l (Value.bool false)) fun n=>K n m
theorem qnIZ {x0:Value}{h:Heap}(hd:qjMZ x0 h K):callM P qdvZ #[x0] h K :=
 call_of good mixed (fn:=Tryz.f158) (args:=[x0]) Tryz.func158 rfl (by kernel_rfl) (of_decide_eq_true rfl) (B:=qjMZ x0 h K) (by kernel_rfl) hd
def qjNZ (x0 x1 x2:Value)(h:Heap)(K:KTy):Prop:=ov (binV BinOp.geq 2 true x0 (Value.int IntKind.i64 0)) fun a=>gM (isB a true) (fun b=>b x0 h) h fun c d=>gM (isB a true) (fun e=>ov (binV BinOp.leq 2 true c (Value.int IntKind.i64 255)) fun f=>e f d) d fun g i=>ov (pkV a g (Value.bool false)) fun j=>gM (isB j true) (fun k=>k x1 i) i fun l m=>gM (isB j true) (fun n=>ov (binV BinOp.geq 2 true l (Value.int IntKind.i64 1)) fun o=>n o m) m fun p q=>ov (pkV j p (Value.bool false)) fun r=>gM (isB r true) (fun s=>s x1 q) q fun t u=>gM (isB r true) (fun v=>ov (binV BinOp.leq 2 true t (Value.int IntKind.i64 9)) fun w=>v w u) u fun x y=>ov (pkV r x (Value.bool false)) fun z=>gM (isB z true) (fun aa=>aa x2 y) y fun ab ac=>gM (isB z true) (fun ad=>ov (binV BinOp.geq 2 true ab (Value.int IntKind.i64 0)) fun ae=>ad ae ac) ac fun af ag=>ov (pkV z af (Value.bool false)) fun ah=>gM (isB ah true) (fun ai=>ai x2 ag) ag fun aj ak=>gM (isB ah true) (fun al=>ov (binV BinOp.leq 2 true aj (Value.int IntKind.i64 9)) fun am=>al am ak) ak fun an ao=>ov (pkV ah an (Value.bool false)) fun ap=>K ap ao
theorem qnJZ {x0 x1 x2:Value}{h:Heap}(hd:qjNZ x0 x1 x2 h K):callM P qjrZ #[x0,x1,x2] h K :=
 call_of good mixed (fn:=Tryz.f159) (args:=[x0,x1,x2]) Tryz.func159 rfl (by kernel_rfl) (of_decide_eq_true rfl) (B:=qjNZ x0 x1 x2 h K) (by kernel_rfl) hd
def qiNZ (x0 x1 x2:Value)(h:Heap)(K:KTy):Prop:=ov (binV BinOp.geq 2 false x0 x1) fun a=>gM (isB a true) (fun b=>b x0 h) h fun c d=>gM (isB a true) (fun e=>e x2 d) d fun f g=>gM (isB a true) (fun i=>ov (binV BinOp.leq 2 false c f) fun j=>i j g) g fun k l=>ov (pkV a k (Value.bool false)) fun m=>K m l
theorem qnvZ {x0 x1 x2:Value}{h:Heap}(hd:qiNZ x0 x1 x2 h K):callM P qacZ #[x0,x1,x2] h K :=
 call_of good mixed (fn:=Tryz.f160) (args:=[x0,x1,x2]) Tryz.func160 rfl (by kernel_rfl) (of_decide_eq_true rfl) (B:=qiNZ x0 x1 x2 h K) (by kernel_rfl) hd
def qiOZ (x0 x1 x2 x3 x4:Value)(h:Heap)(K:KTy):Prop:=nwM (some x1.cells) qarZ h fun a b=>nwM (zc P qaMZ) qaMZ b fun c d=>ov (ldV (some none) x2 d) fun e=>ov (ldV (some none) x3 d) fun f=>ov (ldV (some (some 7)) x4 d) fun g=>ov (ldV (some (some 3)) a d) fun i=>callM P qfpZ #[x0,e,f,g,i] d fun j k=>ov (bdV (binf P qaMZ) [(0,j)]) fun l=>stM (some 4) c l k fun m=>ov (ldV (some (some 4)) c m) fun n=>K n m
theorem qnwZ {x0 x1 x2 x3 x4:Value}{h:Heap}(hd:qiOZ x0 x1 x2 x3 x4 h K):callM P qdxZ #[x0,x1,x2,x3,x4] h K :=
 call_of good mixed (fn:=Tryz.f161) (args:=[x0,x1,x2,x3,x4]) Tryz.func161 rfl (by kernel_rfl) (of_decide_eq_true rfl) (B:=qiOZ x0 x1 x2 x3 x4 h K) (by kernel_rfl) hd
def qjwZ (h:Heap)(K:KTy):Prop:=bsM (bsI P qbrZ) 7 [(0,(.func (.func qajZ) #[] #[])),(1,(.func (.func qYZ) #[] #[])),(2,(.func (.func qakZ) #[] #[])),(3,(.func (.func qZZ) #[] #[])),(4,(.func (.func qFZ) #[] #[])),(5,(.func (.func qaAZ) #[] #[])),(6,(.func (.func qQZ) #[] #[]))] h fun a b=>K a b
theorem qnBZ {h:Heap}(hd:qjwZ h K):callM P qdKZ #[] h K :=
 call_of good mixed (fn:=Tryz.f162) (args:=[]) Tryz.func162 rfl (by kernel_rfl) (of_decide_eq_true rfl) (B:=qjwZ h K) (by kernel_rfl) hd
def qfcZ (x0:Value)(h:Heap)(K:KTy):Prop:=ov (lnV 3 x0) fun a=>ov (binV BinOp.gtr 2 true a (Value.int IntKind.i64 0)) fun b=>gM (isB b true) (fun c=>c x0 h) h fun d e=>gM (isB b true) (fun f=>ov (lnV 3 d) fun g=>f g e) e fun i j=>gM (isB b true) (fun k=>ov (binV BinOp.lss 2 true i (Value.int IntKind.i64 17)) fun l=>k l j) j fun m n=>ov (pkV b m (Value.bool false)) fun o=>K o n
theorem qlXZ {x0:Value}{h:Heap}(hd:qfcZ x0 h K):callM P qasZ #[x0] h K :=
 call_of good mixed (fn:=Tryz.f163) (args:=[x0]) Tryz.func163 rfl (by kernel_rfl) (of_decide_eq_true rfl) (B:=qfcZ x0 h K) (by kernel_rfl) hd
def qduZ (x0 x1 x2:Value)(h:Heap)(K:KTy):Prop:=nwM (some x1.cells) qgZ h fun a b=>ov (ldV (some none) x2 b) fun c=>ov (faV (some 0) a) fun d=>ov (ldV (some none) d b) fun e=>ov (faV (some 1) a) fun f=>ov (ldV (some (some 3)) f b) fun g=>ov (bdV (binf P qAZ) [(0,x0),(1,e),(2,g)]) fun i=>bsM (bsI P qkZ) 1 [(0,i)] b fun j k=>vvM P (Builtin.append_ #[qkZ,qkZ] qkZ #[c,j]) k fun l m=>stM (some 1) x2 l m fun n=>K (Value.bool true) n
theorem qkaZ {x0 x1 x2:Value}{h:Heap}(hd:qduZ x0 x1 x2 h K):callM P qaiZ #[x0,x1,x2] h K :=
 call_of good mixed (fn:=Tryz.f164) (args:=[x0,x1,x2]) Tryz.func164 rfl (by kernel_rfl) (of_decide_eq_true rfl) (B:=qduZ x0 x1 x2 h K) (by kernel_rfl) hd
def qhfZ (a:Post)(m:List Nat)(b:Env)(c d e f g h i:Value)(j:Heap):Prop:=a .ret m (puts b [(11,(b 5)),(12,(b 0)),(13,c),(14,d),(17,(b 0)),(18,(b 5)),(19,e),(20,f),(21,(b 1)),(22,(b 5)),(23,g),(24,h),(25,i),(4,(Value.bool false))]) j
def qhgZ (a:Env)(b:Post)(m:List Nat)(c d e f g h i:Value)(j:Heap):Prop:=ov (binV BinOp.add 2 true (a 5) (Value.int IntKind.i64 1)) fun k=>b .normal m (puts a [(11,(a 5)),(12,(a 0)),(13,c),(14,d),(17,(a 0)),(18,(a 5)),(19,e),(20,f),(21,(a 1)),(22,(a 5)),(23,g),(24,h),(25,i),(15,(a 5)),(16,k),(5,k)]) j
def qhhZ (a:Env)(b:Heap)(c:Post)(m:List Nat)(d e:Value):Prop:=ov (iaV (some (none,4)) (a 0) (a 5)) fun f=>ov (ldV (some (some 4)) f b) fun g=>ov (iaV (some (none,4)) (a 1) (a 5)) fun h=>ov (ldV (some (some 4)) h b) fun i=>pvM P (do eqGuard BinOp.neq qbZ (Operand.tmp 20) (Operand.tmp 24) g i; binOp BinOp.neq qbZ g i) fun j=>cdM j (qhfZ c m a d e f g h i j b) (qhgZ a c m d e f g h i j b)
def qhiZ (a:Env)(b:Heap)(c:Post)(m:List Nat):Prop:=ov (lnV 7 (a 0)) fun d=>ov (binV BinOp.lss 2 false (a 5) d) fun e=>cdM e (qhhZ a b c m d e) (c (.exit 0) m (puts a [(11,(a 5)),(12,(a 0)),(13,d),(14,e)]) b)
def qhjZ (x0 x1 a b c:Value)(h:Heap)(d:Post):Prop:=loopM (fun m e f g=>qhiZ e f g m) [] (puts (envOf [x0,x1]) [(4,(Value.bool false)),(6,x0),(7,a),(8,x1),(9,b),(10,c),(5,(Value.int IntKind.i64 0))]) h (blkM 0 d)
def qhkZ (x0 x1 a b c:Value)(h:Heap)(K:KTy):Prop:=seqM (fun d=>qhjZ x0 x1 a b c h d) (fun m e f=>(retM P [.tmp 4] K) .ret m (puts e [(4,(Value.bool true))]) f) (retM P [.tmp 4] K)
def qfdZ (x0 x1:Value)(h:Heap)(K:KTy):Prop:=ov (lnV 7 x0) fun a=>ov (lnV 7 x1) fun b=>ov (binV BinOp.neq 2 false a b) fun c=>cdM c (K (Value.bool false) h) (qhkZ x0 x1 a b c h K)
theorem qlYZ {x0 x1:Value}{h:Heap}(hd:qfdZ x0 x1 h K):callM P qetZ #[x0,x1] h K :=
 call_of good mixed (fn:=Tryz.f165) (args:=[x0,x1]) Tryz.func165 rfl (by kernel_rfl) (of_decide_eq_true rfl) (B:=qfdZ x0 x1 h K) (by kernel_rfl) hd
def qfWZ (x0:Value)(h:Heap)(K:KTy):Prop:=nwM (some x0.cells) qvZ h fun a b=>ov (faV (some 0) a) fun c=>ov (ldV (some none) c b) fun d=>K d b
theorem qmQZ {x0:Value}{h:Heap}(hd:qfWZ x0 h K):callM P qfqZ #[x0] h K :=
 call_of good mixed (fn:=Tryz.f166) (args:=[x0]) Tryz.func166 rfl (by kernel_rfl) (of_decide_eq_true rfl) (B:=qfWZ x0 h K) (by kernel_rfl) hd
def qiZZ (x0:Value)(a:Heap)(b x2:Value)(c:Post)(x1 d e f g h i j k l m n:Value):Prop:=ov (ncV x0) fun o=>ov (faV (some 10) o) fun p=>ov (ldV (some none) p a) fun q=>ov (ldV (some (some 1)) b a) fun r=>ov (iaV (some (none,8)) q x2) fun s=>ov (faV (some 0) s) fun t=>stM (some 1) t r a fun u=>c .normal [] (puts (envOf [x0,x1,x2]) [(6,(Value.bool false)),(10,x0),(11,d),(12,e),(13,f),(14,x2),(15,g),(16,h),(17,i),(18,x1),(19,j),(9,j),(20,k),(21,l),(7,b),(8,l),(22,l),(23,x0),(24,x1),(25,x2),(26,m),(27,n),(28,x0),(29,o),(30,p),(31,q),(32,x2),(33,r),(34,s),(35,t)]) u
def qjaZ (x0 x1 a:Value)(b:Heap)(c x2:Value)(d:Post)(e f g h i j k l m:Value):Prop:=callM P qsZ #[x0,x1,(Value.int IntKind.i64 5),a] b fun n o=>qiZZ x0 o c x2 d x1 e f g h i j k l m a n
def qjbZ (x2:Value)(a:Heap)(x0 x1 b:Value)(c:Post)(d e f g h i j k l:Value):Prop:=callM P qTZ #[x2,(Value.int IntKind.i64 1)] a fun m n=>qjaZ x0 x1 m n b x2 c d e f g h i j k l
def qjcZ (a:Post)(x0 x1 x2 b c d e f g h i j k:Value)(l:Heap):Prop:=a .normal [] (puts (envOf [x0,x1,x2]) [(6,(Value.bool false)),(10,x0),(11,b),(12,c),(13,d),(14,x2),(15,e),(16,f),(17,g),(18,x1),(19,h),(9,h),(20,i),(21,j),(7,k),(8,j),(22,j)]) l
def qjdZ (a x2:Value)(b:Heap)(x0 x1 c:Value)(d:Post)(e f g h i j k l:Value):Prop:=cdM a (qjbZ x2 b x0 x1 c d e f g h i j k l a) (qjcZ d x0 x1 x2 e f g h i j k l a c b)
def qjeZ (a:Value)(b:Heap)(x2 x0 x1 c d e f g h:Value)(K:KTy):Prop:=ov (exV a 0) fun i=>ov (exV a 1) fun j=>nwM (zc P qiZ) qiZ b fun k l=>stM (some 1) k i l fun n=>seqM (fun o=>qjdZ j x2 n x0 x1 k o c d e f g h a i) (fun m p q=>(retM P [.tmp 6] K) .ret m (puts p [(36,(p 8)),(6,(p 8))]) q) (retM P [.tmp 6] K)
def qgLZ (x0 x1 x2:Value)(h:Heap)(K:KTy):Prop:=ov (ncV x0) fun a=>ov (faV (some 10) a) fun b=>ov (ldV (some none) b h) fun c=>ov (iaV (some (none,8)) c x2) fun d=>ov (faV (some 0) d) fun e=>ov (ldV (some (some 1)) e h) fun f=>callM P qeUZ #[f,x1] h fun g i=>qjeZ g i x2 x0 x1 a b c d e f K
theorem qnhZ {x0 x1 x2:Value}{h:Heap}(hd:qgLZ x0 x1 x2 h K):callM P qfQZ #[x0,x1,x2] h K :=
 call_of good mixed (fn:=Tryz.f170) (args:=[x0,x1,x2]) Tryz.func170 rfl (by kernel_rfl) (of_decide_eq_true rfl) (B:=qgLZ x0 x1 x2 h K) (by kernel_rfl) hd
def qhEZ (x0:Value)(a:Heap)(b x2:Value)(c:Post)(x1 d e f g h i j k l m n:Value):Prop:=ov (ncV x0) fun o=>ov (faV (some 10) o) fun p=>ov (ldV (some none) p a) fun q=>ov (ldV (some (some 1)) b a) fun r=>ov (iaV (some (none,8)) q x2) fun s=>ov (faV (some 0) s) fun t=>stM (some 1) t r a fun u=>c .normal [] (puts (envOf [x0,x1,x2]) [(6,(Value.bool false)),(10,x0),(11,d),(12,e),(13,f),(14,x2),(15,g),(16,h),(17,i),(18,x1),(19,j),(9,j),(20,k),(21,l),(7,b),(8,l),(22,l),(23,x0),(24,x1),(25,x2),(26,m),(27,n),(28,x0),(29,o),(30,p),(31,q),(32,x2),(33,r),(34,s),(35,t)]) u
def qhFZ (x0 x1 a:Value)(b:Heap)(c x2:Value)(d:Post)(e f g h i j k l m:Value):Prop:=callM P qsZ #[x0,x1,(Value.int IntKind.i64 6),a] b fun n o=>qhEZ x0 o c x2 d x1 e f g h i j k l m a n
def qhGZ (x2:Value)(a:Heap)(x0 x1 b:Value)(c:Post)(d e f g h i j k l:Value):Prop:=callM P qTZ #[x2,(Value.int IntKind.i64 1)] a fun m n=>qhFZ x0 x1 m n b x2 c d e f g h i j k l
def qhHZ (a:Post)(x0 x1 x2 b c d e f g h i j k:Value)(l:Heap):Prop:=a .normal [] (puts (envOf [x0,x1,x2]) [(6,(Value.bool false)),(10,x0),(11,b),(12,c),(13,d),(14,x2),(15,e),(16,f),(17,g),(18,x1),(19,h),(9,h),(20,i),(21,j),(7,k),(8,j),(22,j)]) l
def qhIZ (a x2:Value)(b:Heap)(x0 x1 c:Value)(d:Post)(e f g h i j k l:Value):Prop:=cdM a (qhGZ x2 b x0 x1 c d e f g h i j k l a) (qhHZ d x0 x1 x2 e f g h i j k l a c b)
def qhJZ (a:Value)(b:Heap)(x2 x0 x1 c d e f g h:Value)(K:KTy):Prop:=ov (exV a 0) fun i=>ov (exV a 1) fun j=>nwM (zc P qiZ) qiZ b fun k l=>stM (some 1) k i l fun n=>seqM (fun o=>qhIZ j x2 n x0 x1 k o c d e f g h a i) (fun m p q=>(retM P [.tmp 6] K) .ret m (puts p [(36,(p 8)),(6,(p 8))]) q) (retM P [.tmp 6] K)
def qfBZ (x0 x1 x2:Value)(h:Heap)(K:KTy):Prop:=ov (ncV x0) fun a=>ov (faV (some 10) a) fun b=>ov (ldV (some none) b h) fun c=>ov (iaV (some (none,8)) c x2) fun d=>ov (faV (some 0) d) fun e=>ov (ldV (some (some 1)) e h) fun f=>callM P qeVZ #[f,x1] h fun g i=>qhJZ g i x2 x0 x1 a b c d e f K
theorem qmrZ {x0 x1 x2:Value}{h:Heap}(hd:qfBZ x0 x1 x2 h K):callM P qeTZ #[x0,x1,x2] h K :=
 call_of good mixed (fn:=Tryz.f172) (args:=[x0,x1,x2]) Tryz.func172 rfl (by kernel_rfl) (of_decide_eq_true rfl) (B:=qfBZ x0 x1 x2 h K) (by kernel_rfl) hd
def qivZ (a:Value)(b:Heap)(c x2 d:Value)(K:KTy):Prop:=ldV (some none) a b=some c∧ov (iaV (some (none,8)) c x2) fun e=>ov (faV (some 1) e) fun f=>stM (some 2) f d b fun g=>K (.tuple #[]) g
def qiwZ (x0:Value)(a:Heap)(x2:Value)(K:KTy):Prop:=ov (ncV x0) fun b=>ov (faV (some 10) b) fun c=>ov (ldV (some none) c a) fun d=>ov (ncV x0) fun e=>ov (faV (some 10) e) fun f=>ov (ldV (some none) f a) fun g=>ov (iaV (some (none,8)) g x2) fun h=>ov (faV (some 1) h) fun i=>ov (ldV (some (some 2)) i a) fun j=>callM P qfsZ #[j] a fun k l=>qivZ c l d x2 k K
def qixZ (x0 x1 a:Value)(b:Heap)(x2:Value)(K:KTy):Prop:=callM P qsZ #[x0,x1,(Value.int IntKind.i64 4),a] b fun c d=>qiwZ x0 d x2 K
def qfXZ (x0 x1 x2:Value)(h:Heap)(K:KTy):Prop:=callM P qTZ #[x2,(Value.int IntKind.i64 2)] h fun a b=>qixZ x0 x1 a b x2 K
theorem qmRZ {x0 x1 x2:Value}{h:Heap}(hd:qfXZ x0 x1 x2 h K):callM P qfrZ #[x0,x1,x2] h K :=
 call_of good mixed (fn:=Tryz.f174) (args:=[x0,x1,x2]) Tryz.func174 rfl (by kernel_rfl) (of_decide_eq_true rfl) (B:=qfXZ x0 x1 x2 h K) (by kernel_rfl) hd
def qjBZ (a:Value)(b:Heap)(c x2 d:Value)(K:KTy):Prop:=ldV (some none) a b=some c∧ov (iaV (some (none,8)) c x2) fun e=>ov (faV (some 1) e) fun f=>stM (some 2) f d b fun g=>K (.tuple #[]) g
def qjCZ (x0:Value)(a:Heap)(x2:Value)(K:KTy):Prop:=ov (ncV x0) fun b=>ov (faV (some 10) b) fun c=>ov (ldV (some none) c a) fun d=>ov (ncV x0) fun e=>ov (faV (some 10) e) fun f=>ov (ldV (some none) f a) fun g=>ov (iaV (some (none,8)) g x2) fun h=>ov (faV (some 1) h) fun i=>ov (ldV (some (some 2)) i a) fun j=>callM P qgFZ #[j] a fun k l=>qjBZ c l d x2 k K
def qjDZ (x0 x1 a:Value)(b:Heap)(x2:Value)(K:KTy):Prop:=callM P qsZ #[x0,x1,(Value.int IntKind.i64 4),a] b fun c d=>qjCZ x0 d x2 K
def qhKZ (x0 x1 x2:Value)(h:Heap)(K:KTy):Prop:=callM P qTZ #[x2,(Value.int IntKind.i64 2)] h fun a b=>qjDZ x0 x1 a b x2 K
theorem qnoZ {x0 x1 x2:Value}{h:Heap}(hd:qhKZ x0 x1 x2 h K):callM P qgEZ #[x0,x1,x2] h K :=
 call_of good mixed (fn:=Tryz.f176) (args:=[x0,x1,x2]) Tryz.func176 rfl (by kernel_rfl) (of_decide_eq_true rfl) (B:=qhKZ x0 x1 x2 h K) (by kernel_rfl) hd
def qfCZ (x0:Value)(h:Heap)(K:KTy):Prop:=nwM (some x0.cells) qiZ h fun a b=>ov (faV (some 0) a) fun c=>ov (ldV (some none) c b) fun d=>ov (binV BinOp.eql 2 true d (Value.int IntKind.i64 0)) fun e=>K e b
theorem qmsZ {x0:Value}{h:Heap}(hd:qfCZ x0 h K):callM P qbIZ #[x0] h K :=
 call_of good mixed (fn:=Tryz.f185) (args:=[x0]) Tryz.func185 rfl (by kernel_rfl) (of_decide_eq_true rfl) (B:=qfCZ x0 h K) (by kernel_rfl) hd
def qfeZ (x0:Value)(h:Heap)(K:KTy):Prop:=nwM (some x0.cells) qvZ h fun a b=>ov (faV (some 0) a) fun c=>ov (ldV (some none) c b) fun d=>ov (binV BinOp.and 2 true d (Value.int IntKind.u64 1)) fun e=>ov (binV BinOp.eql 2 true e (Value.int IntKind.u64 1)) fun f=>K f b
theorem qlZZ {x0:Value}{h:Heap}(hd:qfeZ x0 h K):callM P qdbZ #[x0] h K :=
 call_of good mixed (fn:=Tryz.f186) (args:=[x0]) Tryz.func186 rfl (by kernel_rfl) (of_decide_eq_true rfl) (B:=qfeZ x0 h K) (by kernel_rfl) hd
def qkdZ (a x0 b c d:Value)(e:Heap)(f:Post):Prop:=rfM P gd a #[8,9] (rfA P qbOZ 0) (rfB P qbOZ 0) [] (puts (envOf [x0]) [(1,b),(2,(Value.int IntKind.i64 0)),(3,c),(6,d),(7,a)]) e (blkM 0 f)
def qkeZ (a:Value)(b:Heap)(x0 c:Value)(d:Post):Prop:=ov (ldV (some (some 2)) a b) fun e=>callM P quZ #[e] b fun f g=>qkdZ f x0 a c e g d
def qjxZ (x0:Value)(h:Heap)(K:KTy):Prop:=nwM (some x0.cells) qaZ h fun a b=>nwM (zc P qmZ) qmZ b fun c d=>stM (some 1) c (Value.int IntKind.i64 0) d fun e=>seqM (fun f=>qkeZ a e x0 c f) (fun m g i=>ov (ldV (some none) (g 3) i) fun j=>(retM P [.tmp 2] K) .ret m (puts g [(15,j),(2,j)]) i) (retM P [.tmp 2] K)
theorem qnCZ {x0:Value}{h:Heap}(hd:qjxZ x0 h K):callM P qbOZ #[x0] h K :=
 call_of good mixed (fn:=Tryz.f189) (args:=[x0]) Tryz.func189 rfl (by kernel_rfl) (of_decide_eq_true rfl) (B:=qjxZ x0 h K) (by kernel_rfl) hd
def qjOZ (m:List Nat)(s:Env)(h:Heap)(Q:Post):Prop:=nwM (zc P qgZ) qgZ h fun a b=>stM (some 4) a (s 9) b fun c=>Q .normal m (puts s [(5,a)]) c
theorem qniZ {m:List Nat}{s:Env}{h:Heap}{Q:Post}:den P gd (rfA P qbOZ 0) m s h Q=qjOZ m s h Q:=by kernel_rfl
def qjPZ (m:List Nat)(s:Env)(h:Heap)(Q:Post):Prop:=ov (ldV (some none) (s 3) h) fun a=>ov (faV (some 0) (s 5)) fun b=>ov (ldV (some none) b h) fun c=>ov (lnV 7 c) fun d=>ov (binV BinOp.add 2 false a d) fun e=>stM (some 1) (s 3) e h fun f=>Q .normal m (puts s [(10,a),(11,b),(12,c),(13,d),(14,e)]) f
theorem qnjZ {m:List Nat}{s:Env}{h:Heap}{Q:Post}:den P gd (rfB P qbOZ 0) m s h Q=qjPZ m s h Q:=by kernel_rfl
def qbRZ (a:Post)(m:List Nat)(b:Env)(c d e f g h i j k:Value)(l:Heap):Prop:=a .ret m (puts b [(9,c),(10,(b 8)),(11,d),(12,e),(3,(b 8)),(4,e),(13,(b 0)),(14,e),(15,f),(16,g),(17,(b 8)),(18,h),(19,i),(20,j),(21,k)]) l
def qbSZ (a:Env)(b:Post)(m:List Nat)(c d e f g h i j k:Value)(l:Heap):Prop:=ov (binV BinOp.add 2 true (a 8) (Value.int IntKind.i64 1)) fun n=>b .normal m (puts a [(9,c),(10,(a 8)),(11,d),(12,e),(3,(a 8)),(4,e),(13,(a 0)),(14,e),(15,f),(16,g),(17,(a 8)),(18,h),(19,i),(20,j),(21,k),(22,n),(8,n)]) l
def qaeZ (a:Value)(b:Post)(m:List Nat)(c:Env)(d e f g h i j:Value)(k:Heap):Prop:=ov (unV UnOp.not a) fun l=>cdM l (qbRZ b m c d e f g h i j a l k) (qbSZ c b m d e f g h i j a l k)
def qbTZ (a:Env)(b:Heap)(c:Post)(m:List Nat)(e:Value):Prop:=ov (iaV (some (none,1)) (a 6) (a 8)) fun f=>ov (ldV (some none) f b) fun g=>ov (faV (some 1) (a 1)) fun h=>ov (ldV (some none) h b) fun i=>ov (iaV (some (none,4)) i (a 8)) fun j=>ov (ldV (some (some 4)) j b) fun k=>nxM P (do let d ← Deferred.ofValue (a 0) #[g,k] ; invoke d.target d.args) b fun l n=>qaeZ l c m a e f g h i j k n
def qbUZ (a:Env)(b:Heap)(c:Post)(m:List Nat):Prop:=ov (binV BinOp.lss 2 false (a 8) (a 7)) fun d=>cdM d (qbTZ a b c m d) (c (.exit 0) m (puts a [(9,d)]) b)
def qauZ (x0 x1:Value)(h:Heap)(K:KTy):Prop:=ov (faV (some 0) x1) fun a=>ov (ldV (some none) a h) fun b=>ov (lnV 7 b) fun c=>loopM (fun m d e f=>qbUZ d e f m) [] (puts (envOf [x0,x1]) [(5,a),(6,b),(7,c),(8,(Value.int IntKind.i64 0))]) h (blkM 0 (retM P [] K))
theorem qfMZ {x0 x1:Value}{h:Heap}(hd:qauZ x0 x1 h K):callM P qyZ #[x0,x1] h K :=
 call_of good mixed (fn:=Tryz.f193) (args:=[x0,x1]) Tryz.func193 rfl (by kernel_rfl) (of_decide_eq_true rfl) (B:=qauZ x0 x1 h K) (by kernel_rfl) hd
def qcXZ (a:Value)(b:Heap)(c:Value)(K:KTy):Prop:=ov (ldV (some (some 4)) a b) fun d=>stM (some 4) c d b fun e=>ov (ldV (some (some 4)) c e) fun f=>K (.tuple #[f,(Value.bool false)]) e
def qcYZ (a:Value)(b:Heap)(c d:Value)(K:KTy):Prop:=ov (faV (some 1) a) fun e=>ov (ldV (some none) e b) fun f=>ov (iaV (some (none,4)) f c) fun g=>ov (ldV (some (some 4)) g b) fun h=>stM (some 4) d h b fun i=>ov (ldV (some (some 4)) d i) fun j=>K (.tuple #[j,(Value.bool true)]) i
def qcZZ (a b:Value)(c:Heap)(d:Value)(K:KTy)(e:Value):Prop:=ov (exV a 0) fun f=>ov (exV a 1) fun g=>ov (unV UnOp.not g) fun h=>cdM h (qcXZ b c d K) (qcYZ e c f d K)
def qaXZ (x0 x1:Value)(h:Heap)(K:KTy):Prop:=nwM (some x0.cells) qaZ h fun a b=>nwM (zc P qgZ) qgZ b fun c d=>nwM (zc P qgZ) qgZ d fun e f=>ov (ldV (some (some 2)) a f) fun g=>callM P qtZ #[g,x1] f fun i j=>qcZZ i e j c K a
theorem qgMZ {x0 x1:Value}{h:Heap}(hd:qaXZ x0 x1 h K):callM P qHZ #[x0,x1] h K :=
 call_of good mixed (fn:=Tryz.f194) (args:=[x0,x1]) Tryz.func194 rfl (by kernel_rfl) (of_decide_eq_true rfl) (B:=qaXZ x0 x1 h K) (by kernel_rfl) hd
def qmZZ (x0 x1:Value)(a:Heap)(b c d:Value)(e:Post):Prop:=callM P qmcZ #[x0,x1] a fun f g=>rfM P gd f #[11] (rfA P qeuZ 0) (rfB P qeuZ 0) [] (puts (envOf [x0,x1]) [(4,b),(5,c),(6,d),(8,x0),(9,x1),(10,f)]) g (blkM 0 e)
def qnaZ (a:Env)(b:Heap)(K:KTy)(m:List Nat):Prop:=ov (faV (some 1) (a 5)) fun c=>ov (ldV (some none) c b) fun d=>ov (faV (some 2) (a 5)) fun e=>ov (ldV (some none) e b) fun f=>ov (ldV (some none) (a 6) b) fun g=>ov (bdV (binf P qqZ) [(0,d),(1,f),(2,g)]) fun h=>stM (some 3) (a 4) h b fun i=>(retM P [.cell 4 112] K) .ret m (puts a [(22,c),(23,d),(24,e),(25,f),(26,g),(27,h)]) i
def qmtZ (x0 x1:Value)(h:Heap)(K:KTy):Prop:=nwM (zc P qqZ) qqZ h fun a b=>nwM (zc P qbZ) qbZ b fun c d=>nwM (zc P qmZ) qmZ d fun e f=>stM (some 1) e (Value.int IntKind.i64 0) f fun g=>seqM (fun i=>qmZZ x0 x1 g a c e i) (fun m j k=>qnaZ j k K m) (retM P [.cell 4 112] K)
theorem qocZ {x0 x1:Value}{h:Heap}(hd:qmtZ x0 x1 h K):callM P qeuZ #[x0,x1] h K :=
 call_of good mixed (fn:=Tryz.f195) (args:=[x0,x1]) Tryz.func195 rfl (by kernel_rfl) (of_decide_eq_true rfl) (B:=qmtZ x0 x1 h K) (by kernel_rfl) hd
def qmuZ (m:List Nat)(s:Env)(h:Heap)(Q:Post):Prop:=nwM (zc P qbZ) qbZ h fun a b=>stM (some 4) a (s 11) b fun c=>Q .normal m (puts s [(7,a)]) c
theorem qnKZ {m:List Nat}{s:Env}{h:Heap}{Q:Post}:den P gd (rfA P qeuZ 0) m s h Q=qmuZ m s h Q:=by kernel_rfl
def qmvZ (m:List Nat)(s:Env)(h:Heap)(Q:Post):Prop:=seqM (fun a=>ov (ldV (some none) (s 6) h) fun b=>ov (binV BinOp.eql 2 true b (Value.int IntKind.i64 0)) fun c=>gM (isB c false) (fun d=>ov (ldV (some (some 4)) (s 7) h) fun e=>d e h) h fun f g=>gM (isB c false) (fun i=>ov (ldV (some (some 4)) (s 5) g) fun j=>i j g) g fun k l=>gM (isB c false) (fun n=>callM P qiKZ #[f,k] l fun o p=>n o p) l fun q r=>ov (pkV c (Value.bool true) q) fun t=>cdM t (ov (ldV (some (some 4)) (s 7) r) fun u=>stM (some 4) (s 5) u r fun v=>a .normal m (puts s [(12,b),(13,c),(14,c),(15,f),(16,k),(17,q),(18,t),(19,u)]) v) (a .normal m (puts s [(12,b),(13,c),(14,c),(15,f),(16,k),(17,q),(18,t)]) r)) (fun m w x=>ov (ldV (some none) (w 6) x) fun y=>ov (binV BinOp.add 2 true y (Value.int IntKind.i64 1)) fun z=>stM (some 1) (w 6) z x fun aa=>Q .normal m (puts w [(20,y),(21,z)]) aa) (blkM 1 Q)
theorem qnLZ {m:List Nat}{s:Env}{h:Heap}{Q:Post}:den P gd (rfB P qeuZ 0) m s h Q=qmvZ m s h Q:=by kernel_rfl
def qkVZ (a x0 x1 b c d e f g h:Value)(i:Heap)(j:Post):Prop:=rfM P gd a #[14,15] (rfA P qaVZ 0) (rfB P qaVZ 0) [] (puts (envOf [x0,x1]) [(2,b),(3,c),(4,d),(5,(Value.slice none 0 0)),(6,e),(11,f),(7,g),(12,h),(13,a)]) i (blkM 0 j)
def qkWZ (a:Value)(b:Heap)(x0 x1 c d e f g:Value)(h:Post):Prop:=ov (ldV (some (some 2)) a b) fun i=>callM P quZ #[i] b fun j k=>qkVZ j x0 x1 a c d e f g i k h
def qkXZ (a:Env)(b:Heap)(K:KTy)(m:List Nat):Prop:=ov (ldV (some (some 2)) (a 7) b) fun c=>ov (ldV (some none) (a 6) b) fun d=>stM (some 2) (a 4) c b fun e=>ldV (some none) (a 6) e=some d∧(retM P [.cell 4 70,.tmp 5] K) .ret m (puts a [(30,c),(31,d),(5,d)]) e
def qjQZ (x0 x1:Value)(h:Heap)(K:KTy):Prop:=nwM (some x0.cells) qaZ h fun a b=>nwM (some x1.cells) qXZ b fun c d=>nwM (zc P qaZ) qaZ d fun e f=>nwM (zc P qoZ) qoZ f fun g i=>ov (ldV (some (some 2)) a i) fun j=>nwM (zc P qaZ) qaZ i fun k l=>stM (some 2) k j l fun n=>seqM (fun o=>qkWZ a n x0 x1 c e g j k o) (fun m p q=>qkXZ p q K m) (retM P [.cell 4 70,.tmp 5] K)
theorem qnMZ {x0 x1:Value}{h:Heap}(hd:qjQZ x0 x1 h K):callM P qaVZ #[x0,x1] h K :=
 call_of good mixed (fn:=Tryz.f198) (args:=[x0,x1]) Tryz.func198 rfl (by kernel_rfl) (of_decide_eq_true rfl) (B:=qjQZ x0 x1 h K) (by kernel_rfl) hd
def qkfZ (m:List Nat)(s:Env)(h:Heap)(Q:Post):Prop:=nwM (zc P qgZ) qgZ h fun a b=>stM (some 4) a (s 15) b fun c=>Q .normal m (puts s [(8,(s 14)),(9,a)]) c
theorem qnpZ {m:List Nat}{s:Env}{h:Heap}{Q:Post}:den P gd (rfA P qaVZ 0) m s h Q=qkfZ m s h Q:=by kernel_rfl
def qkgZ (m:List Nat)(s:Env)(h:Heap)(Q:Post):Prop:=ov (ldV (some (some 2)) (s 7) h) fun a=>ov (faV (some 0) (s 9)) fun b=>ov (ldV (some none) b h) fun c=>ov (ldV (some none) (s 3) h) fun d=>ov (ldV (some none) (s 3) h) fun e=>callM P qgCZ #[c,d] h fun f g=>ldV (some (some 2)) (s 7) g=some a∧ldV (some none) (s 3) g=some e∧callM P qfKZ #[a,(s 8),f,e] g fun i j=>ov (exV i 0) fun k=>ov (exV i 1) fun l=>stM (some 2) (s 7) k j fun n=>ov (ldV (some none) (s 6) n) fun o=>vvM P (Builtin.append_ #[qoZ,qoZ] qoZ #[o,l]) n fun p q=>stM (some 1) (s 6) p q fun r=>Q .normal m (puts s [(10,(Value.slice none 0 0)),(17,a),(18,(s 8)),(19,b),(20,c),(21,d),(23,e),(22,f),(24,i),(16,i),(25,k),(26,l),(10,l),(27,o),(28,l),(29,p)]) r
theorem qnqZ {m:List Nat}{s:Env}{h:Heap}{Q:Post}:den P gd (rfB P qaVZ 0) m s h Q=qkgZ m s h Q:=by kernel_rfl
def qjfZ (a:Post)(m:List Nat)(b:Env)(c d e f g h i j k l n o p:Value)(q:Heap):Prop:=a .normal m (puts b [(21,c),(22,(b 20)),(23,d),(8,(b 20)),(9,d),(24,(b 0)),(25,(b 20)),(26,e),(27,f),(28,g),(29,d),(30,h),(31,i),(32,j),(33,k),(34,l),(35,n),(36,(b 2)),(37,o),(38,p)]) q
def qjgZ (a:Env)(b:Heap)(c:Value)(d:Post)(m:List Nat)(e f g h:Value):Prop:=ov (faV (some 0) (a 7)) fun i=>ov (ldV (some none) i b) fun j=>ov (faV (some 1) (a 7)) fun k=>ov (ldV (some (some 3)) k b) fun l=>ov (faV (some 4) (a 7)) fun n=>ov (ldV (some (some 3)) n b) fun o=>ov (bdV (binf P qddZ) [(0,j),(1,l),(2,o),(3,(a 2))]) fun p=>callM P qcTZ #[c,p] b fun q r=>qjfZ d m a e c f g h i j k l n o p q r
def qjhZ (a:Value)(b:Env)(c:Heap)(d:Value)(e:Post)(m:List Nat)(f g h:Value):Prop:=cdM a (qjgZ b c d e m f g h a) (e .normal m (puts b [(21,f),(22,(b 20)),(23,d),(8,(b 20)),(9,d),(24,(b 0)),(25,(b 20)),(26,g),(27,h),(28,a)]) c)
def qjiZ (a:Env)(b:Heap)(c:Post)(m:List Nat)(d:Value):Prop:=ov (xaV (some (none,8,1)) (a 19) (a 20)) fun e=>ov (faV (some 0) (a 7)) fun f=>ov (ldV (some none) f b) fun g=>callM P qdJZ #[(a 0),(a 20),g] b fun h i=>qjhZ h a i e c m d f g
def qjjZ (a:Env)(b:Heap)(m:List Nat)(c:Value)(d:Post):Prop:=seqM (fun e=>qjiZ a b e m c) (fun m f g=>ov (binV BinOp.add 2 true (f 20) (Value.int IntKind.i64 1)) fun h=>d .normal m (puts f [(39,h),(20,h)]) g) d
def qjkZ (a:Env)(b:Heap)(m:List Nat)(c:Post):Prop:=ov (binV BinOp.lss 2 true (a 20) (Value.int IntKind.i64 8)) fun d=>cdM d (qjjZ a b m d c) (c (.exit 2) m (puts a [(21,d)]) b)
def qjlZ (a:Env)(b:Heap)(m:List Nat)(c:Value)(d:Post):Prop:=ov (iaV (some (none,7)) (a 10) (a 12)) fun e=>ov (ldV (some (some 7)) e b) fun f=>nwM (zc P qxZ) qxZ b fun g h=>stM (some 7) g f h fun i=>ov (ncV (a 0)) fun j=>ov (faV (some 2) j) fun k=>ov (ldV (some (some 8)) k i) fun l=>loopM (fun m n o p=>qjkZ n o m p) m (puts a [(13,c),(14,e),(15,f),(7,g),(16,(a 0)),(17,j),(18,k),(19,l),(20,(Value.int IntKind.i64 0))]) i (blkM 2 (blkM 1 d))
def qjmZ (a:Env)(b:Heap)(m:List Nat)(c:Value)(d:Post):Prop:=seqM (fun e=>qjlZ a b m c e) (fun m f g=>ov (binV BinOp.add 2 true (f 12) (Value.int IntKind.i64 1)) fun h=>d .normal m (puts f [(40,h),(12,h)]) g) d
def qjnZ (a:Env)(b:Heap)(m:List Nat)(c:Post):Prop:=ov (binV BinOp.lss 2 false (a 12) (a 11)) fun d=>cdM d (qjmZ a b m d c) (c (.exit 0) m (puts a [(13,d)]) b)
def qgNZ (x0 x1 x2:Value)(h:Heap)(K:KTy):Prop:=ov (lnV 7 x1) fun a=>loopM (fun m b c d=>qjnZ b c m d) [] (puts (envOf [x0,x1,x2]) [(10,x1),(11,a),(12,(Value.int IntKind.i64 0))]) h (blkM 0 (retM P [] K))
theorem qnkZ {x0 x1 x2:Value}{h:Heap}(hd:qgNZ x0 x1 x2 h K):callM P qcVZ #[x0,x1,x2] h K :=
 call_of good mixed (fn:=Tryz.f199) (args:=[x0,x1,x2]) Tryz.func199 rfl (by kernel_rfl) (of_decide_eq_true rfl) (B:=qgNZ x0 x1 x2 h K) (by kernel_rfl) hd
def qlPZ (a b:Value)(c:Heap)(d:Value)(K:KTy):Prop:=ov (faV (some 1) a) fun e=>stM (some 1) e b c fun f=>ov (ldV (some (some 3)) a f) fun g=>ov (faV (some 1) a) fun h=>ov (ldV (some none) h f) fun i=>stM (some 3) d g f fun j=>ldV (some none) h j=some i∧ov (ldV (some (some 3)) d j) fun k=>K (.tuple #[k,i]) j
def qkAZ (x0:Value)(h:Heap)(K:KTy):Prop:=nwM (some x0.cells) qarZ h fun a b=>nwM (zc P qarZ) qarZ b fun c d=>ov (faV (some 1) a) fun e=>ov (ldV (some none) e d) fun f=>callM P qiUZ #[f,(Value.int IntKind.u64 1)] d fun g i=>qlPZ a g i c K
theorem qnSZ {x0:Value}{h:Heap}(hd:qkAZ x0 h K):callM P qjJZ #[x0] h K :=
 call_of good mixed (fn:=Tryz.f200) (args:=[x0]) Tryz.func200 rfl (by kernel_rfl) (of_decide_eq_true rfl) (B:=qkAZ x0 h K) (by kernel_rfl) hd
def qiyZ (x0 x1 a:Value)(b:Heap)(x2:Value)(K:KTy):Prop:=callM P qsZ #[x0,x1,(Value.int IntKind.i64 2),a] b fun c d=>ov (ncV x0) fun e=>ov (faV (some 10) e) fun f=>ov (ldV (some none) f d) fun g=>ov (iaV (some (none,8)) g x2) fun h=>K h d
def qfYZ (x0 x1 x2:Value)(h:Heap)(K:KTy):Prop:=callM P qTZ #[x2,(Value.int IntKind.i64 4)] h fun a b=>qiyZ x0 x1 a b x2 K
theorem qmSZ {x0 x1 x2:Value}{h:Heap}(hd:qfYZ x0 x1 x2 h K):callM P qdyZ #[x0,x1,x2] h K :=
 call_of good mixed (fn:=Tryz.f201) (args:=[x0,x1,x2]) Tryz.func201 rfl (by kernel_rfl) (of_decide_eq_true rfl) (B:=qfYZ x0 x1 x2 h K) (by kernel_rfl) hd
def qkYZ (a:Value)(b:Post)(x0 x1 x2 x3 c d e f g h i j k l m n o p q r s t u v w x y z aa ab:Value)(ac:Heap):Prop:=ov (exV a 0) fun ad=>ov (exV a 1) fun ae=>b .normal [] (puts (envOf [x0,x1,x2,x3]) [(4,c),(5,d),(8,e),(9,(Value.slice none 0 0)),(10,(Value.int IntKind.i64 0)),(19,f),(20,g),(21,h),(22,i),(18,i),(23,j),(24,k),(11,l),(12,k),(25,m),(26,n),(27,x2),(28,o),(13,o),(14,(Value.int IntKind.i64 0)),(29,x2),(30,p),(31,q),(32,r),(15,r),(33,s),(34,t),(36,u),(35,u),(38,o),(39,v),(40,w),(41,x),(42,y),(43,z),(44,aa),(45,r),(46,ab),(47,x3),(48,a),(37,a),(49,ad),(50,ae),(13,ad),(14,ae)]) ac
def qkZZ (a:Value)(b:Heap)(c d x3:Value)(e:Post)(x0 x1 x2 f g h i j k l m n o p q r s t u:Value):Prop:=ov (faV (some 2) a) fun v=>ov (ldV (some none) v b) fun w=>ov (faV (some 3) a) fun x=>ov (ldV (some none) x b) fun y=>ov (faV (some 4) a) fun z=>ov (ldV (some none) z b) fun aa=>ov (bdV (binf P qbZ) [(0,w),(1,y),(2,aa),(3,c)]) fun ab=>callM P qkwZ #[d,ab,x3] b fun ac ad=>qkYZ ac e x0 x1 x2 x3 f a g h i j k l m n o p d q r c s t u v w x y z aa ab ad
def qlaZ (a:Value)(b:Post)(x0 x1 x2 x3 c d e f g h i j k l m n o p q r s t u v w x:Value)(y:Heap):Prop:=ov (exV a 0) fun z=>ov (exV a 1) fun aa=>b .normal [] (puts (envOf [x0,x1,x2,x3]) [(4,c),(5,d),(8,e),(9,(Value.slice none 0 0)),(10,(Value.int IntKind.i64 0)),(19,f),(20,g),(21,h),(22,i),(18,i),(23,j),(24,k),(11,l),(12,k),(25,m),(26,n),(27,x2),(28,o),(13,o),(14,(Value.int IntKind.i64 0)),(29,x2),(30,p),(31,q),(32,r),(15,r),(33,s),(34,t),(36,u),(35,u),(52,v),(51,v),(54,o),(55,w),(56,x),(57,r),(58,a),(53,a),(59,z),(60,aa),(13,z),(14,aa)]) y
def qlbZ (a:Value)(b:Heap)(c d:Value)(e:Post)(x0 x1 x2 x3 f g h i j k l m n o p q r s t u v:Value):Prop:=ov (faV (some 2) a) fun w=>ov (ldV (some none) w b) fun x=>callM P qjKZ #[c,x,d] b fun y z=>qlaZ y e x0 x1 x2 x3 f a g h i j k l m n o p c q r d s t u v w x z
def qkhZ (a:Value)(b:Post)(x0 x1 x2 x3 c d e f g h i j k l m n o p q r s t u v w x y:Value)(z:Heap):Prop:=ov (exV a 0) fun aa=>ov (exV a 1) fun ab=>b .normal [] (puts (envOf [x0,x1,x2,x3]) [(4,c),(5,d),(8,e),(9,(Value.slice none 0 0)),(10,(Value.int IntKind.i64 0)),(19,f),(20,g),(21,h),(22,i),(18,i),(23,j),(24,k),(11,l),(12,k),(25,m),(26,n),(27,x2),(28,o),(13,o),(14,(Value.int IntKind.i64 0)),(29,x2),(30,p),(31,q),(32,r),(15,r),(33,s),(34,t),(36,u),(35,u),(52,v),(51,v),(62,w),(61,w),(64,o),(65,x),(66,y),(67,a),(63,a),(68,aa),(69,ab),(13,aa),(14,ab)]) z
def qkiZ (a:Value)(b:Heap)(c:Value)(d:Post)(x0 x1 x2 x3 e f g h i j k l m n o p q r s t u v w:Value):Prop:=ov (faV (some 2) a) fun x=>ov (ldV (some none) x b) fun y=>callM P qjsZ #[c,y] b fun z aa=>qkhZ z d x0 x1 x2 x3 e a f g h i j k l m n o c p q r s t u v w x y aa
def qkjZ (a:Post)(x0 x1 x2 x3 b c d e f g h i j k l m n o p q r s t u v:Value)(w:Heap):Prop:=a .normal [] (puts (envOf [x0,x1,x2,x3]) [(4,b),(5,c),(8,d),(9,(Value.slice none 0 0)),(10,(Value.int IntKind.i64 0)),(19,e),(20,f),(21,g),(22,h),(18,h),(23,i),(24,j),(11,k),(12,j),(25,l),(26,m),(27,x2),(28,n),(13,n),(14,(Value.int IntKind.i64 0)),(29,x2),(30,o),(31,p),(32,q),(15,q),(33,r),(34,s),(36,t),(35,t),(52,u),(51,u),(62,v),(61,v)]) w
def qkkZ (a b:Value)(c:Heap)(d:Value)(e:Post)(x0 x1 x2 x3 f g h i j k l m n o p q r s t u v:Value):Prop:=ov (binV BinOp.eql 2 true a (Value.int IntKind.i64 3)) fun w=>cdM w (qkiZ b c d e x0 x1 x2 x3 f g h i j k l m n o p q r s t a u v w) (qkjZ e x0 x1 x2 x3 f b g h i j k l m n o p d q r s t a u v w c)
def qlcZ (a b:Value)(c:Heap)(d e:Value)(f:Post)(x0 x1 x2 x3 g h i j k l m n o p q r s t u:Value):Prop:=ov (binV BinOp.eql 2 true a (Value.int IntKind.i64 2)) fun v=>cdM v (qlbZ b c d e f x0 x1 x2 x3 g h i j k l m n o p q r s t a u v) (qkkZ a b c d f x0 x1 x2 x3 g h i j k l m n o p q r s e t u v)
def qldZ (a:Value)(b:Heap)(c d x3:Value)(e:Post)(x0 x1 x2 f g h i j k l m n o p q r:Value):Prop:=ov (faV (some 0) a) fun s=>ov (ldV (some none) s b) fun t=>ov (binV BinOp.eql 2 true t (Value.int IntKind.i64 1)) fun u=>cdM u (qkZZ a b c d x3 e x0 x1 x2 f g h i j k l m n o p q r s t u) (qlcZ t a b d c e x0 x1 x2 x3 f g h i j k l m n o p q r s u)
def qklZ (a:Value)(b:Heap)(c:Env)(K:KTy)(m:List Nat)(d e f:Value):Prop:=ov (exV a 0) fun g=>ov (exV a 1) fun h=>nwM (zc P qaZ) qaZ b fun i j=>stM (some 2) i g j fun k=>ov (ldV (some (some 2)) i k) fun l=>stM (some 2) (c 8) l k fun n=>(retM P [.cell 8 70,.tmp 9,.tmp 10] K) .ret m (puts c [(71,d),(72,e),(73,f),(74,(c 13)),(75,(c 2)),(76,a),(70,a),(77,g),(78,h),(16,i),(17,h),(79,l),(80,h),(81,(c 14)),(9,h),(10,(c 14))]) n
def qhLZ (a:Env)(b:Heap)(K:KTy)(m:List Nat):Prop:=ov (ldV (some (some 2)) (a 4) b) fun c=>ov (faV (some 1) (a 5)) fun d=>ov (ldV (some none) d b) fun e=>callM P qfKZ #[c,e,(a 13),(a 2)] b fun f g=>qklZ f g a K m c d e
def qleZ (a:Value)(b:Heap)(c d x3 x0 x1 x2 e f g h i j k l n o p q r:Value)(K:KTy):Prop:=seqM (fun s=>qldZ a b c d x3 s x0 x1 x2 e f g h i j k l n o p q r) (fun m t u=>qhLZ t u K m) (retM P [.cell 8 70,.tmp 9,.tmp 10] K)
def qlfZ (a:Value)(b:Heap)(x2 c x3 x0 x1 d e f g h i j k l m n:Value)(K:KTy):Prop:=ov (faV (some 5) a) fun o=>ov (ldV (some none) o b) fun p=>callM P qiUZ #[x2,p] b fun q r=>qleZ a r q c x3 x0 x1 x2 d e f g h i j k l m n o p K
def qlgZ (a:Value)(b:Heap)(x2 c x3 x0 x1 d e f g h:Value)(K:KTy):Prop:=ov (exV a 0) fun i=>ov (exV a 1) fun j=>nwM (zc P qgZ) qgZ b fun k l=>stM (some 4) k i l fun m=>ov (faV (some 0) k) fun n=>ov (ldV (some none) n m) fun o=>callM P qgCZ #[o,x2] m fun p q=>qlfZ c q x2 p x3 x0 x1 d e f g h a i j k n o K
def qjRZ (x0 x1 x2 x3:Value)(h:Heap)(K:KTy):Prop:=nwM (some x0.cells) qaZ h fun a b=>nwM (some x1.cells) qaCZ b fun c d=>nwM (zc P qaZ) qaZ d fun e f=>ov (ldV (some (some 2)) a f) fun g=>ov (faV (some 1) c) fun i=>ov (ldV (some none) i f) fun j=>callM P qHZ #[g,j] f fun k l=>qlgZ k l x2 c x3 x0 x1 a e g i j K
theorem qnNZ {x0 x1 x2 x3:Value}{h:Heap}(hd:qjRZ x0 x1 x2 x3 h K):callM P qgBZ #[x0,x1,x2,x3] h K :=
 call_of good mixed (fn:=Tryz.f209) (args:=[x0,x1,x2,x3]) Tryz.func209 rfl (by kernel_rfl) (of_decide_eq_true rfl) (B:=qjRZ x0 x1 x2 x3 h K) (by kernel_rfl) hd
end Go.Proofs.YtcnphhhcknhhaaaGreat
namespace Go.Proofs.YtcnphhhcknhhaaaGreat
open Go Go.Den
set_option maxRecDepth 100000
set_option linter.unusedVariables false
def qeDZ (x0:Value)(h:Heap)(K:KTy):Prop:=vvM P (Builtin.max_ #[qmZ,qmZ] qmZ #[x0,(Value.int IntKind.i64 0)]) h fun a b=>ov (bdV (binf P qBZ) [(0,a)]) fun c=>nwM (some c.cells) qBZ b fun d e=>K d e
variable {K:KTy}
theorem qlxZ {x0:Value}{h:Heap}(hd:qeDZ x0 h K):callM P qdLZ #[x0] h K :=
 call_of good mixed (fn:=Tryz.f228) (args:=[x0]) Tryz.func228 rfl (by kernel_rfl) (of_decide_eq_true rfl) (B:=qeDZ x0 h K) (by kernel_rfl) hd
def qdMZ (x0 x1 x2:Value)(h:Heap)(K:KTy):Prop:=nwM (some x1.cells) qarZ h fun a b=>nwM (zc P qaMZ) qaMZ b fun c d=>ov (ldV (some none) x2 d) fun e=>ov (ldV (some (some 3)) a d) fun f=>callM P qfoZ #[x0,(Value.int IntKind.i64 8),e,f] d fun g i=>ov (bdV (binf P qaMZ) []) fun j=>stM (some 4) c j i fun k=>ov (ldV (some (some 4)) c k) fun l=>K l k
theorem qlhZ {x0 x1 x2:Value}{h:Heap}(hd:qdMZ x0 x1 x2 h K):callM P qdDZ #[x0,x1,x2] h K :=
 call_of good mixed (fn:=Tryz.f229) (args:=[x0,x1,x2]) Tryz.func229 rfl (by kernel_rfl) (of_decide_eq_true rfl) (B:=qdMZ x0 x1 x2 h K) (by kernel_rfl) hd
def qjyZ (x0:Value)(h:Heap)(K:KTy):Prop:=ov (binV BinOp.geq 2 true x0 (Value.int IntKind.i64 0)) fun a=>gM (isB a true) (fun b=>b x0 h) h fun c d=>gM (isB a true) (fun e=>ov (binV BinOp.lss 2 true c (Value.int IntKind.i64 8)) fun f=>e f d) d fun g i=>ov (pkV a g (Value.bool false)) fun j=>K j i
theorem qnDZ {x0:Value}{h:Heap}(hd:qjyZ x0 h K):callM P qiJZ #[x0] h K :=
 call_of good mixed (fn:=Tryz.f239) (args:=[x0]) Tryz.func239 rfl (by kernel_rfl) (of_decide_eq_true rfl) (B:=qjyZ x0 h K) (by kernel_rfl) hd
def qdBZ (a:Value)(b:Heap)(c:Value)(K:KTy):Prop:=ov (faV (some 1) a) fun d=>ov (ldV (some none) d b) fun e=>ov (iaV (some (none,1)) e c) fun f=>ov (ldV (some none) f b) fun g=>K (.tuple #[g,(Value.bool true)]) b
def qdCZ (a:Value)(K:KTy)(b:Heap)(c:Value):Prop:=ov (exV a 0) fun d=>ov (exV a 1) fun e=>ov (unV UnOp.not e) fun f=>cdM f (K (.tuple #[(Value.int IntKind.u32 0),(Value.bool false)]) b) (qdBZ c b d K)
def qbPZ (x0 x1:Value)(h:Heap)(K:KTy):Prop:=nwM (some x0.cells) qfjZ h fun a b=>ov (ldV (some (some 2)) a b) fun c=>callM P qblZ #[c,x1] b fun d e=>qdCZ d K e a
theorem qiPZ {x0 x1:Value}{h:Heap}(hd:qbPZ x0 x1 h K):callM P qbDZ #[x0,x1] h K :=
 call_of good mixed (fn:=Tryz.f240) (args:=[x0,x1]) Tryz.func240 rfl (by kernel_rfl) (of_decide_eq_true rfl) (B:=qbPZ x0 x1 h K) (by kernel_rfl) hd
def qnbZ (a:Env)(b:Post)(m:List Nat)(c:Value)(d:Heap):Prop:=ov (stV (a 0) (a 7)) fun e=>ov (cvV (some .u64) e) fun f=>ov (binV BinOp.xor 2 false (a 3) f) fun g=>ov (binV BinOp.mul 2 true g (Value.int IntKind.u64 1099511628211)) fun h=>ov (binV BinOp.add 2 true (a 7) (Value.int IntKind.i64 1)) fun i=>b .normal m (puts a [(8,c),(9,(a 7)),(4,(a 7)),(10,(a 3)),(11,(a 0)),(12,(a 7)),(13,e),(14,f),(15,g),(3,g),(16,g),(17,h),(3,h),(18,i),(7,i)]) d
def qncZ (a:Env)(b:Post)(m:List Nat)(c:Heap):Prop:=ov (binV BinOp.lss 2 false (a 7) (a 6)) fun d=>cdM d (qnbZ a b m d c) (b (.exit 0) m (puts a [(8,d)]) c)
def qndZ (x0:Value)(h:Heap)(a:Post):Prop:=ov (lnV 3 x0) fun b=>loopM (fun m c d e=>qncZ c e m d) [] (puts (envOf [x0]) [(2,(Value.int IntKind.u64 0)),(3,(Value.int IntKind.u64 14695981039346656037)),(5,x0),(6,b),(7,(Value.int IntKind.i64 0))]) h (blkM 0 a)
def qmwZ (x0:Value)(h:Heap)(K:KTy):Prop:=seqM (fun a=>qndZ x0 h a) (fun m b c=>(retM P [.tmp 2] K) .ret m (puts b [(19,(b 3)),(2,(b 3))]) c) (retM P [.tmp 2] K)
theorem qodZ {x0:Value}{h:Heap}(hd:qmwZ x0 h K):callM P qlnZ #[x0] h K :=
 call_of good mixed (fn:=Tryz.f241) (args:=[x0]) Tryz.func241 rfl (by kernel_rfl) (of_decide_eq_true rfl) (B:=qmwZ x0 h K) (by kernel_rfl) hd
def qfZZ (x0 x1:Value)(h:Heap)(K:KTy):Prop:=ov (ncV x0) fun a=>ov (faV (some 0) a) fun b=>ov (ldV (some none) b h) fun c=>ov (ncV x0) fun d=>ov (faV (some 1) d) fun e=>ov (ldV (some none) e h) fun f=>callM P qfQZ #[x1,c,f] h fun g i=>K (.tuple #[]) i
theorem qmTZ {x0 x1:Value}{h:Heap}(hd:qfZZ x0 x1 h K):callM P qajZ #[x0,x1] h K :=
 call_of good mixed (fn:=Tryz.f242) (args:=[x0,x1]) Tryz.func242 rfl (by kernel_rfl) (of_decide_eq_true rfl) (B:=qfZZ x0 x1 h K) (by kernel_rfl) hd
def qfDZ (x0 x1:Value)(h:Heap)(K:KTy):Prop:=ov (ncV x0) fun a=>ov (faV (some 0) a) fun b=>ov (ldV (some none) b h) fun c=>ov (ncV x0) fun d=>ov (faV (some 1) d) fun e=>ov (ldV (some none) e h) fun f=>callM P qfrZ #[x1,c,f] h fun g i=>K (.tuple #[]) i
theorem qmxZ {x0 x1:Value}{h:Heap}(hd:qfDZ x0 x1 h K):callM P qYZ #[x0,x1] h K :=
 call_of good mixed (fn:=Tryz.f243) (args:=[x0,x1]) Tryz.func243 rfl (by kernel_rfl) (of_decide_eq_true rfl) (B:=qfDZ x0 x1 h K) (by kernel_rfl) hd
def qgaZ (x0 x1:Value)(h:Heap)(K:KTy):Prop:=ov (ncV x0) fun a=>ov (faV (some 0) a) fun b=>ov (ldV (some none) b h) fun c=>callM P qfPZ #[x1,c] h fun d e=>ov (ncV x0) fun f=>ov (faV (some 4) f) fun g=>stM (some 3) g d e fun i=>K (.tuple #[]) i
theorem qmUZ {x0 x1:Value}{h:Heap}(hd:qgaZ x0 x1 h K):callM P qakZ #[x0,x1] h K :=
 call_of good mixed (fn:=Tryz.f244) (args:=[x0,x1]) Tryz.func244 rfl (by kernel_rfl) (of_decide_eq_true rfl) (B:=qgaZ x0 x1 h K) (by kernel_rfl) hd
def qfEZ (x0 x1:Value)(h:Heap)(K:KTy):Prop:=ov (ncV x0) fun a=>ov (faV (some 2) a) fun b=>ov (ldV (some none) b h) fun c=>ov (ncV x0) fun e=>ov (faV (some 4) e) fun f=>ov (ldV (some (some 3)) f h) fun g=>nxM P (do let d ← Deferred.ofValue c #[x1,g] ; invoke d.target d.args) h fun i j=>ov (ncV x0) fun k=>ov (faV (some 8) k) fun l=>stM (some 4) l i j fun m=>K (.tuple #[]) m
theorem qmyZ {x0 x1:Value}{h:Heap}(hd:qfEZ x0 x1 h K):callM P qZZ #[x0,x1] h K :=
 call_of good mixed (fn:=Tryz.f245) (args:=[x0,x1]) Tryz.func245 rfl (by kernel_rfl) (of_decide_eq_true rfl) (B:=qfEZ x0 x1 h K) (by kernel_rfl) hd
def qeEZ (x0 x1:Value)(h:Heap)(K:KTy):Prop:=ov (ncV x0) fun a=>ov (faV (some 0) a) fun b=>ov (ldV (some none) b h) fun c=>ov (ncV x0) fun d=>ov (faV (some 1) d) fun e=>ov (ldV (some none) e h) fun f=>callM P qesZ #[x1,c,f] h fun g i=>K (.tuple #[]) i
theorem qlyZ {x0 x1:Value}{h:Heap}(hd:qeEZ x0 x1 h K):callM P qFZ #[x0,x1] h K :=
 call_of good mixed (fn:=Tryz.f246) (args:=[x0,x1]) Tryz.func246 rfl (by kernel_rfl) (of_decide_eq_true rfl) (B:=qeEZ x0 x1 h K) (by kernel_rfl) hd
def qgOZ (x0 x1:Value)(h:Heap)(K:KTy):Prop:=ov (ncV x0) fun a=>ov (faV (some 0) a) fun b=>ov (ldV (some none) b h) fun c=>ov (ncV x0) fun d=>ov (faV (some 1) d) fun e=>ov (ldV (some none) e h) fun f=>callM P qgEZ #[x1,c,f] h fun g i=>K (.tuple #[]) i
theorem qnlZ {x0 x1:Value}{h:Heap}(hd:qgOZ x0 x1 h K):callM P qaAZ #[x0,x1] h K :=
 call_of good mixed (fn:=Tryz.f247) (args:=[x0,x1]) Tryz.func247 rfl (by kernel_rfl) (of_decide_eq_true rfl) (B:=qgOZ x0 x1 h K) (by kernel_rfl) hd
def qffZ (x0 x1:Value)(h:Heap)(K:KTy):Prop:=ov (ncV x0) fun a=>ov (faV (some 0) a) fun b=>ov (ldV (some none) b h) fun c=>ov (ncV x0) fun d=>ov (faV (some 1) d) fun e=>ov (ldV (some none) e h) fun f=>callM P qeTZ #[x1,c,f] h fun g i=>K (.tuple #[]) i
theorem qmaZ {x0 x1:Value}{h:Heap}(hd:qffZ x0 x1 h K):callM P qQZ #[x0,x1] h K :=
 call_of good mixed (fn:=Tryz.f248) (args:=[x0,x1]) Tryz.func248 rfl (by kernel_rfl) (of_decide_eq_true rfl) (B:=qffZ x0 x1 h K) (by kernel_rfl) hd
def qhMZ (a:Value)(b:Heap)(c:Value)(K:KTy):Prop:=ov (ldV (some (some 1)) a b) fun d=>stM (some 1) c d b fun e=>ov (ldV (some (some 1)) c e) fun f=>K (.tuple #[f,(Value.bool false)]) e
def qhNZ (x1 a:Value)(b:Heap)(K:KTy):Prop:=ov (binV BinOp.add 2 true x1 (Value.int IntKind.i64 1)) fun c=>ov (bdV (binf P qiZ) [(0,c)]) fun d=>stM (some 1) a d b fun e=>ov (ldV (some (some 1)) a e) fun f=>K (.tuple #[f,(Value.bool true)]) e
def qfFZ (x0 x1:Value)(h:Heap)(K:KTy):Prop:=nwM (some x0.cells) qiZ h fun a b=>nwM (zc P qiZ) qiZ b fun c d=>ov (binV BinOp.lss 2 true x1 (Value.int IntKind.i64 0)) fun e=>gM (isB e false) (fun f=>ov (ldV (some (some 1)) a d) fun g=>f g d) d fun i j=>gM (isB e false) (fun k=>callM P qbIZ #[i] j fun l m=>k l m) j fun n o=>gM (isB e false) (fun p=>ov (unV UnOp.not n) fun q=>p q o) o fun r s=>ov (pkV e (Value.bool true) r) fun t=>cdM t (qhMZ a s c K) (qhNZ x1 c s K)
theorem qmzZ {x0 x1:Value}{h:Heap}(hd:qfFZ x0 x1 h K):callM P qeUZ #[x0,x1] h K :=
 call_of good mixed (fn:=Tryz.f249) (args:=[x0,x1]) Tryz.func249 rfl (by kernel_rfl) (of_decide_eq_true rfl) (B:=qfFZ x0 x1 h K) (by kernel_rfl) hd
def qhOZ (a:Value)(b:Heap)(c:Value)(K:KTy):Prop:=ov (ldV (some (some 1)) a b) fun d=>stM (some 1) c d b fun e=>ov (ldV (some (some 1)) c e) fun f=>K (.tuple #[f,(Value.bool false)]) e
def qhPZ (a:Value)(b:Heap)(K:KTy):Prop:=ov (bdV (binf P qiZ) []) fun c=>stM (some 1) a c b fun d=>ov (ldV (some (some 1)) a d) fun e=>K (.tuple #[e,(Value.bool true)]) d
def qhQZ (a b:Value)(c:Heap)(x1 d:Value)(K:KTy):Prop:=gM (isB a false) (fun e=>ov (ldV (some (some 1)) b c) fun f=>e f c) c fun g h=>gM (isB a false) (fun i=>callM P qevZ #[g] h fun j k=>i j k) h fun l m=>gM (isB a false) (fun n=>n x1 m) m fun o p=>gM (isB a false) (fun q=>ov (binV BinOp.neq 2 false l o) fun r=>q r p) p fun s t=>ov (pkV a (Value.bool true) s) fun u=>cdM u (qhOZ b t d K) (qhPZ d t K)
def qfGZ (x0 x1:Value)(h:Heap)(K:KTy):Prop:=nwM (some x0.cells) qiZ h fun a b=>nwM (zc P qiZ) qiZ b fun c d=>ov (ldV (some (some 1)) a d) fun e=>callM P qbIZ #[e] d fun f g=>qhQZ f a g x1 c K
theorem qmAZ {x0 x1:Value}{h:Heap}(hd:qfGZ x0 x1 h K):callM P qeVZ #[x0,x1] h K :=
 call_of good mixed (fn:=Tryz.f251) (args:=[x0,x1]) Tryz.func251 rfl (by kernel_rfl) (of_decide_eq_true rfl) (B:=qfGZ x0 x1 h K) (by kernel_rfl) hd
def qizZ (a:Value)(b:Heap)(c:Post)(x0 d e f g h i j k:Value):Prop:=ov (faV (some 0) a) fun l=>ov (ldV (some none) l b) fun m=>ov (binV BinOp.add 2 true m (Value.int IntKind.u64 1)) fun n=>ov (faV (some 0) a) fun o=>stM (some 1) o n b fun p=>c .normal [] (puts (envOf [x0]) [(1,a),(2,d),(3,e),(4,f),(5,g),(6,g),(7,h),(8,i),(9,j),(10,k),(11,l),(12,m),(13,n),(14,o)]) p
def qiAZ (a b:Value)(c:Heap)(d:Post)(x0 e f:Value):Prop:=ov (unV UnOp.not a) fun g=>gM (isB g true) (fun h=>ov (ldV (some (some 2)) b c) fun i=>h i c) c fun j k=>gM (isB g true) (fun l=>callM P qdbZ #[j] k fun m n=>l m n) k fun o p=>gM (isB g true) (fun q=>ov (unV UnOp.not o) fun r=>q r p) p fun s t=>ov (pkV g s (Value.bool false)) fun u=>cdM u (qizZ b t d x0 e f a g j o s u) (d .normal [] (puts (envOf [x0]) [(1,b),(2,e),(3,f),(4,a),(5,g),(6,g),(7,j),(8,o),(9,s),(10,u)]) t)
def qiBZ (a:Value)(b:Heap)(c:Post)(x0 d:Value):Prop:=ov (ldV (some (some 2)) a b) fun e=>callM P qftZ #[e] b fun f g=>qiAZ f a g c x0 d e
def qgbZ (x0:Value)(h:Heap)(K:KTy):Prop:=nwM (some x0.cells) qvZ h fun a b=>nwM (zc P qvZ) qvZ b fun c d=>seqM (fun e=>qiBZ a d e x0 c) (fun m f g=>ov (ldV (some (some 2)) (f 1) g) fun i=>stM (some 2) (f 2) i g fun j=>(retM P [.cell 2 193] K) .ret m (puts f [(15,i)]) j) (retM P [.cell 2 193] K)
theorem qmVZ {x0:Value}{h:Heap}(hd:qgbZ x0 h K):callM P qfsZ #[x0] h K :=
 call_of good mixed (fn:=Tryz.f253) (args:=[x0]) Tryz.func253 rfl (by kernel_rfl) (of_decide_eq_true rfl) (B:=qgbZ x0 h K) (by kernel_rfl) hd
def qjEZ (a:Value)(b:Heap)(c:Post)(x0 d e f:Value):Prop:=ov (faV (some 0) a) fun g=>ov (ldV (some none) g b) fun h=>ov (binV BinOp.add 2 true h (Value.int IntKind.u64 1)) fun i=>ov (faV (some 0) a) fun j=>stM (some 1) j i b fun k=>c .normal [] (puts (envOf [x0]) [(1,a),(2,d),(3,e),(4,f),(5,g),(6,h),(7,i),(8,j)]) k
def qjFZ (a b:Value)(c:Heap)(d:Post)(x0 e f:Value):Prop:=cdM a (qjEZ b c d x0 e f a) (d .normal [] (puts (envOf [x0]) [(1,b),(2,e),(3,f),(4,a)]) c)
def qjGZ (a:Value)(b:Heap)(c:Post)(x0 d:Value):Prop:=ov (ldV (some (some 2)) a b) fun e=>callM P qdbZ #[e] b fun f g=>qjFZ f a g c x0 d e
def qhRZ (x0:Value)(h:Heap)(K:KTy):Prop:=nwM (some x0.cells) qvZ h fun a b=>nwM (zc P qvZ) qvZ b fun c d=>seqM (fun e=>qjGZ a d e x0 c) (fun m f g=>ov (ldV (some (some 2)) (f 1) g) fun i=>stM (some 2) (f 2) i g fun j=>(retM P [.cell 2 193] K) .ret m (puts f [(9,i)]) j) (retM P [.cell 2 193] K)
theorem qnrZ {x0:Value}{h:Heap}(hd:qhRZ x0 h K):callM P qgFZ #[x0] h K :=
 call_of good mixed (fn:=Tryz.f255) (args:=[x0]) Tryz.func255 rfl (by kernel_rfl) (of_decide_eq_true rfl) (B:=qhRZ x0 h K) (by kernel_rfl) hd
def qlzZ (x0 x1:Value)(h:Heap)(K:KTy):Prop:=ov (binV BinOp.sub 2 true (Value.int IntKind.u64 18446744073709551615) x0) fun a=>ov (binV BinOp.gtr 2 false x1 a) fun b=>cdM b (K (Value.int IntKind.u64 18446744073709551615) h) (ov (binV BinOp.add 2 false x0 x1) fun c=>K c h)
theorem qoaZ {x0 x1:Value}{h:Heap}(hd:qlzZ x0 x1 h K):callM P qiUZ #[x0,x1] h K :=
 call_of good mixed (fn:=Tryz.f268) (args:=[x0,x1]) Tryz.func268 rfl (by kernel_rfl) (of_decide_eq_true rfl) (B:=qlzZ x0 x1 h K) (by kernel_rfl) hd
end Go.Proofs.YtcnphhhcknhhaaaGreat
namespace Go.Proofs.YtcnphhhcknhhaaaGreat
open Go Go.Den
set_option maxRecDepth 100000
set_option linter.unusedVariables false
def qaNZ (x0 x1:Value)(h:Heap)(K:KTy):Prop:=nwM (some x0.cells) qaZ h fun a b=>ov (faV (some 0) a) fun c=>ov (ldV (some none) c b) fun d=>callM P qzZ #[d,x1] b fun e f=>ov (exV e 0) fun g=>ov (exV e 1) fun i=>K (.tuple #[g,i]) f
variable {K:KTy}
theorem qgzZ {x0 x1:Value}{h:Heap}(hd:qaNZ x0 x1 h K):callM P qtZ #[x0,x1] h K :=
 call_of good mixed (fn:=Tryz.f269) (args:=[x0,x1]) Tryz.func269 rfl (by kernel_rfl) (of_decide_eq_true rfl) (B:=qaNZ x0 x1 h K) (by kernel_rfl) hd
def qkBZ (x0 x1:Value)(h:Heap)(K:KTy):Prop:=nwM (some x0.cells) qeZ h fun a b=>nwM (some x1.cells) qXZ b fun c d=>ov ((some (.func (Fn.func qhlZ) #[] #[a,c]):Option Value)) fun e=>K e d
theorem qnTZ {x0 x1:Value}{h:Heap}(hd:qkBZ x0 x1 h K):callM P qmcZ #[x0,x1] h K :=
 call_of good mixed (fn:=Tryz.f270) (args:=[x0,x1]) Tryz.func270 rfl (by kernel_rfl) (of_decide_eq_true rfl) (B:=qkBZ x0 x1 h K) (by kernel_rfl) hd
def qjzZ (x0 x1:Value)(h:Heap)(K:KTy):Prop:=nwM (some x0.cells) qbZ h fun a b=>nwM (some x1.cells) qbZ b fun c d=>ov (faV (some 2) a) fun e=>ov (ldV (some none) e d) fun f=>ov (faV (some 2) c) fun g=>ov (ldV (some none) g d) fun i=>ov (binV BinOp.gtr 2 false f i) fun j=>gM (isB j false) (fun k=>ov (faV (some 2) a) fun l=>k l d) d fun m n=>gM (isB j false) (fun o=>ov (ldV (some none) m n) fun p=>o p n) n fun q r=>gM (isB j false) (fun s=>ov (faV (some 2) c) fun t=>s t r) r fun u v=>gM (isB j false) (fun w=>ov (ldV (some none) u v) fun x=>w x v) v fun y z=>gM (isB j false) (fun aa=>ov (binV BinOp.eql 2 false q y) fun ab=>aa ab z) z fun ac ad=>gM (isB j false) (fun ae=>ae ac ad) ad fun af ag=>gM (isB af true) (fun ah=>ov (faV (some 0) a) fun ai=>ah ai ag) ag fun aj ak=>gM (isB af true) (fun al=>ov (ldV (some none) aj ak) fun am=>al am ak) ak fun an ao=>gM (isB af true) (fun ap=>ov (faV (some 0) c) fun aq=>ap aq ao) ao fun ar au=>gM (isB af true) (fun av=>ov (ldV (some none) ar au) fun aw=>av aw au) au fun ax ay=>gM (isB af true) (fun az=>ov (binV BinOp.lss 2 false an ax) fun ba=>az ba ay) ay fun bb bc=>gM (isB j false) (fun bd=>ov (pkV af bb (Value.bool false)) fun be=>bd be bc) bc fun bf bg=>ov (pkV j (Value.bool true) bf) fun bh=>K bh bg
theorem qnEZ {x0 x1:Value}{h:Heap}(hd:qjzZ x0 x1 h K):callM P qiKZ #[x0,x1] h K :=
 call_of good mixed (fn:=Tryz.f271) (args:=[x0,x1]) Tryz.func271 rfl (by kernel_rfl) (of_decide_eq_true rfl) (B:=qjzZ x0 x1 h K) (by kernel_rfl) hd
def qkmZ (a:Value)(b:Heap)(c x1:Value)(d:Post)(x0 x2 x3 e f g h i j k l m n o:Value):Prop:=ov (faV (some 1) a) fun p=>ov (ldV (some (some 3)) p b) fun q=>ov (ldV (some (some 3)) c b) fun r=>ov (bdV (binf P qxZ) [(0,x1),(1,q),(2,r)]) fun s=>bsM (bsI P qoZ) 1 [(0,s)] b fun t u=>d .normal [] (puts (envOf [x0,x1,x2,x3]) [(4,e),(8,f),(9,(Value.slice none 0 0)),(15,g),(16,x1),(17,h),(14,h),(18,i),(19,j),(10,a),(11,j),(20,x2),(21,x3),(22,k),(12,c),(13,(Value.slice none 0 0)),(23,l),(24,m),(25,n),(26,o),(27,x1),(28,p),(29,q),(30,r),(31,s),(32,t),(13,t)]) u
def qknZ (a:Post)(x0 x1 x2 x3 b c d e f g h i j k l m n:Value)(o:Heap):Prop:=a .normal [] (puts (envOf [x0,x1,x2,x3]) [(4,b),(8,c),(9,(Value.slice none 0 0)),(15,d),(16,x1),(17,e),(14,e),(18,f),(19,g),(10,h),(11,g),(20,x2),(21,x3),(22,i),(12,j),(13,(Value.slice none 0 0)),(23,k),(24,l),(25,m),(26,n)]) o
def qkoZ (a:Value)(b:Heap)(c x1:Value)(d:Post)(x0 x2 x3 e f g h i j k:Value):Prop:=ov (ldV (some (some 3)) a b) fun l=>ov (faV (some 1) c) fun m=>ov (ldV (some (some 3)) m b) fun n=>pvM P (do eqGuard BinOp.neq qqZ (Operand.tmp 23) (Operand.tmp 25) l n; binOp BinOp.neq qqZ l n) fun o=>cdM o (qkmZ c b a x1 d x0 x2 x3 e f g h i j k l m n o) (qknZ d x0 x1 x2 x3 e f g h i j c k a l m n o b)
def qkpZ (a:Env)(b:Value)(c:Heap)(K:KTy)(m:List Nat)(d e f:Value):Prop:=stM (some 2) (a 8) b c fun g=>(retM P [.cell 8 70,.tmp 9] K) .ret m (puts a [(33,(a 2)),(34,d),(35,e),(36,f),(37,(a 1)),(38,b),(39,(a 13)),(9,(a 13))]) g
def qkqZ (a:Env)(b:Heap)(K:KTy)(m:List Nat)(c d:Value):Prop:=ov (ldV (some (some 2)) (a 4) b) fun e=>callM P qadZ #[e,(a 1)] b fun f g=>qkpZ a f g K m c d e
def qjSZ (a:Env)(b:Value)(c:Heap)(K:KTy)(m:List Nat)(d e f g h:Value):Prop:=stM (some 2) (a 8) b c fun i=>(retM P [.cell 8 70,.tmp 9] K) .ret m (puts a [(33,(a 2)),(34,d),(35,e),(40,f),(41,(a 1)),(42,(a 2)),(43,g),(44,h),(45,b),(46,(a 13)),(9,(a 13))]) i
def qkrZ (a:Env)(b:Heap)(K:KTy)(m:List Nat)(c d:Value):Prop:=ov (ldV (some (some 2)) (a 4) b) fun e=>ov (ldV (some (some 3)) (a 12) b) fun f=>ov (bdV (binf P qgZ) [(0,(a 2)),(1,f)]) fun g=>callM P qaBZ #[e,(a 1),g] b fun h i=>qjSZ a h i K m c d e f g
def qhSZ (a:Env)(b:Heap)(K:KTy)(m:List Nat):Prop:=ov (lnV 7 (a 2)) fun c=>ov (binV BinOp.eql 2 true c (Value.int IntKind.i64 0)) fun d=>cdM d (qkqZ a b K m c d) (qkrZ a b K m c d)
def qksZ (a:Heap)(b c x1 x0 x2 x3 d e f g h i:Value)(K:KTy):Prop:=nwM (zc P qqZ) qqZ a fun j k=>stM (some 3) j b k fun l=>seqM (fun n=>qkoZ j l c x1 n x0 x2 x3 d e f g h i b) (fun m o p=>qhSZ o p K m) (retM P [.cell 8 70,.tmp 9] K)
def qktZ (a:Value)(b:Heap)(x2 x3 x1 x0 c d e:Value)(K:KTy):Prop:=ov (exV a 0) fun f=>ov (exV a 1) fun g=>nwM (zc P qgZ) qgZ b fun h i=>stM (some 4) h f i fun j=>callM P qeuZ #[x2,x3] j fun k l=>qksZ l k h x1 x0 x2 x3 c d e a f g K
def qjAZ (x0 x1 x2 x3:Value)(h:Heap)(K:KTy):Prop:=nwM (some x0.cells) qaZ h fun a b=>nwM (zc P qaZ) qaZ b fun c d=>ov (ldV (some (some 2)) a d) fun e=>callM P qHZ #[e,x1] d fun f g=>qktZ f g x2 x3 x1 x0 a c e K
theorem qnFZ {x0 x1 x2 x3:Value}{h:Heap}(hd:qjAZ x0 x1 x2 x3 h K):callM P qfKZ #[x0,x1,x2,x3] h K :=
 call_of good mixed (fn:=Tryz.f273) (args:=[x0,x1,x2,x3]) Tryz.func273 rfl (by kernel_rfl) (of_decide_eq_true rfl) (B:=qjAZ x0 x1 x2 x3 h K) (by kernel_rfl) hd
def qliZ (a b:Value)(c:Heap)(K:KTy):Prop:=ov ((some (.func (Fn.func qalZ) #[] #[a]):Option Value)) fun d=>callM P qCZ #[b,d] c fun e f=>K e f
def qjTZ (x0 x1:Value)(h:Heap)(K:KTy):Prop:=nwM (some x1.cells) qXZ h fun a b=>callM P qnZ #[x0] b fun c d=>qliZ a c d K
theorem qnOZ {x0 x1:Value}{h:Heap}(hd:qjTZ x0 x1 h K):callM P qgCZ #[x0,x1] h K :=
 call_of good mixed (fn:=Tryz.f274) (args:=[x0,x1]) Tryz.func274 rfl (by kernel_rfl) (of_decide_eq_true rfl) (B:=qjTZ x0 x1 h K) (by kernel_rfl) hd
def qdQZ (x0:Value)(a:Heap)(b:Value)(K:KTy):Prop:=ov (ncV x0) fun c=>ov (faV (some 1) c) fun d=>ov (ldV (some none) d a) fun e=>ov (ldV (some (some 8)) b a) fun f=>bsM (bsI P qcJZ) 1 [(0,f)] a fun g h=>ldV (some none) d h=some e∧vvM P (Builtin.append_ #[qcJZ,qcJZ] qcJZ #[e,g]) h fun i j=>ov (ncV x0) fun k=>ov (faV (some 1) k) fun l=>stM (some 1) l i j fun m=>K (Value.bool true) m
def qdcZ (x0 x1:Value)(h:Heap)(K:KTy):Prop:=nwM (some x1.cells) qddZ h fun a b=>ov (ncV x0) fun c=>ov (faV (some 1) c) fun d=>ov (ldV (some none) d b) fun e=>ov (lnV 7 e) fun f=>ov (ncV x0) fun g=>ov (faV (some 0) g) fun i=>ov (ldV (some none) i b) fun j=>ov (binV BinOp.geq 2 false f j) fun k=>cdM k (ov (ncV x0) fun l=>ov (faV (some 2) l) fun m=>stM (some 1) m (Value.bool true) b fun n=>K (Value.bool false) n) (qdQZ x0 b a K)
theorem qjHZ {x0 x1:Value}{h:Heap}(hd:qdcZ x0 x1 h K):callM P qcTZ #[x0,x1] h K :=
 call_of good mixed (fn:=Tryz.f275) (args:=[x0,x1]) Tryz.func275 rfl (by kernel_rfl) (of_decide_eq_true rfl) (B:=qdcZ x0 x1 h K) (by kernel_rfl) hd
def qmBZ (a:Value)(b:Heap)(c d:Value)(e:Post)(x0 x1 x2 f g h i:Value):Prop:=ov (ldV (some (some 4)) a b) fun j=>ov (iaV (some (none,4)) c d) fun k=>stM (some 4) k j b fun l=>e .normal [] (puts (envOf [x0,x1,x2]) [(4,a),(6,(Value.slice none 0 0)),(7,(Value.int IntKind.i64 0)),(11,x0),(12,c),(8,c),(14,c),(15,f),(16,g),(17,h),(13,h),(18,d),(19,i),(9,d),(10,i),(26,i),(25,i),(27,c),(28,d),(29,j),(30,k)]) l
def qmCZ (a:Post)(x0 x1 x2 b c d e f g h i j:Value)(k:Heap):Prop:=a .ret [] (puts (envOf [x0,x1,x2]) [(4,b),(6,(Value.slice none 0 0)),(7,(Value.int IntKind.i64 0)),(11,x0),(12,c),(8,c),(14,c),(15,d),(16,e),(17,f),(13,f),(18,g),(19,h),(9,g),(10,h),(26,h),(25,h),(32,c),(33,i),(34,x2),(35,j),(31,j),(36,c),(6,c),(7,(Value.int IntKind.i64 2))]) k
def qmDZ (a:Post)(x0 x1 x2 b c d e f g h i j k l m:Value)(n:Heap):Prop:=a .normal [] (puts (envOf [x0,x1,x2]) [(4,b),(6,(Value.slice none 0 0)),(7,(Value.int IntKind.i64 0)),(11,x0),(12,c),(8,c),(14,c),(15,d),(16,e),(17,f),(13,f),(18,g),(19,h),(9,g),(10,h),(26,h),(25,h),(32,c),(33,i),(34,x2),(35,j),(31,j),(20,c),(21,g),(22,k),(23,l),(24,m),(8,m)]) n
def qmEZ (a:Value)(b:Heap)(c d:Value)(e:Post)(x0 x1 x2 f g h i j k:Value):Prop:=ov (ldV (some (some 4)) a b) fun l=>bsM (bsI P qeZ) 1 [(0,l)] b fun m n=>callM P qRZ #[c,d,m] n fun o p=>qmDZ e x0 x1 x2 a c f g h d i j k l m o p
def qmFZ (a x2:Value)(b:Post)(x0 x1 c d e f g h:Value)(i:Heap):Prop:=ov (lnV 7 a) fun j=>ov (binV BinOp.geq 2 false j x2) fun k=>cdM k (qmCZ b x0 x1 x2 c a d e f g h j k i) (qmEZ c i a g b x0 x1 x2 d e f h j k)
def qmGZ (a b:Value)(c:Heap)(d e:Value)(f:Post)(x0 x1 x2 g h i:Value):Prop:=cdM a (qmBZ b c d e f x0 x1 x2 g h i a) (qmFZ d x2 f x0 x1 b g h i e a c)
def qmHZ (a b:Value)(c:Heap)(d x0 x1 x2 e f:Value)(K:KTy):Prop:=ov (exV a 0) fun g=>ov (exV a 1) fun h=>seqM (fun i=>qmGZ h b c d g i x0 x1 x2 e f a) (fun m j k=>(retM P [.tmp 6,.tmp 7] K) .ret m (puts j [(37,(j 8)),(6,(j 8)),(7,(Value.int IntKind.i64 0))]) k) (retM P [.tmp 6,.tmp 7] K)
def qmIZ (a:Value)(b:Heap)(c x0 x1 x2:Value)(K:KTy):Prop:=ov (faV (some 0) a) fun d=>ov (ldV (some none) d b) fun e=>callM P qfuZ #[c,e] b fun f g=>qmHZ f a g c x0 x1 x2 d e K
def qlAZ (x0 x1 x2:Value)(h:Heap)(K:KTy):Prop:=nwM (some x1.cells) qbZ h fun a b=>callM P qnZ #[x0] b fun c d=>qmIZ a d c x0 x1 x2 K
theorem qobZ {x0 x1 x2:Value}{h:Heap}(hd:qlAZ x0 x1 x2 h K):callM P qkwZ #[x0,x1,x2] h K :=
 call_of good mixed (fn:=Tryz.f279) (args:=[x0,x1,x2]) Tryz.func279 rfl (by kernel_rfl) (of_decide_eq_true rfl) (B:=qlAZ x0 x1 x2 h K) (by kernel_rfl) hd
def qlQZ (a b c:Value)(d:Heap)(K:KTy):Prop:=ov (iaV (some (none,4)) a b) fun e=>ov (faV (some 3) e) fun f=>stM (some 1) f c d fun g=>K (.tuple #[a,(Value.int IntKind.i64 0)]) g
def qlRZ (a b:Value)(c:Heap)(x2:Value)(K:KTy):Prop:=ov (iaV (some (none,4)) a b) fun d=>ov (faV (some 3) d) fun e=>ov (ldV (some none) e c) fun f=>vvM P (Builtin.max_ #[qXZ,qXZ] qXZ #[f,x2]) c fun g h=>qlQZ a b g h K
def qlSZ (a:Value)(K:KTy)(b:Value)(c:Heap)(x2:Value):Prop:=ov (exV a 0) fun d=>ov (exV a 1) fun e=>ov (unV UnOp.not e) fun f=>cdM f (K (.tuple #[b,(Value.int IntKind.i64 3)]) c) (qlRZ b d c x2 K)
def qlTZ (a x1:Value)(b:Heap)(K:KTy)(x2:Value):Prop:=callM P qfuZ #[a,x1] b fun c d=>qlSZ c K a d x2
def qkCZ (x0 x1 x2:Value)(h:Heap)(K:KTy):Prop:=callM P qnZ #[x0] h fun a b=>qlTZ a x1 b K x2
theorem qnUZ {x0 x1 x2:Value}{h:Heap}(hd:qkCZ x0 x1 x2 h K):callM P qjKZ #[x0,x1,x2] h K :=
 call_of good mixed (fn:=Tryz.f280) (args:=[x0,x1,x2]) Tryz.func280 rfl (by kernel_rfl) (of_decide_eq_true rfl) (B:=qkCZ x0 x1 x2 h K) (by kernel_rfl) hd
def qljZ (a b:Value)(c:Heap)(K:KTy):Prop:=ov (binV BinOp.add 2 true a (Value.int IntKind.i64 1)) fun d=>callM P qSZ #[b,a,d] c fun e f=>K (.tuple #[e,(Value.int IntKind.i64 0)]) f
def qlkZ (a:Value)(K:KTy)(b:Value)(c:Heap):Prop:=ov (exV a 0) fun d=>ov (exV a 1) fun e=>ov (unV UnOp.not e) fun f=>cdM f (K (.tuple #[b,(Value.int IntKind.i64 3)]) c) (qljZ d b c K)
def qllZ (a x1:Value)(b:Heap)(K:KTy):Prop:=callM P qfuZ #[a,x1] b fun c d=>qlkZ c K a d
def qjUZ (x0 x1:Value)(h:Heap)(K:KTy):Prop:=callM P qnZ #[x0] h fun a b=>qllZ a x1 b K
theorem qnPZ {x0 x1:Value}{h:Heap}(hd:qjUZ x0 x1 h K):callM P qjsZ #[x0,x1] h K :=
 call_of good mixed (fn:=Tryz.f281) (args:=[x0,x1]) Tryz.func281 rfl (by kernel_rfl) (of_decide_eq_true rfl) (B:=qjUZ x0 x1 h K) (by kernel_rfl) hd
def qbEZ (x0 x1:Value)(h:Heap)(K:KTy):Prop:=nwM (some x0.cells) qfjZ h fun a b=>ov (faV (some 0) a) fun c=>ov (ldV (some none) c b) fun d=>callM P qzZ #[d,x1] b fun e f=>ov (exV e 0) fun g=>ov (exV e 1) fun i=>K (.tuple #[g,i]) f
theorem qhVZ {x0 x1:Value}{h:Heap}(hd:qbEZ x0 x1 h K):callM P qblZ #[x0,x1] h K :=
 call_of good mixed (fn:=Tryz.f290) (args:=[x0,x1]) Tryz.func290 rfl (by kernel_rfl) (of_decide_eq_true rfl) (B:=qbEZ x0 x1 h K) (by kernel_rfl) hd
def qfgZ (x0:Value)(h:Heap)(K:KTy):Prop:=nwM (some x0.cells) qiZ h fun a b=>ov (faV (some 0) a) fun c=>ov (ldV (some none) c b) fun d=>ov (binV BinOp.sub 2 true d (Value.int IntKind.i64 1)) fun e=>K e b
theorem qmbZ {x0:Value}{h:Heap}(hd:qfgZ x0 h K):callM P qevZ #[x0] h K :=
 call_of good mixed (fn:=Tryz.f291) (args:=[x0]) Tryz.func291 rfl (by kernel_rfl) (of_decide_eq_true rfl) (B:=qfgZ x0 h K) (by kernel_rfl) hd
def qgcZ (x0:Value)(h:Heap)(K:KTy):Prop:=nwM (some x0.cells) qvZ h fun a b=>ov (faV (some 0) a) fun c=>ov (ldV (some none) c b) fun d=>ov (faV (some 1) a) fun e=>ov (ldV (some none) e b) fun f=>ov (binV BinOp.geq 2 false d f) fun g=>K g b
theorem qmWZ {x0:Value}{h:Heap}(hd:qgcZ x0 h K):callM P qftZ #[x0] h K :=
 call_of good mixed (fn:=Tryz.f292) (args:=[x0]) Tryz.func292 rfl (by kernel_rfl) (of_decide_eq_true rfl) (B:=qgcZ x0 h K) (by kernel_rfl) hd
def qbVZ (a:Value)(b:Post)(m:List Nat)(c:Env)(d e f g h i j:Value)(k:Heap):Prop:=ov (binV BinOp.add 2 true a (Value.int IntKind.i64 1)) fun l=>b .normal m (puts c [(13,(c 7)),(14,(c 8)),(15,d),(16,(c 7)),(17,(c 8)),(18,e),(19,f),(20,g),(21,a),(9,a),(22,(c 0)),(23,a),(24,h),(25,i),(26,(c 1)),(27,j),(28,a),(29,l),(7,l)]) k
def qbWZ (a:Post)(m:List Nat)(b:Env)(c d e f g h i j:Value)(k:Heap):Prop:=a .normal m (puts b [(13,(b 7)),(14,(b 8)),(15,c),(16,(b 7)),(17,(b 8)),(18,d),(19,e),(20,f),(21,g),(9,g),(22,(b 0)),(23,g),(24,h),(25,i),(26,(b 1)),(27,j),(30,g),(8,g)]) k
def qbXZ (a b:Value)(c:Post)(m:List Nat)(d:Env)(e f g h i j:Value)(k:Heap):Prop:=cdM a (qbVZ b c m d e f g h i j a k) (qbWZ c m d e f g h b i j a k)
def qbYZ (a:Env)(b:Heap)(c:Post)(m:List Nat)(d:Value):Prop:=ov (binV BinOp.add 2 false (a 7) (a 8)) fun e=>ov (cvV (some .u64) e) fun f=>ov (binV BinOp.shr 2 true f (Value.int IntKind.u64 1)) fun g=>ov (cvV (some .i64) g) fun h=>ov (iaV (some (none,1)) (a 0) h) fun i=>ov (ldV (some none) i b) fun j=>callM P qfvZ #[j,(a 1)] b fun k l=>qbXZ k h c m a d e f g i j l
def qbZZ (a:Env)(b:Heap)(c:Post)(m:List Nat):Prop:=ov (binV BinOp.lss 2 false (a 7) (a 8)) fun d=>cdM d (qbYZ a b c m d) (c (.exit 0) m (puts a [(13,(a 7)),(14,(a 8)),(15,d)]) b)
def qcaZ (x0 x1 a:Value)(h:Heap)(b:Post):Prop:=loopM (fun m c d e=>qbZZ c d e m) [] (puts (envOf [x0,x1]) [(4,(Value.int IntKind.i64 0)),(5,(Value.bool false)),(10,x0),(11,a),(6,a),(12,a),(7,(Value.int IntKind.i64 0)),(8,a)]) h (blkM 0 b)
def qcbZ (a:Env)(b:Heap)(K:KTy)(m:List Nat):Prop:=ov (binV BinOp.lss 2 false (a 7) (a 6)) fun c=>gM (isB c true) (fun d=>d (a 0) b) b fun e f=>gM (isB c true) (fun g=>g (a 7) f) f fun h i=>gM (isB c true) (fun j=>ov (iaV (some (none,1)) e h) fun k=>j k i) i fun l n=>gM (isB c true) (fun o=>ov (ldV (some none) l n) fun p=>o p n) n fun q r=>gM (isB c true) (fun s=>s (a 1) r) r fun t u=>gM (isB c true) (fun v=>ov (binV BinOp.eql 3 false q t) fun w=>v w u) u fun x y=>gM (isB c true) (fun z=>z x y) y fun aa ab=>gM (isB aa false) (fun ac=>ac (a 0) ab) ab fun ad ae=>gM (isB aa false) (fun af=>af (a 7) ae) ae fun ag ah=>gM (isB aa false) (fun ai=>ov (iaV (some (none,1)) ad ag) fun aj=>ai aj ah) ah fun ak al=>gM (isB aa false) (fun am=>ov (ldV (some none) ak al) fun an=>am an al) al fun ao ap=>gM (isB aa false) (fun aq=>callM P qccZ #[ao] ap fun ar au=>aq ar au) ap fun av aw=>gM (isB aa false) (fun ax=>ax av aw) aw fun ay az=>gM (isB ay true) (fun ba=>ba (a 1) az) az fun bb bc=>gM (isB ay true) (fun bd=>callM P qccZ #[bb] bc fun be bf=>bd be bf) bc fun bg bh=>gM (isB aa false) (fun bi=>ov (pkV ay bg (Value.bool false)) fun bj=>bi bj bh) bh fun bk bl=>gM (isB c true) (fun bm=>ov (pkV aa (Value.bool true) bk) fun bn=>bm bn bl) bl fun bo bp=>ov (pkV c bo (Value.bool false)) fun bq=>(retM P [.tmp 4,.tmp 5] K) .ret m (puts a [(31,(a 7)),(32,(a 7)),(33,(a 6)),(34,c),(35,c),(36,e),(37,h),(38,l),(39,q),(40,t),(41,x),(42,aa),(43,ad),(44,ag),(45,ak),(46,ao),(47,av),(48,ay),(49,bb),(50,bg),(51,bk),(52,bo),(53,bq),(4,(a 7)),(5,bq)]) bp
def qavZ (x0 x1:Value)(h:Heap)(K:KTy):Prop:=ov (lnV 7 x0) fun a=>seqM (fun b=>qcaZ x0 x1 a h b) (fun m c d=>qcbZ c d K m) (retM P [.tmp 4,.tmp 5] K)
theorem qfNZ {x0 x1:Value}{h:Heap}(hd:qavZ x0 x1 h K):callM P qzZ #[x0,x1] h K :=
 call_of good mixed (fn:=Tryz.f298) (args:=[x0,x1]) Tryz.func298 rfl (by kernel_rfl) (of_decide_eq_true rfl) (B:=qavZ x0 x1 h K) (by kernel_rfl) hd
def qjVZ (a:Post)(m:List Nat)(b:Env)(c d e f g h i j k l n o p q:Value)(r:Heap):Prop:=a .ret m (puts b [(9,c),(10,d),(11,e),(5,f),(12,g),(13,h),(14,i),(15,j),(16,k),(17,k),(18,l),(19,n),(20,o),(21,p),(22,q)]) r
def qgPZ (a:Env)(b:Post)(m:List Nat)(c d e f g h i j k l n o p q:Value)(r:Heap):Prop:=ov (binV BinOp.add 2 true (a 8) (Value.int IntKind.i64 1)) fun s=>b .normal m (puts a [(9,c),(10,d),(11,e),(5,f),(12,g),(13,h),(14,i),(15,j),(16,k),(17,k),(18,l),(19,n),(20,o),(21,p),(22,q),(23,s),(8,s)]) r
def qjWZ (a:Value)(b:Env)(c:Heap)(e:Value)(f:Post)(m:List Nat)(g h i j k l:Value):Prop:=ov (unV UnOp.not a) fun n=>gM (isB n true) (fun o=>o (b 0) c) c fun p q=>gM (isB n true) (fun r=>ov (ldV (some (some 4)) e q) fun s=>r s q) q fun t u=>gM (isB n true) (fun v=>nxM P (do let d ← Deferred.ofValue p #[t] ; invoke d.target d.args) u fun w x=>v w x) u fun y z=>gM (isB n true) (fun aa=>ov (unV UnOp.not y) fun ab=>aa ab z) z fun ac ad=>ov (pkV n ac (Value.bool false)) fun ae=>cdM ae (qjVZ f m b g h i e j k l a n p t y ac ae ad) (qgPZ b f m g h i e j k l a n p t y ac ae ad)
def qjXZ (a:Env)(b:Heap)(c:Post)(m:List Nat)(d:Value):Prop:=ov (iaV (some (none,4)) (a 6) (a 8)) fun e=>ov (ldV (some (some 4)) e b) fun f=>nwM (zc P qbZ) qbZ b fun g h=>stM (some 4) g f h fun i=>ov (ldV (some none) (a 2) i) fun j=>ov (faV (some 3) g) fun k=>ov (ldV (some none) k i) fun l=>callM P qhmZ #[j,l] i fun n o=>qjWZ n a o g c m d e f j k l
def qjYZ (a:Env)(b:Heap)(c:Post)(m:List Nat):Prop:=ov (binV BinOp.lss 2 false (a 8) (a 7)) fun d=>cdM d (qjXZ a b c m d) (c (.exit 0) m (puts a [(9,d)]) b)
def qiQZ (x0 x1 x2:Value)(h:Heap)(K:KTy):Prop:=ov (ldV (some none) x1 h) fun a=>ov (lnV 7 a) fun b=>loopM (fun m c d e=>qjYZ c d e m) [] (puts (envOf [x0,x1,x2]) [(6,a),(7,b),(8,(Value.int IntKind.i64 0))]) h (blkM 0 (retM P [] K))
theorem qnxZ {x0 x1 x2:Value}{h:Heap}(hd:qiQZ x0 x1 x2 h K):callM P qhlZ #[x0,x1,x2] h K :=
 call_of good mixed (fn:=Tryz.f299) (args:=[x0,x1,x2]) Tryz.func299 rfl (by kernel_rfl) (of_decide_eq_true rfl) (B:=qiQZ x0 x1 x2 h K) (by kernel_rfl) hd
def qkDZ (x0 x1:Value)(h:Heap)(K:KTy):Prop:=ov (binV BinOp.leq 2 false x1 x0) fun a=>K a h
theorem qnVZ {x0 x1:Value}{h:Heap}(hd:qkDZ x0 x1 h K):callM P qhmZ #[x0,x1] h K :=
 call_of good mixed (fn:=Tryz.f300) (args:=[x0,x1]) Tryz.func300 rfl (by kernel_rfl) (of_decide_eq_true rfl) (B:=qkDZ x0 x1 h K) (by kernel_rfl) hd
def qbJZ (a b c:Value)(d:Heap)(K:KTy):Prop:=ov (bdV (binf P qaZ) [(0,a),(1,b)]) fun e=>stM (some 2) c e d fun f=>ov (ldV (some (some 2)) c f) fun g=>K g f
def qbKZ (a:Value)(b:Heap)(c d e f g h:Value)(K:KTy):Prop:=ldV (some none) a b=some c∧callM P qbmZ #[d,e,f] b fun i j=>ldV (some none) a j=some c∧callM P qcZ #[c] j fun k l=>callM P qaaZ #[k,e,g] l fun m n=>qbJZ i m h n K
def qbLZ (a:Value)(b:Heap)(c d:Value)(K:KTy):Prop:=ov (faV (some 0) a) fun e=>ov (ldV (some none) e b) fun f=>ov (binV BinOp.add 2 true c (Value.int IntKind.i64 1)) fun g=>ov (faV (some 1) a) fun h=>ov (ldV (some none) h b) fun i=>ov (binV BinOp.add 2 true c (Value.int IntKind.i64 1)) fun j=>callM P qpZ #[f] b fun k l=>qbKZ h l i k c g j d K
def qbMZ (a b:Value)(c:Heap)(d:Value)(K:KTy):Prop:=ov (exV a 0) fun e=>ov (exV a 1) fun f=>ov (unV UnOp.not f) fun g=>cdM g (ov (ldV (some (some 2)) b c) fun h=>stM (some 2) d h c fun i=>ov (ldV (some (some 2)) d i) fun j=>K j i) (qbLZ b c e d K)
def qanZ (x0 x1:Value)(h:Heap)(K:KTy):Prop:=nwM (some x0.cells) qaZ h fun a b=>nwM (zc P qaZ) qaZ b fun c d=>ov (ldV (some (some 2)) a d) fun e=>callM P qtZ #[e,x1] d fun f g=>qbMZ f a g c K
theorem qfHZ {x0 x1:Value}{h:Heap}(hd:qanZ x0 x1 h K):callM P qadZ #[x0,x1] h K :=
 call_of good mixed (fn:=Tryz.f301) (args:=[x0,x1]) Tryz.func301 rfl (by kernel_rfl) (of_decide_eq_true rfl) (B:=qanZ x0 x1 h K) (by kernel_rfl) hd
def qcLZ (a:Value)(b:Heap)(c d:Value)(e:Post)(x0 x1 x2 f g h i j k l m n:Value):Prop:=ldV (some none) a b=some c∧ov (bdV (binf P qaZ) [(0,c),(1,d)]) fun o=>nwM (zc P qaZ) qaZ b fun p q=>ldV (some none) a q=some c∧stM (some 2) p o q fun r=>e .normal [] (puts (envOf [x0,x1,x2]) [(3,f),(5,g),(6,h),(11,i),(12,x1),(13,j),(10,j),(14,k),(15,l),(7,k),(8,l),(16,l),(17,a),(18,c),(19,m),(20,n),(21,d),(22,o),(9,p)]) r
def qcMZ (a:Value)(b:Heap)(c d:Value)(e:Post)(x0 x1 x2 f g h i j k l m:Value):Prop:=callM P qcZ #[a] b fun n o=>qcLZ c o d n e x0 x1 x2 f g h i j k l m a
def qcNZ (a:Heap)(b c d e:Value)(f:Post)(x0 x1 x2 g h i j k l m:Value):Prop:=nwM (zc P qaZ) qaZ a fun n o=>ldV (some none) b o=some c∧ldV (some none) d o=some e∧callM P qcZ #[e] o fun p q=>ldV (some none) b q=some c∧ov (bdV (binf P qaZ) [(0,c),(1,p)]) fun r=>stM (some 2) n r q fun s=>f .normal [] (puts (envOf [x0,x1,x2]) [(3,g),(5,h),(6,i),(11,j),(12,x1),(13,k),(10,k),(14,l),(15,m),(7,l),(8,m),(16,m),(17,b),(18,c),(19,d),(20,e),(9,n),(21,p),(22,r)]) s
def qcOZ (a:Value)(b:Heap)(c:Post)(x0 x1 x2 d e f g h i:Value):Prop:=ov (faV (some 0) a) fun j=>ov (ldV (some none) j b) fun k=>ov (faV (some 1) a) fun l=>ov (ldV (some none) l b) fun m=>(qcMZ m b j k c x0 x1 x2 a d e f g h i l)∧(qcNZ b j k l m c x0 x1 x2 a d e f g h i)
def qawZ (a:Env)(b:Heap)(c:Post)(m:List Nat):Prop:=ov (faV (some 1) (a 9)) fun d=>ov (ldV (some none) d b) fun e=>ov (ldV (some (some 4)) (a 5) b) fun f=>ov (iaV (some (none,4)) e (a 7)) fun g=>stM (some 4) g f b fun h=>ov (ldV (some (some 2)) (a 9) h) fun i=>stM (some 2) (a 6) i h fun j=>c .ret m (puts a [(23,d),(24,e),(25,(a 7)),(26,f),(27,g),(28,i)]) j
def qcPZ (a:Value)(b:Heap)(x0 x1 x2 c d e f g h:Value)(i:Post):Prop:=seqM (fun j=>qcOZ a b j x0 x1 x2 c d e f g h) (fun m k l=>qawZ k l i m) i
def qcQZ (a:Post)(x0 x1 x2 b c d e f g h:Value)(i:Heap):Prop:=a .normal [] (puts (envOf [x0,x1,x2]) [(3,b),(5,c),(6,d),(11,e),(12,x1),(13,f),(10,f),(14,g),(15,h),(7,g),(8,h),(16,h)]) i
def qcRZ (a b:Value)(c:Heap)(x0 x1 x2 d e f g h:Value)(i:Post):Prop:=cdM a (qcPZ b c x0 x1 x2 d e f g h a i) (qcQZ i x0 x1 x2 b d e f g h a c)
def qcgZ (a b:Value)(c:Env)(d:Heap)(e:Post)(m:List Nat)(f g h i j k l n o:Value):Prop:=ov (bdV (binf P qaZ) [(0,a),(1,b)]) fun p=>stM (some 2) (c 6) p d fun q=>e .normal m (puts c [(29,f),(30,g),(32,(c 7)),(33,(c 1)),(36,h),(37,i),(39,(c 7)),(40,j),(31,k),(34,l),(35,a),(38,n),(41,o),(42,b),(43,p)]) q
def qchZ (a:Env)(b:Heap)(c d e:Value)(f:Post)(m:List Nat)(g h i j k l:Value):Prop:=ldV (some (some 4)) (a 5) b=some c∧bsM (bsI P qdZ) 1 [(0,c)] b fun n o=>callM P qfZ #[d,(a 7),n] o fun p q=>qcgZ e p a q f m g h i j c k l d n
def qciZ (a b:Value)(c:Env)(d:Heap)(e:Post)(m:List Nat)(f g h i j k l n o:Value):Prop:=ov (bdV (binf P qaZ) [(0,a),(1,b)]) fun p=>stM (some 2) (c 6) p d fun q=>e .normal m (puts c [(29,f),(30,g),(32,(c 7)),(33,(c 1)),(36,h),(37,i),(39,(c 7)),(40,j),(31,k),(34,l),(35,a),(41,n),(38,o),(42,b),(43,p)]) q
def qcjZ (a:Value)(b:Heap)(c:Value)(d:Env)(e f:Value)(g:Post)(m:List Nat)(h i j k:Value):Prop:=ldV (some none) a b=some c∧ldV (some (some 4)) (d 5) b=some e∧(callM P qcZ #[c] b fun l n=>qchZ d n e l f g m h i a c j k)∧(bsM (bsI P qdZ) 1 [(0,e)] b fun o p=>ldV (some none) a p=some c∧callM P qcZ #[c] p fun q r=>callM P qfZ #[q,(d 7),o] r fun s t=>qciZ f s d t g m h i a c e j k o q)
def qckZ (a b:Value)(c:Env)(d:Heap)(e:Post)(m:List Nat)(f g h i j k l n o:Value):Prop:=ov (bdV (binf P qaZ) [(0,a),(1,b)]) fun p=>stM (some 2) (c 6) p d fun q=>e .normal m (puts c [(29,f),(30,g),(32,(c 7)),(33,(c 1)),(36,h),(37,i),(39,(c 7)),(40,j),(31,k),(34,l),(41,n),(35,a),(38,o),(42,b),(43,p)]) q
def qclZ (a b:Value)(c:Env)(d:Heap)(e:Post)(m:List Nat)(f g h i j k l n o:Value):Prop:=ov (bdV (binf P qaZ) [(0,a),(1,b)]) fun p=>stM (some 2) (c 6) p d fun q=>e .normal m (puts c [(29,f),(30,g),(32,(c 7)),(33,(c 1)),(36,h),(37,i),(39,(c 7)),(40,j),(31,k),(41,l),(34,n),(35,a),(38,o),(42,b),(43,p)]) q
def qcmZ (a:Value)(b:Heap)(c:Value)(d:Env)(e f:Value)(g:Post)(m:List Nat)(h i:Value):Prop:=ldV (some none) a b=some c∧ldV (some (some 4)) (d 5) b=some e∧(bsM (bsI P qhZ) 1 [(0,(d 1))] b fun j k=>ldV (some none) a k=some c∧ldV (some (some 4)) (d 5) k=some e∧(callM P qjZ #[f,(d 7),j] k fun l n=>qcjZ a n c d e l g m h i f j)∧(bsM (bsI P qdZ) 1 [(0,e)] k fun o p=>ldV (some none) a p=some c∧callM P qjZ #[f,(d 7),j] p fun q r=>ldV (some none) a r=some c∧callM P qcZ #[c] r fun s t=>callM P qfZ #[s,(d 7),o] t fun u v=>qckZ q u d v g m h i a c e f j o s))∧(bsM (bsI P qdZ) 1 [(0,e)] b fun w x=>ldV (some none) a x=some c∧bsM (bsI P qhZ) 1 [(0,(d 1))] x fun y z=>ldV (some none) a z=some c∧callM P qjZ #[f,(d 7),y] z fun aa ab=>ldV (some none) a ab=some c∧callM P qcZ #[c] ab fun ac ad=>callM P qfZ #[ac,(d 7),w] ad fun ae af=>qclZ aa ae d af g m h i a c e f w y ac)
def qcnZ (a:Value)(b:Heap)(c d:Value)(e:Env)(f:Value)(g:Post)(m:List Nat)(h:Value):Prop:=callM P qpZ #[a] b fun i j=>qcmZ c j d e f i g m h a
def qcoZ (a b:Value)(c:Env)(d:Heap)(e:Post)(m:List Nat)(f g h i j k l n o:Value):Prop:=ov (bdV (binf P qaZ) [(0,a),(1,b)]) fun p=>stM (some 2) (c 6) p d fun q=>e .normal m (puts c [(29,f),(30,g),(32,(c 7)),(33,(c 1)),(36,h),(37,i),(39,(c 7)),(40,j),(34,k),(31,l),(35,a),(38,n),(41,o),(42,b),(43,p)]) q
def qcpZ (a:Env)(b:Heap)(c d e:Value)(f:Post)(m:List Nat)(g h i j k l:Value):Prop:=ldV (some (some 4)) (a 5) b=some c∧bsM (bsI P qdZ) 1 [(0,c)] b fun n o=>callM P qfZ #[d,(a 7),n] o fun p q=>qcoZ e p a q f m g h i j c k l d n
def qcqZ (a b:Value)(c:Env)(d:Heap)(e:Post)(m:List Nat)(f g h i j k l n o:Value):Prop:=ov (bdV (binf P qaZ) [(0,a),(1,b)]) fun p=>stM (some 2) (c 6) p d fun q=>e .normal m (puts c [(29,f),(30,g),(32,(c 7)),(33,(c 1)),(36,h),(37,i),(39,(c 7)),(40,j),(34,k),(31,l),(35,a),(41,n),(38,o),(42,b),(43,p)]) q
def qcrZ (a:Value)(b:Heap)(c:Value)(d:Env)(e f:Value)(g:Post)(m:List Nat)(h i j k:Value):Prop:=ldV (some none) a b=some c∧ldV (some (some 4)) (d 5) b=some e∧(callM P qcZ #[c] b fun l n=>qcpZ d n e l f g m h i a c j k)∧(bsM (bsI P qdZ) 1 [(0,e)] b fun o p=>ldV (some none) a p=some c∧callM P qcZ #[c] p fun q r=>callM P qfZ #[q,(d 7),o] r fun s t=>qcqZ f s d t g m h i a c e j k o q)
def qcsZ (a b:Value)(c:Env)(d:Heap)(e:Post)(m:List Nat)(f g h i j k l n o:Value):Prop:=ov (bdV (binf P qaZ) [(0,a),(1,b)]) fun p=>stM (some 2) (c 6) p d fun q=>e .normal m (puts c [(29,f),(30,g),(32,(c 7)),(33,(c 1)),(36,h),(37,i),(39,(c 7)),(40,j),(34,k),(31,l),(41,n),(35,a),(38,o),(42,b),(43,p)]) q
def qctZ (a:Value)(b:Heap)(c:Value)(d:Env)(e f g:Value)(h:Post)(m:List Nat)(i j:Value):Prop:=ldV (some none) a b=some c∧ldV (some (some 4)) (d 5) b=some e∧(callM P qjZ #[f,(d 7),g] b fun k l=>qcrZ a l c d e k h m i j g f)∧(bsM (bsI P qdZ) 1 [(0,e)] b fun n o=>ldV (some none) a o=some c∧callM P qjZ #[f,(d 7),g] o fun p q=>ldV (some none) a q=some c∧callM P qcZ #[c] q fun r s=>callM P qfZ #[r,(d 7),n] s fun t u=>qcsZ p t d u h m i j a c e g f n r)
def qcuZ (a b:Value)(c:Env)(d:Heap)(e:Post)(m:List Nat)(f g h i j k l n o:Value):Prop:=ov (bdV (binf P qaZ) [(0,a),(1,b)]) fun p=>stM (some 2) (c 6) p d fun q=>e .normal m (puts c [(29,f),(30,g),(32,(c 7)),(33,(c 1)),(36,h),(37,i),(39,(c 7)),(40,j),(34,k),(41,l),(31,n),(35,a),(38,o),(42,b),(43,p)]) q
def qcvZ (a:Env)(b:Heap)(c d e f g:Value)(h:Post)(m:List Nat):Prop:=bsM (bsI P qhZ) 1 [(0,(a 1))] b fun i j=>ldV (some none) c j=some d∧ldV (some none) e j=some f∧ldV (some (some 4)) (a 5) j=some g∧(callM P qpZ #[d] j fun k l=>qctZ e l f a g k i h m c d)∧(bsM (bsI P qdZ) 1 [(0,g)] j fun n o=>ldV (some none) c o=some d∧ldV (some none) e o=some f∧callM P qpZ #[d] o fun p q=>ldV (some none) e q=some f∧callM P qjZ #[p,(a 7),i] q fun r s=>ldV (some none) e s=some f∧callM P qcZ #[f] s fun t u=>callM P qfZ #[t,(a 7),n] u fun v w=>qcuZ r v a w h m c d e f g i n p t)
def qcwZ (a b:Value)(c:Env)(d:Heap)(e:Post)(m:List Nat)(f g h i j k l n o:Value):Prop:=ov (bdV (binf P qaZ) [(0,a),(1,b)]) fun p=>stM (some 2) (c 6) p d fun q=>e .normal m (puts c [(29,f),(30,g),(32,(c 7)),(33,(c 1)),(36,h),(37,i),(39,(c 7)),(40,j),(41,k),(31,l),(34,n),(35,a),(38,o),(42,b),(43,p)]) q
def qcxZ (a:Value)(b:Heap)(c:Value)(d:Env)(e f:Value)(g:Post)(m:List Nat)(h i j:Value):Prop:=ldV (some none) a b=some c∧bsM (bsI P qhZ) 1 [(0,(d 1))] b fun k l=>ldV (some none) a l=some c∧callM P qjZ #[e,(d 7),k] l fun n o=>ldV (some none) a o=some c∧callM P qcZ #[c] o fun p q=>callM P qfZ #[p,(d 7),f] q fun r s=>qcwZ n r d s g m h i a c j f e k p
def qcyZ (a b:Value)(c:Env)(d:Heap)(e:Post)(m:List Nat)(f g h i j k l n o:Value):Prop:=ov (bdV (binf P qaZ) [(0,a),(1,b)]) fun p=>stM (some 2) (c 6) p d fun q=>e .normal m (puts c [(29,f),(30,g),(32,(c 7)),(33,(c 1)),(36,h),(37,i),(39,(c 7)),(40,j),(41,k),(34,l),(31,n),(35,a),(38,o),(42,b),(43,p)]) q
def qczZ (a:Value)(b:Heap)(c d e f:Value)(g:Env)(h:Post)(m:List Nat):Prop:=bsM (bsI P qdZ) 1 [(0,a)] b fun i j=>ldV (some none) c j=some d∧ldV (some none) e j=some f∧(callM P qpZ #[d] j fun k l=>qcxZ e l f g k i h m c d a)∧(bsM (bsI P qhZ) 1 [(0,(g 1))] j fun n o=>ldV (some none) c o=some d∧ldV (some none) e o=some f∧callM P qpZ #[d] o fun p q=>ldV (some none) e q=some f∧callM P qjZ #[p,(g 7),n] q fun r s=>ldV (some none) e s=some f∧callM P qcZ #[f] s fun t u=>callM P qfZ #[t,(g 7),i] u fun v w=>qcyZ r v g w h m c d e f a i n p t)
def qaoZ (a:Env)(b:Heap)(c:Post)(m:List Nat):Prop:=ov (faV (some 0) (a 3)) fun d=>ov (ldV (some none) d b) fun e=>ov (faV (some 1) (a 3)) fun f=>ov (ldV (some none) f b) fun g=>ov (ldV (some (some 4)) (a 5) b) fun h=>(qcnZ e b f g a h c m d)∧(qcvZ a b d e f g h c m)∧(qczZ h b d e f g a c m)
def qapZ (a:Env)(b:Heap)(m:List Nat)(K:KTy):Prop:=seqM (fun c=>qaoZ a b c m) (fun m d e=>(retM P [.cell 6 70] K) .ret m d e) (retM P [.cell 6 70] K)
def qcSZ (a b:Value)(c:Heap)(x0 x1 x2 d e f:Value)(K:KTy):Prop:=ov (exV a 0) fun g=>ov (exV a 1) fun h=>seqM (fun i=>qcRZ h b c x0 x1 x2 d e f a g i) (fun m j k=>qapZ j k m K) (retM P [.cell 6 70] K)
def qaOZ (x0 x1 x2:Value)(h:Heap)(K:KTy):Prop:=nwM (some x0.cells) qaZ h fun a b=>nwM (some x2.cells) qgZ b fun c d=>nwM (zc P qaZ) qaZ d fun e f=>ov (ldV (some (some 2)) a f) fun g=>callM P qtZ #[g,x1] f fun i j=>qcSZ i a j x0 x1 x2 c e g K
theorem qgAZ {x0 x1 x2:Value}{h:Heap}(hd:qaOZ x0 x1 x2 h K):callM P qaBZ #[x0,x1,x2] h K :=
 call_of good mixed (fn:=Tryz.f302) (args:=[x0,x1,x2]) Tryz.func302 rfl (by kernel_rfl) (of_decide_eq_true rfl) (B:=qaOZ x0 x1 x2 h K) (by kernel_rfl) hd
def qaDZ (a:Value)(b:Heap)(c:Env)(d:Post)(m:List Nat)(e f g h i j k:Value):Prop:=ov (ldV (some (some 4)) a b) fun l=>ov (iaV (some (none,4)) (c 0) (c 5)) fun n=>stM (some 4) n l b fun o=>ov (binV BinOp.add 2 true (c 5) (Value.int IntKind.i64 1)) fun p=>d .normal m (puts c [(16,(c 6)),(17,(c 0)),(18,e),(19,f),(22,(c 0)),(23,(c 6)),(24,g),(25,h),(7,a),(26,(c 1)),(27,i),(28,j),(29,k),(30,(c 0)),(31,(c 5)),(32,l),(33,n),(34,(c 5)),(35,p),(5,p)]) o
def qaEZ (a:Post)(m:List Nat)(b:Env)(c d e f g h i j:Value)(k:Heap):Prop:=a .normal m (puts b [(16,(b 6)),(17,(b 0)),(18,c),(19,d),(22,(b 0)),(23,(b 6)),(24,e),(25,f),(7,g),(26,(b 1)),(27,h),(28,i),(29,j)]) k
def qaFZ (a b:Value)(c:Heap)(d:Env)(e:Post)(m:List Nat)(f g h i j:Value):Prop:=ov (unV UnOp.not a) fun k=>cdM k (qaDZ b c d e m f g h i j a k) (qaEZ e m d f g h i b j a k c)
def qaGZ (a:Env)(b:Heap)(c:Post)(m:List Nat)(e f:Value):Prop:=ov (iaV (some (none,4)) (a 0) (a 6)) fun g=>ov (ldV (some (some 4)) g b) fun h=>nwM (zc P qbZ) qbZ b fun i j=>stM (some 4) i h j fun k=>ov (ldV (some (some 4)) i k) fun l=>nxM P (do let d ← Deferred.ofValue (a 1) #[l] ; invoke d.target d.args) k fun n o=>qaFZ n i o a c m e f g h l
def qaHZ (a:Env)(b:Heap)(m:List Nat)(c d:Value)(e:Post):Prop:=seqM (fun f=>qaGZ a b f m c d) (fun m g h=>ov (binV BinOp.add 2 true (g 6) (Value.int IntKind.i64 1)) fun i=>e .normal m (puts g [(20,(g 6)),(21,i),(6,i)]) h) e
def qaIZ (a:Env)(b:Heap)(m:List Nat)(c:Post):Prop:=ov (lnV 7 (a 0)) fun d=>ov (binV BinOp.lss 2 false (a 6) d) fun e=>cdM e (qaHZ a b m d e c) (c (.exit 0) m (puts a [(16,(a 6)),(17,(a 0)),(18,d),(19,e)]) b)
def qaJZ (a x0 x1 b:Value)(c:Heap)(d:Post):Prop:=ov (binV BinOp.add 2 true a (Value.int IntKind.i64 1)) fun e=>loopM (fun m f g h=>qaIZ f g m h) [] (puts (envOf [x0,x1]) [(4,(Value.slice none 0 0)),(8,x0),(9,x1),(10,a),(5,a),(11,a),(12,b),(14,a),(15,e),(6,e)]) c (blkM 0 d)
def qayZ (a:Env)(K:KTy)(m:List Nat)(b:Value)(c:Heap):Prop:=ov (slV (some (none,4)) (a 0) none (some (a 5))) fun d=>(retM P [.tmp 4] K) .ret m (puts a [(36,(a 0)),(37,(a 5)),(38,b),(39,(a 0)),(40,(a 5)),(41,d),(4,d)]) c
def qazZ (a:Env)(b:Heap)(K:KTy)(m:List Nat):Prop:=ov (slV (some (none,4)) (a 0) (some (a 5)) none) fun c=>vvM P (Builtin.clear_ #[qeZ] qmKZ #[c]) b fun d e=>qayZ a K m c e
def qaKZ (a x0 x1 b:Value)(c:Heap)(K:KTy):Prop:=seqM (fun d=>qaJZ a x0 x1 b c d) (fun m e f=>qazZ e f K m) (retM P [.tmp 4] K)
def qaLZ (a:Value)(K:KTy)(x0:Value)(b:Heap)(x1:Value):Prop:=ov (binV BinOp.eql 2 true a (Value.int IntKind.i64 (-1))) fun c=>cdM c (K x0 b) (qaKZ a x0 x1 c b K)
def qEZ (x0 x1:Value)(h:Heap)(K:KTy):Prop:=callM P qDZ #[x0,x1] h fun a b=>qaLZ a K x0 b x1
theorem qdGZ {x0 x1:Value}{h:Heap}(hd:qEZ x0 x1 h K):callM P qCZ #[x0,x1] h K :=
 call_of good mixed (fn:=Tryz.f303) (args:=[x0,x1]) Tryz.func303 rfl (by kernel_rfl) (of_decide_eq_true rfl) (B:=qEZ x0 x1 h K) (by kernel_rfl) hd
end Go.Proofs.YtcnphhhcknhhaaaGreat
namespace Go.Proofs.YtcnphhhcknhhaaaGreat
open Go Go.Den
set_option maxRecDepth 100000
set_option linter.unusedVariables false
def qbnZ (h:Heap)(x0:Value)(K:KTy):Prop:=bsM (bsI P qeZ) 0 [] h fun a b=>vvM P (Builtin.append_ #[qeZ,qeZ] qeZ #[a,x0]) b fun c d=>K c d
def qabZ (x0:Value)(h:Heap)(K:KTy):Prop:=ov (binV BinOp.eql 7 true x0 (Value.slice none 0 0)) fun a=>cdM a (K (Value.slice none 0 0) h) (qbnZ h x0 K)
variable {K:KTy}
theorem qfhZ {x0:Value}{h:Heap}(hd:qabZ x0 h K):callM P qnZ #[x0] h K :=
 call_of good mixed (fn:=Tryz.f304) (args:=[x0]) Tryz.func304 rfl (by kernel_rfl) (of_decide_eq_true rfl) (B:=qabZ x0 h K) (by kernel_rfl) hd
def qhTZ (x0 x1:Value)(h:Heap)(K:KTy):Prop:=nwM (some x0.cells) qbZ h fun a b=>ov (ldV (some none) x1 b) fun c=>ov (faV (some 3) a) fun d=>ov (ldV (some none) d b) fun e=>callM P qhmZ #[c,e] b fun f g=>K f g
theorem qnsZ {x0 x1:Value}{h:Heap}(hd:qhTZ x0 x1 h K):callM P qalZ #[x0,x1] h K :=
 call_of good mixed (fn:=Tryz.f305) (args:=[x0,x1]) Tryz.func305 rfl (by kernel_rfl) (of_decide_eq_true rfl) (B:=qhTZ x0 x1 h K) (by kernel_rfl) hd
def qdjZ (a b:Value)(c:Heap)(K:KTy):Prop:=ov (lnV 7 a) fun d=>ov (slV (some (none,1)) a (some d) (some b)) fun e=>vvM P (Builtin.clear_ #[qhZ] qmKZ #[e]) c fun f g=>K a g
def qdkZ (x0 x1 x2:Value)(h:Heap)(K:KTy):Prop:=ov (lnV 7 x0) fun a=>ov (slV (some (none,1)) x0 none (some x1)) fun b=>ov (slV (some (none,1)) x0 (some x2) none) fun c=>vvM P (Builtin.append_ #[qhZ,qhZ] qhZ #[b,c]) h fun d e=>qdjZ d a e K
def qbFZ (x0 x1 x2:Value)(h:Heap)(K:KTy):Prop:=ov (lnV 7 x0) fun a=>ov (sl3V (some (none,1)) x0 (some x1) x2 a) fun b=>ov (binV BinOp.eql 2 false x1 x2) fun c=>cdM c (K x0 h) (qdkZ x0 x1 x2 h K)
theorem qhWZ {x0 x1 x2:Value}{h:Heap}(hd:qbFZ x0 x1 x2 h K):callM P qbmZ #[x0,x1,x2] h K :=
 call_of good mixed (fn:=Tryz.f306) (args:=[x0,x1,x2]) Tryz.func306 rfl (by kernel_rfl) (of_decide_eq_true rfl) (B:=qbFZ x0 x1 x2 h K) (by kernel_rfl) hd
def qbQZ (x0:Value)(h:Heap)(K:KTy):Prop:=ov (binV BinOp.eql 7 true x0 (Value.slice none 0 0)) fun a=>cdM a (K (Value.slice none 0 0) h) (bsM (bsI P qhZ) 0 [] h fun b c=>vvM P (Builtin.append_ #[qhZ,qhZ] qhZ #[b,x0]) c fun d e=>K d e)
theorem qiRZ {x0:Value}{h:Heap}(hd:qbQZ x0 h K):callM P qpZ #[x0] h K :=
 call_of good mixed (fn:=Tryz.f307) (args:=[x0]) Tryz.func307 rfl (by kernel_rfl) (of_decide_eq_true rfl) (B:=qbQZ x0 h K) (by kernel_rfl) hd
def qdlZ (x1 a b x0:Value)(c:Heap)(K:KTy):Prop:=ov (binV BinOp.add 2 false x1 a) fun d=>ov (slV (some (none,1)) b (some d) none) fun e=>ov (slV (some (none,1)) x0 (some x1) none) fun f=>vvM P (Builtin.copy_ #[qhZ,qhZ] qmZ #[e,f]) c fun g h=>K b h
def qdmZ (a x1 x2:Value)(b:Heap)(c x0:Value)(K:KTy):Prop:=ov (slV (some (none,1)) a (some x1) none) fun d=>vvM P (Builtin.copy_ #[qhZ,qhZ] qmZ #[d,x2]) b fun e f=>qdlZ x1 c a x0 f K
def qdnZ (x0 x1 a b:Value)(c:Heap)(x2:Value)(K:KTy):Prop:=ov (slV (some (none,1)) x0 none (some x1)) fun d=>ov (binV BinOp.add 2 false a b) fun e=>ov (binV BinOp.sub 2 false e x1) fun f=>vvM P (Builtin.append_ #[qhZ,qmZ] qhZ #[d,f]) c fun g h=>qdmZ g x1 x2 h b x0 K
def qdoZ (x1 a b:Value)(c:Heap)(x2:Value)(K:KTy):Prop:=ov (binV BinOp.add 2 false x1 a) fun d=>ov (slV (some (none,1)) b (some d) none) fun e=>ov (slV (some (none,1)) b (some x1) none) fun f=>vvM P (Builtin.copy_ #[qhZ,qhZ] qmZ #[e,f]) c fun g h=>ov (slV (some (none,1)) b (some x1) none) fun i=>vvM P (Builtin.copy_ #[qhZ,qhZ] qmZ #[i,x2]) h fun j k=>K b k
def qdfZ (a b x2:Value)(c:Heap)(x1 d:Value)(K:KTy):Prop:=ov (slV (some (none,1)) a (some b) none) fun e=>vvM P (Builtin.copy_ #[qhZ,qhZ] qmZ #[e,x2]) c fun f g=>ov (slV (some (none,1)) a (some x1) none) fun h=>callM P qiLZ #[h,d] g fun i j=>K a j
def qdpZ (a x1 b c:Value)(d:Heap)(x2:Value)(K:KTy)(e:Value):Prop:=ov (unV UnOp.not a) fun f=>cdM f (qdoZ x1 b c d x2 K) (qdfZ c e x2 d x1 b K)
def qdqZ (a b x0 x1 x2:Value)(c:Heap)(K:KTy):Prop:=ov (binV BinOp.add 2 false a b) fun d=>ov (slV (some (none,1)) x0 none (some d)) fun e=>ov (binV BinOp.add 2 false x1 b) fun f=>ov (slV (some (none,1)) e (some f) none) fun g=>nxM P (callFunc qfiZ #[x2,g]) c fun h i=>qdpZ h x1 b e i x2 K a
def qdrZ (a b x0 x1 c d:Value)(e:Heap)(x2:Value)(K:KTy):Prop:=ov (binV BinOp.gtr 2 false a b) fun f=>cdM f (qdnZ x0 x1 c d e x2 K) (qdqZ c d x0 x1 x2 e K)
def qdsZ (a b x0:Value)(h:Heap)(x1 x2:Value)(K:KTy):Prop:=ov (binV BinOp.add 2 false a b) fun c=>vvM P (Builtin.cap_ #[qhZ] qmZ #[x0]) h fun d e=>qdrZ c d x0 x1 a b e x2 K
def qdtZ (x0 x1 x2:Value)(h:Heap)(K:KTy)(a:Value):Prop:=ov (lnV 7 x0) fun b=>ov (binV BinOp.eql 2 false x1 b) fun c=>cdM c (vvM P (Builtin.append_ #[qhZ,qhZ] qhZ #[x0,x2]) h fun d e=>K d e) (qdsZ b a x0 h x1 x2 K)
def qbGZ (x0 x1 x2:Value)(h:Heap)(K:KTy):Prop:=ov (slV (some (none,1)) x0 (some x1) none) fun a=>ov (lnV 7 x2) fun b=>ov (binV BinOp.eql 2 true b (Value.int IntKind.i64 0)) fun c=>cdM c (K x0 h) (qdtZ x0 x1 x2 h K b)
theorem qhXZ {x0 x1 x2:Value}{h:Heap}(hd:qbGZ x0 x1 x2 h K):callM P qjZ #[x0,x1,x2] h K :=
 call_of good mixed (fn:=Tryz.f310) (args:=[x0,x1,x2]) Tryz.func310 rfl (by kernel_rfl) (of_decide_eq_true rfl) (B:=qbGZ x0 x1 x2 h K) (by kernel_rfl) hd
def qkEZ (x0 x1:Value)(h:Heap)(K:KTy):Prop:=callM P qPZ #[x0,x1,(.func (.func qdzZ) #[] #[])] h fun a b=>ov (exV a 0) fun c=>ov (exV a 1) fun d=>K (.tuple #[c,d]) b
theorem qnWZ {x0 x1:Value}{h:Heap}(hd:qkEZ x0 x1 h K):callM P qfuZ #[x0,x1] h K :=
 call_of good mixed (fn:=Tryz.f312) (args:=[x0,x1]) Tryz.func312 rfl (by kernel_rfl) (of_decide_eq_true rfl) (B:=qkEZ x0 x1 h K) (by kernel_rfl) hd
def qbaZ (x1 a b x0:Value)(c:Heap)(K:KTy):Prop:=ov (binV BinOp.add 2 false x1 a) fun d=>ov (slV (some (none,4)) b (some d) none) fun e=>ov (slV (some (none,4)) x0 (some x1) none) fun f=>vvM P (Builtin.copy_ #[qeZ,qeZ] qmZ #[e,f]) c fun g h=>K b h
def qbbZ (a x1 x2:Value)(b:Heap)(c x0:Value)(K:KTy):Prop:=ov (slV (some (none,4)) a (some x1) none) fun d=>vvM P (Builtin.copy_ #[qeZ,qeZ] qmZ #[d,x2]) b fun e f=>qbaZ x1 c a x0 f K
def qbcZ (x0 x1 a b:Value)(c:Heap)(x2:Value)(K:KTy):Prop:=ov (slV (some (none,4)) x0 none (some x1)) fun d=>ov (binV BinOp.add 2 false a b) fun e=>ov (binV BinOp.sub 2 false e x1) fun f=>vvM P (Builtin.append_ #[qeZ,qmZ] qeZ #[d,f]) c fun g h=>qbbZ g x1 x2 h b x0 K
def qaZZ (a x1 x2:Value)(b:Heap)(K:KTy):Prop:=ov (slV (some (none,4)) a (some x1) none) fun c=>vvM P (Builtin.copy_ #[qeZ,qeZ] qmZ #[c,x2]) b fun d e=>K a e
def qbdZ (x1 a b:Value)(c:Heap)(x2:Value)(K:KTy):Prop:=ov (binV BinOp.add 2 false x1 a) fun d=>ov (slV (some (none,4)) b (some d) none) fun e=>ov (slV (some (none,4)) b (some x1) none) fun f=>vvM P (Builtin.copy_ #[qeZ,qeZ] qmZ #[e,f]) c fun g h=>qaZZ b x1 x2 h K
def qdNZ (a b x2:Value)(c:Heap)(x1 d:Value)(K:KTy):Prop:=ov (slV (some (none,4)) a (some b) none) fun e=>vvM P (Builtin.copy_ #[qeZ,qeZ] qmZ #[e,x2]) c fun f g=>ov (slV (some (none,4)) a (some x1) none) fun h=>callM P qgfZ #[h,d] g fun i j=>K a j
def qbeZ (a x1 b c:Value)(d:Heap)(x2:Value)(K:KTy)(e:Value):Prop:=ov (unV UnOp.not a) fun f=>cdM f (qbdZ x1 b c d x2 K) (qdNZ c e x2 d x1 b K)
def qbfZ (a b x0 x1 x2:Value)(c:Heap)(K:KTy):Prop:=ov (binV BinOp.add 2 false a b) fun d=>ov (slV (some (none,4)) x0 none (some d)) fun e=>ov (binV BinOp.add 2 false x1 b) fun f=>ov (slV (some (none,4)) e (some f) none) fun g=>nxM P (callFunc qdAZ #[x2,g]) c fun h i=>qbeZ h x1 b e i x2 K a
def qbgZ (a b x0 x1 c d:Value)(e:Heap)(x2:Value)(K:KTy):Prop:=ov (binV BinOp.gtr 2 false a b) fun f=>cdM f (qbcZ x0 x1 c d e x2 K) (qbfZ c d x0 x1 x2 e K)
def qbhZ (a b x0:Value)(h:Heap)(x1 x2:Value)(K:KTy):Prop:=ov (binV BinOp.add 2 false a b) fun c=>vvM P (Builtin.cap_ #[qeZ] qmZ #[x0]) h fun d e=>qbgZ c d x0 x1 a b e x2 K
def qbiZ (x0 x1 x2:Value)(h:Heap)(K:KTy)(a:Value):Prop:=ov (lnV 7 x0) fun b=>ov (binV BinOp.eql 2 false x1 b) fun c=>cdM c (vvM P (Builtin.append_ #[qeZ,qeZ] qeZ #[x0,x2]) h fun d e=>K d e) (qbhZ b a x0 h x1 x2 K)
def qUZ (x0 x1 x2:Value)(h:Heap)(K:KTy):Prop:=ov (slV (some (none,4)) x0 (some x1) none) fun a=>ov (lnV 7 x2) fun b=>ov (binV BinOp.eql 2 true b (Value.int IntKind.i64 0)) fun c=>cdM c (K x0 h) (qbiZ x0 x1 x2 h K b)
theorem qeGZ {x0 x1 x2:Value}{h:Heap}(hd:qUZ x0 x1 x2 h K):callM P qRZ #[x0,x1,x2] h K :=
 call_of good mixed (fn:=Tryz.f313) (args:=[x0,x1,x2]) Tryz.func313 rfl (by kernel_rfl) (of_decide_eq_true rfl) (B:=qUZ x0 x1 x2 h K) (by kernel_rfl) hd
def qbjZ (a b:Value)(c:Heap)(K:KTy):Prop:=ov (lnV 7 a) fun d=>ov (slV (some (none,4)) a (some d) (some b)) fun e=>vvM P (Builtin.clear_ #[qeZ] qmKZ #[e]) c fun f g=>K a g
def qbkZ (x0 x1 x2:Value)(h:Heap)(K:KTy):Prop:=ov (lnV 7 x0) fun a=>ov (slV (some (none,4)) x0 none (some x1)) fun b=>ov (slV (some (none,4)) x0 (some x2) none) fun c=>vvM P (Builtin.append_ #[qeZ,qeZ] qeZ #[b,c]) h fun d e=>qbjZ d a e K
def qVZ (x0 x1 x2:Value)(h:Heap)(K:KTy):Prop:=ov (lnV 7 x0) fun a=>ov (sl3V (some (none,4)) x0 (some x1) x2 a) fun b=>ov (binV BinOp.eql 2 false x1 x2) fun c=>cdM c (K x0 h) (qbkZ x0 x1 x2 h K)
theorem qeHZ {x0 x1 x2:Value}{h:Heap}(hd:qVZ x0 x1 x2 h K):callM P qSZ #[x0,x1,x2] h K :=
 call_of good mixed (fn:=Tryz.f314) (args:=[x0,x1,x2]) Tryz.func314 rfl (by kernel_rfl) (of_decide_eq_true rfl) (B:=qVZ x0 x1 x2 h K) (by kernel_rfl) hd
def qiCZ (a x1:Value)(b:Heap)(x0:Value)(K:KTy):Prop:=gM (isB a true) (fun c=>c x1 b) b fun d e=>gM (isB a true) (fun f=>callM P qdiZ #[d] e fun g h=>f g h) e fun i j=>gM (isB a true) (fun k=>ov (unV UnOp.not i) fun l=>k l j) j fun m n=>ov (pkV a m (Value.bool false)) fun o=>gM (isB o false) (fun p=>p x0 n) n fun q r=>gM (isB o false) (fun s=>s x1 r) r fun t u=>gM (isB o false) (fun v=>ov (binV BinOp.lss 3 false q t) fun w=>v w u) u fun x y=>ov (pkV o (Value.bool true) x) fun z=>K z y
def qgdZ (x0 x1:Value)(h:Heap)(K:KTy):Prop:=callM P qdiZ #[x0] h fun a b=>qiCZ a x1 b x0 K
theorem qmXZ {x0 x1:Value}{h:Heap}(hd:qgdZ x0 x1 h K):callM P qfvZ #[x0,x1] h K :=
 call_of good mixed (fn:=Tryz.f316) (args:=[x0,x1]) Tryz.func316 rfl (by kernel_rfl) (of_decide_eq_true rfl) (B:=qgdZ x0 x1 h K) (by kernel_rfl) hd
def qdOZ (x0:Value)(h:Heap)(K:KTy):Prop:=ov (binV BinOp.neq 3 false x0 x0) fun a=>K a h
theorem qlmZ {x0:Value}{h:Heap}(hd:qdOZ x0 h K):callM P qccZ #[x0] h K :=
 call_of good mixed (fn:=Tryz.f317) (args:=[x0]) Tryz.func317 rfl (by kernel_rfl) (of_decide_eq_true rfl) (B:=qdOZ x0 h K) (by kernel_rfl) hd
def qbsZ (a b:Value)(c:Heap)(K:KTy):Prop:=ov (lnV 7 a) fun d=>ov (slV (some (none,4)) a (some d) (some b)) fun e=>vvM P (Builtin.clear_ #[qdZ] qmKZ #[e]) c fun f g=>K a g
def qbtZ (x0 x1 x2:Value)(h:Heap)(K:KTy):Prop:=ov (lnV 7 x0) fun a=>ov (slV (some (none,4)) x0 none (some x1)) fun b=>ov (slV (some (none,4)) x0 (some x2) none) fun c=>vvM P (Builtin.append_ #[qdZ,qdZ] qdZ #[b,c]) h fun d e=>qbsZ d a e K
def qafZ (x0 x1 x2:Value)(h:Heap)(K:KTy):Prop:=ov (lnV 7 x0) fun a=>ov (sl3V (some (none,4)) x0 (some x1) x2 a) fun b=>ov (binV BinOp.eql 2 false x1 x2) fun c=>cdM c (K x0 h) (qbtZ x0 x1 x2 h K)
theorem qfkZ {x0 x1 x2:Value}{h:Heap}(hd:qafZ x0 x1 x2 h K):callM P qaaZ #[x0,x1,x2] h K :=
 call_of good mixed (fn:=Tryz.f318) (args:=[x0,x1,x2]) Tryz.func318 rfl (by kernel_rfl) (of_decide_eq_true rfl) (B:=qafZ x0 x1 x2 h K) (by kernel_rfl) hd
def qbNZ (h:Heap)(x0:Value)(K:KTy):Prop:=bsM (bsI P qdZ) 0 [] h fun a b=>vvM P (Builtin.append_ #[qdZ,qdZ] qdZ #[a,x0]) b fun c d=>K c d
def qaqZ (x0:Value)(h:Heap)(K:KTy):Prop:=ov (binV BinOp.eql 7 true x0 (Value.slice none 0 0)) fun a=>cdM a (K (Value.slice none 0 0) h) (qbNZ h x0 K)
theorem qfIZ {x0:Value}{h:Heap}(hd:qaqZ x0 h K):callM P qcZ #[x0] h K :=
 call_of good mixed (fn:=Tryz.f319) (args:=[x0]) Tryz.func319 rfl (by kernel_rfl) (of_decide_eq_true rfl) (B:=qaqZ x0 h K) (by kernel_rfl) hd
def qbuZ (x1 a b x0:Value)(c:Heap)(K:KTy):Prop:=ov (binV BinOp.add 2 false x1 a) fun d=>ov (slV (some (none,4)) b (some d) none) fun e=>ov (slV (some (none,4)) x0 (some x1) none) fun f=>vvM P (Builtin.copy_ #[qdZ,qdZ] qmZ #[e,f]) c fun g h=>K b h
def qbvZ (a x1 x2:Value)(b:Heap)(c x0:Value)(K:KTy):Prop:=ov (slV (some (none,4)) a (some x1) none) fun d=>vvM P (Builtin.copy_ #[qdZ,qdZ] qmZ #[d,x2]) b fun e f=>qbuZ x1 c a x0 f K
def qbwZ (x0 x1 a b:Value)(c:Heap)(x2:Value)(K:KTy):Prop:=ov (slV (some (none,4)) x0 none (some x1)) fun d=>ov (binV BinOp.add 2 false a b) fun e=>ov (binV BinOp.sub 2 false e x1) fun f=>vvM P (Builtin.append_ #[qdZ,qmZ] qdZ #[d,f]) c fun g h=>qbvZ g x1 x2 h b x0 K
def qboZ (a x1 x2:Value)(b:Heap)(K:KTy):Prop:=ov (slV (some (none,4)) a (some x1) none) fun c=>vvM P (Builtin.copy_ #[qdZ,qdZ] qmZ #[c,x2]) b fun d e=>K a e
def qbxZ (x1 a b:Value)(c:Heap)(x2:Value)(K:KTy):Prop:=ov (binV BinOp.add 2 false x1 a) fun d=>ov (slV (some (none,4)) b (some d) none) fun e=>ov (slV (some (none,4)) b (some x1) none) fun f=>vvM P (Builtin.copy_ #[qdZ,qdZ] qmZ #[e,f]) c fun g h=>qboZ b x1 x2 h K
def qeFZ (a b x2:Value)(c:Heap)(x1 d:Value)(K:KTy):Prop:=ov (slV (some (none,4)) a (some b) none) fun e=>vvM P (Builtin.copy_ #[qdZ,qdZ] qmZ #[e,x2]) c fun f g=>ov (slV (some (none,4)) a (some x1) none) fun h=>callM P qgGZ #[h,d] g fun i j=>K a j
def qbyZ (a x1 b c:Value)(d:Heap)(x2:Value)(K:KTy)(e:Value):Prop:=ov (unV UnOp.not a) fun f=>cdM f (qbxZ x1 b c d x2 K) (qeFZ c e x2 d x1 b K)
def qbzZ (a b x0 x1 x2:Value)(c:Heap)(K:KTy):Prop:=ov (binV BinOp.add 2 false a b) fun d=>ov (slV (some (none,4)) x0 none (some d)) fun e=>ov (binV BinOp.add 2 false x1 b) fun f=>ov (slV (some (none,4)) e (some f) none) fun g=>nxM P (callFunc qdFZ #[x2,g]) c fun h i=>qbyZ h x1 b e i x2 K a
def qbAZ (a b x0 x1 c d:Value)(e:Heap)(x2:Value)(K:KTy):Prop:=ov (binV BinOp.gtr 2 false a b) fun f=>cdM f (qbwZ x0 x1 c d e x2 K) (qbzZ c d x0 x1 x2 e K)
def qbBZ (a b x0:Value)(h:Heap)(x1 x2:Value)(K:KTy):Prop:=ov (binV BinOp.add 2 false a b) fun c=>vvM P (Builtin.cap_ #[qdZ] qmZ #[x0]) h fun d e=>qbAZ c d x0 x1 a b e x2 K
def qbCZ (x0 x1 x2:Value)(h:Heap)(K:KTy)(a:Value):Prop:=ov (lnV 7 x0) fun b=>ov (binV BinOp.eql 2 false x1 b) fun c=>cdM c (vvM P (Builtin.append_ #[qdZ,qdZ] qdZ #[x0,x2]) h fun d e=>K d e) (qbBZ b a x0 h x1 x2 K)
def qagZ (x0 x1 x2:Value)(h:Heap)(K:KTy):Prop:=ov (slV (some (none,4)) x0 (some x1) none) fun a=>ov (lnV 7 x2) fun b=>ov (binV BinOp.eql 2 true b (Value.int IntKind.i64 0)) fun c=>cdM c (K x0 h) (qbCZ x0 x1 x2 h K b)
theorem qflZ {x0 x1 x2:Value}{h:Heap}(hd:qagZ x0 x1 x2 h K):callM P qfZ #[x0,x1,x2] h K :=
 call_of good mixed (fn:=Tryz.f320) (args:=[x0,x1,x2]) Tryz.func320 rfl (by kernel_rfl) (of_decide_eq_true rfl) (B:=qagZ x0 x1 x2 h K) (by kernel_rfl) hd
def qaPZ (a:Post)(m:List Nat)(b:Env)(c d e f:Value)(g:Heap):Prop:=a .ret m (puts b [(9,c),(10,(b 8)),(5,(b 8)),(11,(b 1)),(12,(b 0)),(13,(b 8)),(14,d),(15,e),(16,f),(17,(b 8)),(4,(b 8))]) g
def qaQZ (a:Env)(b:Post)(m:List Nat)(c d e f:Value)(g:Heap):Prop:=ov (binV BinOp.add 2 true (a 8) (Value.int IntKind.i64 1)) fun h=>b .normal m (puts a [(9,c),(10,(a 8)),(5,(a 8)),(11,(a 1)),(12,(a 0)),(13,(a 8)),(14,d),(15,e),(16,f),(18,h),(8,h)]) g
def qaRZ (a:Value)(b:Post)(m:List Nat)(c:Env)(d e f:Value)(g:Heap):Prop:=cdM a (qaPZ b m c d e f a g) (qaQZ c b m d e f a g)
def qaSZ (a:Env)(b:Heap)(c:Post)(m:List Nat)(e:Value):Prop:=ov (iaV (some (none,4)) (a 0) (a 8)) fun f=>ov (ldV (some (some 4)) f b) fun g=>nxM P (do let d ← Deferred.ofValue (a 1) #[g] ; invoke d.target d.args) b fun h i=>qaRZ h c m a e f g i
def qaTZ (a:Env)(b:Heap)(c:Post)(m:List Nat):Prop:=ov (binV BinOp.lss 2 false (a 8) (a 7)) fun d=>cdM d (qaSZ a b c m d) (c (.exit 0) m (puts a [(9,d)]) b)
def qaUZ (x0 x1:Value)(h:Heap)(a:Post):Prop:=ov (lnV 7 x0) fun b=>loopM (fun m c d e=>qaTZ c d e m) [] (puts (envOf [x0,x1]) [(4,(Value.int IntKind.i64 0)),(6,x0),(7,b),(8,(Value.int IntKind.i64 0))]) h (blkM 0 a)
def qGZ (x0 x1:Value)(h:Heap)(K:KTy):Prop:=seqM (fun a=>qaUZ x0 x1 h a) (fun m b c=>(retM P [.tmp 4] K) .ret m (puts b [(4,(Value.int IntKind.i64 (-1)))]) c) (retM P [.tmp 4] K)
theorem qdPZ {x0 x1:Value}{h:Heap}(hd:qGZ x0 x1 h K):callM P qDZ #[x0,x1] h K :=
 call_of good mixed (fn:=Tryz.f321) (args:=[x0,x1]) Tryz.func321 rfl (by kernel_rfl) (of_decide_eq_true rfl) (B:=qGZ x0 x1 h K) (by kernel_rfl) hd
def qIZ (a:Value)(b:Post)(m:List Nat)(c:Env)(d e f g h i j k:Value)(l:Heap):Prop:=ov (binV BinOp.add 2 true a (Value.int IntKind.i64 1)) fun n=>b .normal m (puts c [(15,(c 9)),(16,(c 10)),(17,d),(18,(c 9)),(19,(c 10)),(20,e),(21,f),(22,g),(23,a),(11,a),(24,(c 2)),(25,(c 0)),(26,a),(27,h),(28,i),(29,(c 1)),(30,j),(31,k),(32,a),(33,n),(9,n)]) l
def qJZ (a:Post)(m:List Nat)(b:Env)(c d e f g h i j k:Value)(l:Heap):Prop:=a .normal m (puts b [(15,(b 9)),(16,(b 10)),(17,c),(18,(b 9)),(19,(b 10)),(20,d),(21,e),(22,f),(23,g),(11,g),(24,(b 2)),(25,(b 0)),(26,g),(27,h),(28,i),(29,(b 1)),(30,j),(31,k),(34,g),(10,g)]) l
def qKZ (a b:Value)(c:Post)(m:List Nat)(d:Env)(e f g h i j:Value)(k:Heap):Prop:=ov (binV BinOp.lss 2 true a (Value.int IntKind.i64 0)) fun l=>cdM l (qIZ b c m d e f g h i j a l k) (qJZ c m d e f g h b i j a l k)
def qLZ (a:Env)(b:Heap)(c:Post)(m:List Nat)(e:Value):Prop:=ov (binV BinOp.add 2 false (a 9) (a 10)) fun f=>ov (cvV (some .u64) f) fun g=>ov (binV BinOp.shr 2 true g (Value.int IntKind.u64 1)) fun h=>ov (cvV (some .i64) h) fun i=>ov (iaV (some (none,4)) (a 0) i) fun j=>ov (ldV (some (some 4)) j b) fun k=>nxM P (do let d ← Deferred.ofValue (a 2) #[k,(a 1)] ; invoke d.target d.args) b fun l n=>qKZ l i c m a e f g h j k n
def qMZ (a:Env)(b:Heap)(c:Post)(m:List Nat):Prop:=ov (binV BinOp.lss 2 false (a 9) (a 10)) fun d=>cdM d (qLZ a b c m d) (c (.exit 0) m (puts a [(15,(a 9)),(16,(a 10)),(17,d)]) b)
def qNZ (x0 x1 x2 a:Value)(h:Heap)(b:Post):Prop:=loopM (fun m c d e=>qMZ c d e m) [] (puts (envOf [x0,x1,x2]) [(6,(Value.int IntKind.i64 0)),(7,(Value.bool false)),(12,x0),(13,a),(8,a),(14,a),(9,(Value.int IntKind.i64 0)),(10,a)]) h (blkM 0 b)
def qOZ (a:Env)(b:Heap)(K:KTy)(m:List Nat):Prop:=ov (binV BinOp.lss 2 false (a 9) (a 8)) fun c=>gM (isB c true) (fun e=>e (a 2) b) b fun f g=>gM (isB c true) (fun h=>h (a 0) g) g fun i j=>gM (isB c true) (fun k=>k (a 9) j) j fun l n=>gM (isB c true) (fun o=>ov (iaV (some (none,4)) i l) fun p=>o p n) n fun q r=>gM (isB c true) (fun s=>ov (ldV (some (some 4)) q r) fun t=>s t r) r fun u v=>gM (isB c true) (fun w=>w (a 1) v) v fun x y=>gM (isB c true) (fun z=>nxM P (do let d ← Deferred.ofValue f #[u,x] ; invoke d.target d.args) y fun aa ab=>z aa ab) y fun ac ad=>gM (isB c true) (fun ae=>ov (binV BinOp.eql 2 true ac (Value.int IntKind.i64 0)) fun af=>ae af ad) ad fun ag ah=>ov (pkV c ag (Value.bool false)) fun ai=>(retM P [.tmp 6,.tmp 7] K) .ret m (puts a [(35,(a 9)),(36,(a 9)),(37,(a 8)),(38,c),(39,c),(40,f),(41,i),(42,l),(43,q),(44,u),(45,x),(46,ac),(47,ag),(48,ai),(6,(a 9)),(7,ai)]) ah
def qrZ (x0 x1 x2:Value)(h:Heap)(K:KTy):Prop:=ov (lnV 7 x0) fun a=>seqM (fun b=>qNZ x0 x1 x2 a h b) (fun m c d=>qOZ c d K m) (retM P [.tmp 6,.tmp 7] K)
theorem qcFZ {x0 x1 x2:Value}{h:Heap}(hd:qrZ x0 x1 x2 h K):callM P qPZ #[x0,x1,x2] h K :=
 call_of good mixed (fn:=Tryz.f326) (args:=[x0,x1,x2]) Tryz.func326 rfl (by kernel_rfl) (of_decide_eq_true rfl) (B:=qrZ x0 x1 x2 h K) (by kernel_rfl) hd
def qiSZ (x0 x1:Value)(h:Heap)(K:KTy):Prop:=nwM (some x0.cells) qbZ h fun a b=>ov (faV (some 0) a) fun c=>ov (ldV (some none) c b) fun d=>callM P qfwZ #[d,x1] b fun e f=>K e f
theorem qnyZ {x0 x1:Value}{h:Heap}(hd:qiSZ x0 x1 h K):callM P qdzZ #[x0,x1] h K :=
 call_of good mixed (fn:=Tryz.f327) (args:=[x0,x1]) Tryz.func327 rfl (by kernel_rfl) (of_decide_eq_true rfl) (B:=qiSZ x0 x1 h K) (by kernel_rfl) hd
def qiDZ (x0 x1:Value)(K:KTy)(a:Heap):Prop:=ov (binV BinOp.lss 2 false x0 x1) fun b=>cdM b (K (Value.int IntKind.i64 (-1)) a) (ov (binV BinOp.gtr 2 false x0 x1) fun c=>cdM c (K (Value.int IntKind.i64 1) a) (K (Value.int IntKind.i64 0) a))
def qiEZ (a:Value)(K:KTy)(b:Heap)(x0 x1:Value):Prop:=cdM a (K (Value.int IntKind.i64 1) b) (qiDZ x0 x1 K b)
def qiFZ (a b:Value)(K:KTy)(c:Heap)(x0 x1:Value):Prop:=cdM a (cdM b (K (Value.int IntKind.i64 0) c) (K (Value.int IntKind.i64 (-1)) c)) (qiEZ b K c x0 x1)
def qiGZ (x1:Value)(a:Heap)(b:Value)(K:KTy)(x0:Value):Prop:=callM P qewZ #[x1] a fun c d=>qiFZ b c K d x0 x1
def qgeZ (x0 x1:Value)(h:Heap)(K:KTy):Prop:=callM P qewZ #[x0] h fun a b=>qiGZ x1 b a K x0
theorem qmYZ {x0 x1:Value}{h:Heap}(hd:qgeZ x0 x1 h K):callM P qfwZ #[x0,x1] h K :=
 call_of good mixed (fn:=Tryz.f328) (args:=[x0,x1]) Tryz.func328 rfl (by kernel_rfl) (of_decide_eq_true rfl) (B:=qgeZ x0 x1 h K) (by kernel_rfl) hd
def qfJZ (x0:Value)(h:Heap)(K:KTy):Prop:=ov (binV BinOp.neq 3 false x0 x0) fun a=>K a h
theorem qmJZ {x0:Value}{h:Heap}(hd:qfJZ x0 h K):callM P qdiZ #[x0] h K :=
 call_of good mixed (fn:=Tryz.f332) (args:=[x0]) Tryz.func332 rfl (by kernel_rfl) (of_decide_eq_true rfl) (B:=qfJZ x0 h K) (by kernel_rfl) hd
def qhUZ (x0:Value)(h:Heap)(K:KTy):Prop:=ov (binV BinOp.neq 2 false x0 x0) fun a=>K a h
theorem qntZ {x0:Value}{h:Heap}(hd:qhUZ x0 h K):callM P qewZ #[x0] h K :=
 call_of good mixed (fn:=Tryz.f337) (args:=[x0]) Tryz.func337 rfl (by kernel_rfl) (of_decide_eq_true rfl) (B:=qhUZ x0 h K) (by kernel_rfl) hd
end Go.Proofs.YtcnphhhcknhhaaaGreat
namespace Go.Proofs.YtcnphhhcknhhaaaGreat
open Go Go.Den Go.MapKept
set_option linter.unusedSimpArgs false
set_option linter.unusedVariables false
set_option maxRecDepth 20000
def ringC (r:Ring)(lv:Value):List Value:=[.int .i64 r.room,lv,.bool r.lost]
def RingR (T:Tags)(h:Heap)(g:Tag)(p:Nat)(r:Ring):Prop :=
 ∃ lv,h p=some (.cells (ringC r lv).toArray qBZ (0,0))∧T p=g++[0]∧Rw T h (g++[1]) 8 qddZ lv r.l.length (r.l.flatMap evC)
theorem RingR.kp {U:Tag→Prop}{T T':Tags}{h h':Heap}{g:Tag}{p:Nat}{r:Ring}(x:RingR T h g p r)(k:Kp U T h T' h')(o:Off U g):RingR T' h' g p r:=by
 obtain⟨lv,h1,h2,h3⟩:=x
 obtain⟨h4,h5⟩:=k.at h1 h2 (o.at _)
 exact⟨lv,h4,h5,h3.kp k (o.at _)⟩
def feedG (kv vv:Value)(q:Nat→Value):Nat→Value
 | 0=>kv
 | 1=>vv
 | k+2=>q k
def feedC (kv vv:Value)(q:Nat→Value):List Value:=(List.range 10).map (feedG kv vv q)
abbrev ptr (b:Nat):Value:=.pointer (some ⟨b,0,none⟩)
def FeedR (T:Tags)(h:Heap)(g:Tag)(p:Nat)(f:Feed):Prop :=
 ∃ (kv vv:Value) (q:Nat→Nat),h p=some (.cells (feedC kv vv fun j=>ptr (q j)).toArray qdeZ (0,0))∧T p=g++[0]∧Sl 1 StrR (fz T h) kv (f.ws.map (·.1))∧Sl 1 MaskR (fz T h) vv (f.ws.map (·.2)) ∧
  (∀ j,j<8→RingR T h (g++[1,j]) (q j) (f.qs j))∧Sn kv∧Sn vv
theorem FeedR.kp {U:Tag→Prop}{T T':Tags}{h h':Heap}{g:Tag}{p:Nat}{f:Feed}(x:FeedR T h g p f)(k:Kp U T h T' h')(o:Off U g)(n:¬ U []):FeedR T' h' g p f:=by
 obtain⟨kv,vv,q,h1,h2,h3,h4,h5,h5s⟩:=x
 obtain⟨h6,h7⟩:=k.at h1 h2 (o.at _)
 exact⟨kv,vv,q,h6,h7,h3.ext (@StrR.ext) (k.ext n),h4.ext (@MaskR.ext) (k.ext n),fun j hj=>(h5 j hj).kp k (o.app _),h5s⟩
structure SV where
 sk:Value
 sv:Value
 bk:Value
 bv:Value
 fp:Nat
def strC (x:Strp)(y:SV):List Value:=[.int .i64 x.who,.int .u64 x.v,.int .u64 x.bound,y.sk,y.sv,y.bk,y.bv,ptr y.fp]
def StrpR (T:Tags)(h:Heap)(g:Tag)(x:Strp)(y:SV):Prop:=BookR (fz T h) y.sk y.sv x.snap∧BookR (fz T h) y.bk y.bv x.book∧FeedR T h g y.fp x.feed
theorem StrpR.kp {U:Tag→Prop}{T T':Tags}{h h':Heap}{g:Tag}{x:Strp}{y:SV}(r:StrpR T h g x y)(k:Kp U T h T' h')(o:Off U g)(n:¬ U []):StrpR T' h' g x y :=
 ⟨r.1.ext (k.ext n),r.2.1.ext (k.ext n),r.2.2.kp k o n⟩
def hallC (H:Hall)(sv av:Value):List Value:=[.int .i64 H.c.stripes,.int .i64 H.c.sessions,.int .i64 H.c.queue,.int .i64 H.c.watches,.int .i64 H.c.retries,.int .u64 H.c.epochs,.int .u64 H.c.start,
 .int .u64 H.t.now,.int .u64 H.t.seq,.bool H.t.closed,sv,av]
structure HallX (T:Tags)(h:Heap)(g:Tag)(p:Nat)(H:Hall)(sv av:Value)(Y:Nat→SV):Prop where
 hp:h p=some (.cells (hallC H sv av).toArray qamZ (0,0))
 tp:T p=g++[0]
 st:Rw T h (g++[1]) 8 qWZ sv H.n (seqF H.n fun i=>strC (H.ss i) (Y i))
 ac:Rw T h (g++[2]) 3 qfLZ av H.acts.length (H.acts.flatMap actC)
 sr:∀ i,i<H.n→StrpR T h (g++[3,i]) (H.ss i) (Y i)
def HallR (T:Tags)(h:Heap)(g:Tag)(p:Nat)(H:Hall):Prop:=∃ sv av Y,HallX T h g p H sv av Y
theorem HallR.kp {U:Tag→Prop}{T T':Tags}{h h':Heap}{g:Tag}{p:Nat}{H:Hall}(x:HallR T h g p H)(k:Kp U T h T' h')(o:Off U g)(n:¬ U []):HallR T' h' g p H:=by
 obtain⟨sv,av,Y,x⟩:=x
 obtain⟨h1,h2⟩:=k.at x.hp x.tp (o.at _)
 exact⟨sv,av,Y,h1,h2,x.st.kp k (o.at _),x.ac.kp k (o.at _),fun i hi=>(x.sr i hi).kp k (o.app _) n⟩
theorem bsAct:bsI P qdwZ=some (qfLZ,3,#[.int .i64 0,.int .i64 0,.int .i64 0]):=by kernel_rfl
theorem unSlAct:P.underlying qdwZ=some (.slice qfLZ):=by kernel_rfl
theorem apAct:apC P qfLZ=some (3,24,3):=by kernel_rfl
theorem bdAct (a b c:Int):bdV (binf P qfLZ) [(0,.int .i64 a),(1,.int .i64 b),(2,.int .i64 c)]=some (.agg #[.int .i64 a,.int .i64 b,.int .i64 c]):=by kernel_rfl
theorem zcTime:zc P qarZ=some #[.int .u64 0,.int .u64 0,.bool false]:=by kernel_rfl
theorem zcCfg:zc P qcUZ=some #[.int .i64 0,.int .i64 0,.int .i64 0,.int .i64 0,.int .i64 0,.int .u64 0,.int .u64 0]:=by kernel_rfl
theorem bdTime (a:Int):bdV (binf P qarZ) [(0,.int .u64 a)]=some (.agg #[.int .u64 a,.int .u64 0,.bool false]):=by kernel_rfl
theorem bdHall (a b c d e f g t s:Int)(k:Bool):bdV (binf P qamZ) [(0,.agg #[.int .i64 a,.int .i64 b,.int .i64 c,.int .i64 d,.int .i64 e,.int .u64 f,.int .u64 g]),(1,.agg #[.int .u64 t,.int .u64 s,.bool k])] =
 some (.agg #[.int .i64 a,.int .i64 b,.int .i64 c,.int .i64 d,.int .i64 e,.int .u64 f,.int .u64 g,.int .u64 t,.int .u64 s,.bool k,.slice none 0 0,.slice none 0 0]):=by kernel_rfl
theorem bdStripe (v b:Int)(fp:Option Addr):bdV (binf P qWZ) [(1,.agg #[.int .u64 v,.int .u64 b]),(4,.pointer fp)] =
 some (.agg #[.int .i64 0,.int .u64 v,.int .u64 b,.slice none 0 0,.slice none 0 0,.slice none 0 0,.slice none 0 0,.pointer fp]):=by kernel_rfl
theorem bsStripe:bsI P qbpZ=some (qWZ,8,#[.int .i64 0,.int .u64 0,.int .u64 0,.slice none 0 0,.slice none 0 0,.slice none 0 0,.slice none 0 0,.pointer none]):=by kernel_rfl
theorem unSlStripe:P.underlying qbpZ=some (.slice qWZ):=by kernel_rfl
theorem apStripe:apC P qWZ=some (8,128,8):=by kernel_rfl
theorem bdFeed:bdV (binf P qdeZ) []=some (.agg #[.slice none 0 0,.slice none 0 0,.pointer none,.pointer none,.pointer none,.pointer none,.pointer none,.pointer none,.pointer none,.pointer none]):=by kernel_rfl
theorem bdRing (n:Int):bdV (binf P qBZ) [(0,.int .i64 n)]=some (.agg #[.int .i64 n,.slice none 0 0,.bool false]):=by kernel_rfl
theorem bdCell (n:Int):bdV (binf P qvZ) [(1,.int .u64 n)]=some (.agg #[.int .u64 0,.int .u64 n]):=by kernel_rfl
theorem zcCell:zc P qvZ=some #[.int .u64 0,.int .u64 0]:=by kernel_rfl
theorem zcLatch:zc P qiZ=some #[.int .i64 0]:=by kernel_rfl
theorem bdLatch (n:Int):bdV (binf P qiZ) [(0,.int .i64 n)]=some (.agg #[.int .i64 n]):=by kernel_rfl
theorem bdLatch0:bdV (binf P qiZ) []=some (.agg #[.int .i64 0]):=by kernel_rfl
variable {K:KTy}
theorem within_ok (n lo hi:Int){h:Heap}(hk:K (.bool (decide (lo≤n∧n≤hi))) h):callM P qacZ #[.int .i64 n,.int .i64 lo,.int .i64 hi] h K:=by
 apply qnvZ
 unfold qiNZ
 by_cases h1:lo≤n<;>simpa [h1] using hk
theorem place_ok (s w:Int){h:Heap}(hs:0≤s∧s<1000∧0≤w∧w<10)(hk:K (.int .i64 (4*s+w)) h):callM P qTZ #[.int .i64 s,.int .i64 w] h K:=by
 apply qnHZ
 unfold qjLZ
 simp only[bin_mul,bin_add,ov_s,wrap64_id (n:=4*s) (by omega) (by omega),wrap64_id (n:=4*s+w) (by omega) (by omega)]
 exact hk
end Go.Proofs.YtcnphhhcknhhaaaGreat
namespace Go.Proofs.YtcnphhhcknhhaaaGreat
open Go Go.Den Go.MapKept
set_option linter.unusedSimpArgs false
set_option linter.unusedVariables false
set_option maxRecDepth 20000
variable {K:KTy}
theorem hashRight_ok (s:ByteArray){h:Heap}(hk:K (.bool (nameB s)) h):callM P qdvZ #[.string s] h K:=by
 apply qnIZ
 unfold qjMZ
 have:nameB s=(!decide (s=⟨#[]⟩) && decide ((s.size:Int)≤16)):=by
  unfold nameB; by_cases h0:s.size=0
  ·rw[(str_empty s).2 h0]; rfl
  ·have:¬ s=⟨#[]⟩:=fun e=>h0 ((str_empty s).1 e)
   rw[Bool.eq_iff_iff]; simp[this]; omega
 rw[this] at hk
 simp +contextual -implicitDefEqProofs[-Bool.decide_eq_true]
 exact hk
theorem refName_ok (s:ByteArray){h:Heap}(hk:K (.bool (nameB s)) h):callM P qasZ #[.string s] h K:=by
 apply qlXZ
 unfold qfcZ
 have:nameB s=(decide ((0:Int)<s.size) && decide ((s.size:Int)<17)):=by
  unfold nameB; rw[← Bool.decide_and]; congr 1; simp; omega
 rw[this] at hk
 simp +contextual -implicitDefEqProofs
 simpa using hk
theorem sessRight_ok (a b c:Int){h:Heap}(hk:K (.bool (decide (0≤a∧a≤255∧1≤b∧b≤9∧0≤c∧c≤9))) h):callM P qjrZ #[.int .i64 a,.int .i64 b,.int .i64 c] h K:=by
 apply qnJZ
 unfold qjNZ
 simp +contextual -implicitDefEqProofs
 simpa [Bool.decide_and,and_assoc,Bool.and_assoc] using hk
theorem modRight_ok (c:Cfg){h:Heap}(hk:∀ h',Ext h h'→K (.bool (rightB c)) h'):callM P qiHZ #[.agg (cfgC c).toArray] h K:=by
 apply qnzZ
 unfold qjuZ
 refine nw_agg fun v1 h2 n2 e2 c2=>?_
 simp only[cfgC] at c2
 simp only[faV_p,ov_s,ldV_c,cel_of c2,Nat.zero_add,List.getElem?_toArray,List.getElem?_cons_zero]
 refine within_ok _ _ _ ?_
 unfold qkbZ
 simp +contextual -implicitDefEqProofs[cel_of c2]
 refine gM_call0 (a:=.bool (decide (1≤c.sessions∧c.sessions≤8))) (fun hc K' hk'=>within_ok _ _ _ hk') ?_
 simp +contextual -implicitDefEqProofs[cel_of c2]
 refine gM_call0 (a:=.bool (decide (1≤c.queue∧c.queue≤16))) (fun hc K' hk'=>within_ok _ _ _ hk') ?_
 simp +contextual -implicitDefEqProofs[cel_of c2]
 refine gM_call0 (a:=.bool (decide (1≤c.watches∧c.watches≤8))) (fun hc K' hk'=>within_ok _ _ _ hk') ?_
 simp +contextual -implicitDefEqProofs[cel_of c2]
 refine gM_call0 (a:=.bool (decide (0≤c.retries∧c.retries≤4))) (fun hc K' hk'=>within_ok _ _ _ hk') ?_
 simp +contextual -implicitDefEqProofs[cel_of c2]
 refine kb (hk h2 e2) ?_
 rw[Bool.eq_iff_iff]; simp[rightB]; omega
end Go.Proofs.YtcnphhhcknhhaaaGreat
namespace Go.Den
open Go
set_option linter.unusedVariables false
def fnvX (h b:Int):Int:=IntKind.u64.wrap (BitVec.ofInt 64 h ^^^ BitVec.ofInt 64 b).toNat
def fnvStep (h b:Int):Int:=IntKind.u64.wrap (fnvX h b*1099511628211)
def byteAt (s:ByteArray)(i:Nat):Int:=match s[i]? with
 | some b=>b.toNat
 | none=>0
def fnvTo (s:ByteArray):Nat→Int
 | 0=>14695981039346656037
 | i+1=>fnvStep (fnvTo s i) (byteAt s i)
def fnv (s:ByteArray):Int:=fnvTo s s.size
theorem wrapU_rng (n:Int):0≤IntKind.u64.wrap n∧IntKind.u64.wrap n≤18446744073709551615:=by
 simp only[IntKind.wrap,IntKind.bits,IntKind.signed]
 simp
 omega
theorem wrapU_id {n:Int}(h0:0≤n)(h1:n≤18446744073709551615):IntKind.u64.wrap n=n:=by
 simp only[IntKind.wrap,IntKind.bits,IntKind.signed]
 simp
 omega
theorem andNot1 (b:Int)(hb:U64 b):IntKind.u64.wrap (BitVec.ofInt 64 b &&& ~~~BitVec.ofInt 64 1).toNat=evn b:=by
 obtain⟨n,rfl⟩:∃ n:Nat,b=n:=⟨b.toNat,by have:=hb.1; omega⟩
 have hn:n<18446744073709551616:=by have:=hb.2; omega
 have e:(BitVec.ofInt 64 n &&& ~~~BitVec.ofInt 64 1).toNat=n / 2*2:=by
  rw[BitVec.toNat_and]
  have h0:(BitVec.ofInt 64 (n:Int)).toNat=n:=by simp; omega
  have h1:(~~~BitVec.ofInt 64 1).toNat=(2 ^ 63-1)*2 ^ 1:=by rfl
  rw[h0,h1]
  apply Nat.eq_of_testBit_eq
  intro i
  rw[Nat.testBit_and,Nat.testBit_mul_two_pow,Nat.testBit_two_pow_sub_one,show n / 2*2=(n / 2)*2 ^ 1 by omega,Nat.testBit_mul_two_pow,Nat.testBit_div_two]
  by_cases h:1≤i
  ·rw[show i-1+1=i by omega]
   by_cases h2:i-1<63
   ·simp[h,h2]
   ·have:n.testBit i=false:=Nat.testBit_lt_two_pow (Nat.lt_of_lt_of_le hn (by rw[show 18446744073709551616=2 ^ 64 by rfl]; exact Nat.pow_le_pow_right (by omega) (by omega)))
    simp[this]
  ·simp[h]
 rw[e,wrapU_id (by omega) (by omega)]
 unfold evn; omega
theorem and1 (b:Int)(hb:U64 b):IntKind.u64.wrap (BitVec.ofInt 64 b &&& BitVec.ofInt 64 1).toNat=b % 2:=by
 obtain⟨n,rfl⟩:∃ n:Nat,b=n:=⟨b.toNat,by have:=hb.1; omega⟩
 have hn:n<18446744073709551616:=by have:=hb.2; omega
 have e:(BitVec.ofInt 64 n &&& BitVec.ofInt 64 1).toNat=n % 2:=by
  rw[BitVec.toNat_and]
  have:(BitVec.ofInt 64 (n:Int)).toNat=n:=by simp; omega
  rw[this]
  have:(BitVec.ofInt 64 1).toNat=1:=by rfl
  rw[this,Nat.and_one_is_mod]
 rw[e,wrapU_id (by omega) (by omega)]
 omega
theorem bin_and1 (t:Nat)(c:Bool){b:Int}(hb:U64 b):binV .and t c (.int .u64 b) (.int .u64 1)=some (.int .u64 (b % 2)):=by
 have:binV .and t c (.int .u64 b) (.int .u64 1)=some (.int .u64 (IntKind.u64.wrap (BitVec.ofInt 64 b &&& BitVec.ofInt 64 1).toNat)):=rfl
 rw[this,and1 b hb]
theorem bin_andNot1 (t:Nat)(c:Bool){b:Int}(hb:U64 b):binV .andNot t c (.int .u64 b) (.int .u64 1)=some (.int .u64 (evn b)):=by
 have:binV .andNot t c (.int .u64 b) (.int .u64 1)=some (.int .u64 (IntKind.u64.wrap (BitVec.ofInt 64 b &&& ~~~BitVec.ofInt 64 1).toNat)):=rfl
 rw[this,andNot1 b hb]
theorem bin_fnvX (t:Nat)(c:Bool)(a b:Int):binV .xor t c (.int .u64 a) (.int .u64 b)=some (.int .u64 (fnvX a b)):=rfl
theorem fnv_rng (s:ByteArray):0≤fnv s∧fnv s≤18446744073709551615:=by
 unfold fnv
 cases s.size with
 | zero=>simp[fnvTo]
 | succ n=>exact wrapU_rng _
def stripeOf (s:ByteArray)(n:Int):Int:=if n<1 then 0 else fnv s % n
def late (now until_:Int):Bool:=decide (until_≤now)
def better (a b:Sess):Bool:=decide (b.pr<a.pr) || (decide (a.pr=b.pr) && decide (a.id<b.id))
def ofStep (now:Int)(x:Sess × Nat)(s:Sess):Sess × Nat:=if late now s.un then x else (if x.2=0 || better s x.1 then s else x.1,x.2+1)
def ofAcc (l:List Sess)(now:Int):Sess × Nat:=l.foldl (ofStep now) (⟨0,0,0,0⟩,0)
def presOf (l:List Sess)(now:Int):Pres:=⟨(ofAcc l now).1.st,(ofAcc l now).1.pr,(ofAcc l now).2⟩
def ent0:Ent:=⟨[],⟨0,0,0⟩⟩
def entOf:Book→ByteArray→Ent
 | [],_=>ent0
 | (k,e)::r,u=>if k=u then e else entOf r u
def presB (b:Book)(u:ByteArray)(now:Int):Pres:=presOf (entOf b u).ss now
structure RP where
 who:Int
 users:List ByteArray
 of:Int
 ss:List Nat
 ph:Int
 at_:Nat
 tries:Int
 ep:Nat→Int
 valid:Bool
 spent:Bool
 seen:Int→Option Book
 t:Tm
 looked:Int
 placed:Int
 err:Int
 vals:List Pres
def RP.k (p:RP):Nat:=p.ss.length
def RP.s (p:RP):Nat:=p.ss.getD p.at_ 0
def RP.begin (p:RP):RP:={ p with ph:=0,at_:=0,ep:=fun _=>0,valid:=true,spent:=false,seen:=fun _=>none }
def RP.tell (p:RP)(u:ByteArray):Pres:=presB ((p.seen (stripeOf u p.of)).getD []) u p.t.now
def RP.answer (p:RP):RP:=if p.t.closed then { p with placed:=p.looked,err:=5,vals:=[] } else { p with placed:=p.looked,vals:=p.vals++p.users.map p.tell }
def RP.next (p:RP)(ph:Int):RP:=if p.at_+1<p.k then { p with at_:=p.at_+1 } else { p with ph:=ph,at_:=0 }
def RP.last (p:RP):Bool:=!decide (p.at_+1<p.k)
def RP.judge (p:RP):RP :=
 if p.t.closed || p.valid then { p.answer with ph:=8 }
 else if p.spent || decide (p.tries=0) then { p with ph:=4 }
 else RP.begin { p with tries:=p.tries-1 }
def RP.enabled (p:RP)(H:Hall):Bool:=!decide (p.ph=8) && (!decide (p.ph=4) || decide ((H.ss p.s).who=0))
def epset (f:Nat→Int)(i:Nat)(v:Int):Nat→Int:=fun k=>if k=i then v else f k
def seenset (f:Int→Option Book)(i:Int)(v:Book):Int→Option Book:=fun k=>if k=i then some v else f k
def validB (a b bound:Int):Bool:=decide (a=b) && (decide (a % 2=0) && decide (a<evn bound))
def RP.go (p:RP)(H:Hall)(n:Int):RP × Hall :=
 if p.ph=0 then (RP.next { p with ep:=epset p.ep p.at_ (H.ss p.s).v,spent:=p.spent || decide (evn H.c.epochs≤(H.ss p.s).v) } 1,H.epoch p.who p.s)
 else if p.ph=1 then (RP.next { p with seen:=seenset p.seen p.s (H.ss p.s).snap } 2,H.snap p.who p.s)
 else if p.ph=2 then ({ p with t:=H.t,looked:=n,ph:=3 },H.look p.who)
 else if p.ph=5 then ({ p with t:=H.t,looked:=n,ph:=6,placed:=n },H.look p.who)
 else if p.ph=3 then
  let q:RP:={ p with valid:=p.valid && validB (p.ep p.at_) (H.ss p.s).v H.c.epochs }
  (if q.last then (q.next 8).judge else q.next 8,H.epoch p.who p.s)
 else if p.ph=4 then (p.next 5,H.lock p.who p.s)
 else if p.ph=6 then (RP.next { p with seen:=seenset p.seen p.s (H.ss p.s).book } 7,H.read p.who p.s)
 else (if p.last then (p.next 8).answer else p.next 8,H.unlock p.who p.s)
def RP.step (p:RP)(H:Hall)(n:Int):RP × Hall :=
 if p.enabled H=false then (p,H) else if p.ss=[] then ({ p with err:=1,vals:=[],placed:=n,ph:=8 },H) else p.go H n
end Go.Den
namespace Go.Proofs.YtcnphhhcknhhaaaGreat
open Go Go.Den Go.MapKept
set_option linter.unusedSimpArgs false
set_option linter.unusedVariables false
set_option maxRecDepth 20000
theorem st_byte {s:ByteArray}{i:Nat}(hi:i<s.size){k:IntKind}:stV (.string s) (.int k i)=some (.int .u8 (byteAt s i)):=by
 have:s[i]?=some s[i]:=by simp[hi]
 simp -implicitDefEqProofs[stV,byteAt,this]
theorem byte_rng (s:ByteArray)(i:Nat):0≤byteAt s i∧byteAt s i≤255:=by
 unfold byteAt
 split
 ·rename_i b _; have:=b.toNat_lt; omega
 ·omega
variable {K:KTy}
theorem hashOf_ok (s : ByteArray) (hs : s.size ≤ maxLen) {h : Heap} (hk : K (.int .u64 (fnv s)) h) : callM P qlnZ #[.string s] h K := by
  apply qodZ
  unfold qmwZ
  rw [seqM_eq]
  unfold qndZ
  simp -implicitDefEqProofs only [lnV_t, ov_s]
  refine loop_on [0, 5, 6] (fun t h' => h' = h ∧ ∃ i : Nat, i ≤ s.size ∧ t 7 = .int .i64 i ∧ t 3 = .int .u64 (fnvTo s i)) (fun t _ => (s.size - num (t 7)).toNat) ⟨rfl, 0, by omega, rfl, rfl⟩ ?_
  rintro t h1 hf ⟨rfl, i, hi, t7, t3⟩
  have t0 : t 0 = .string s := by simpa using hf 0 (by simp)
  have t5 : t 5 = .string s := by simpa using hf 5 (by simp)
  have t6 : t 6 = .int .i64 s.size := by simpa using hf 6 (by simp)
  unfold maxLen at hs
  unfold qncZ
  simp -implicitDefEqProofs only [t7, t6, bin_lss, ov_s, cd_b]
  refine ⟨fun hc => ?_, fun hc => ?_⟩
  · have hlt : i < s.size := by have : ((i : Int) < s.size) := by simpa using hc
                                omega
    have hb := byte_rng s i
    unfold qnbZ
    have hw : IntKind.i64.wrap ((i : Int) + 1) = i + 1 := wrap64_id (by omega) (by omega)
    simp -implicitDefEqProofs [t0, t7, t3, st_byte hlt, wrapU_id (n := byteAt s i) (by omega) (by omega), bin_fnvX, hw, t5, t6]
    exact ⟨⟨i + 1, by omega, by simp, by simp [fnvTo, fnvStep]⟩, by omega⟩
  · have : i = s.size := by have : ¬ ((i : Int) < s.size) := by simpa using hc
                            omega
    subst this
    simp -implicitDefEqProofs [t3]
    exact hk
theorem stripe_ok (s:ByteArray)(n:Int)(hn:n≤1000)(hs:s.size≤maxLen){h:Heap}(hk:K (.int .i64 (stripeOf s n)) h):callM P qiIZ #[.string s,.int .i64 n] h K:=by
 apply qnAZ
 unfold qjvZ
 simp -implicitDefEqProofs only[bin_lss,ov_s,cd_b]
 refine⟨fun hc=>?_,fun hc=>?_⟩
 ·have:n<1:=by simpa using hc
  simpa [stripeOf,this] using hk
 ·have hn1:¬ n<1:=by simpa using hc
  unfold qkcZ
  refine hashOf_ok s hs ?_
  have hf:=fnv_rng s
  have hm:(fnv s).tmod n=fnv s % n:=Int.tmod_eq_emod_of_nonneg hf.1
  have hl:=Int.emod_nonneg (fnv s) (show n≠0 by omega)
  have hu:=Int.emod_lt_of_pos (fnv s) (show 0<n by omega)
  simp -implicitDefEqProofs[wrapU_id (n:=n) (by omega) (by omega),show n≠0 by omega,hm,wrap64_id (n:=fnv s % n) (by omega) (by omega)]
  simpa [stripeOf,hn1] using hk
def cellC (v b:Int):List Value:=[.int .u64 v,.int .u64 b]
theorem cellNew_ok (b:Int)(hb:U64 b){h:Heap}(hk:∀ h',Ext h h'→K (.agg (cellC 0 (evn b)).toArray) h'):callM P qkuZ #[.int .u64 b] h K:=by
 apply qnYZ
 unfold qluZ
 simp -implicitDefEqProofs only[zcCell,nwM_s,bin_andNot1 _ _ hb,ov_s,bdCell]
 intro v1 n1
 simp -implicitDefEqProofs[stm_upd,ld_same,cel_same,over]
 exact hk _ (Ext.upd n1 _)
theorem value_ok (v b:Int){h:Heap}(hk:∀ h',Ext h h'→K (.int .u64 v) h'):callM P qfqZ #[.agg (cellC v b).toArray] h K:=by
 apply qmQZ
 unfold qfWZ
 simp -implicitDefEqProofs only[nwM_s,cells_agg,cellC]
 intro v1 n1
 simp -implicitDefEqProofs[cel_same]
 exact hk _ (Ext.upd n1 _)
theorem spent_ok (v b:Int){h:Heap}(hk:∀ h',Ext h h'→K (.bool (decide (b≤v))) h'):callM P qftZ #[.agg (cellC v b).toArray] h K:=by
 apply qmWZ
 unfold qgcZ
 simp -implicitDefEqProofs only[nwM_s,cells_agg,cellC]
 intro v1 n1
 simp -implicitDefEqProofs[cel_same]
 exact hk _ (Ext.upd n1 _)
theorem writing_ok (v b:Int)(hv:U64 v){h:Heap}(hk:∀ h',Ext h h'→K (.bool (wrt v)) h'):callM P qdbZ #[.agg (cellC v b).toArray] h K:=by
 apply qlZZ
 unfold qfeZ
 simp -implicitDefEqProofs only[nwM_s,cells_agg,cellC]
 intro v1 n1
 simp -implicitDefEqProofs[cel_same,bin_and1 _ _ hv]
 exact kb (hk _ (Ext.upd n1 _)) (by simp[wrt])
theorem tgCell:tagg P qvZ=some (some 2):=by kernel_rfl
theorem begin_ok (v b:Int)(hv:U64 v)(hb:U64 b){h:Heap}(hk:∀ h',Ext h h'→K (.agg (cellC (bgn v b) b).toArray) h'):callM P qfsZ #[.agg (cellC v b).toArray] h K:=by
 apply qmVZ
 unfold qgbZ
 refine nw_agg fun v1 h1 n1 e1 c1=>?_
 rw[zcCell]
 refine nw_intro fun v3 h2 n3 e3 c3=>?_
 have hne:=ne_fresh c1 n3
 have c1:=e3 _ _ c1
 rw[seqM_eq]
 unfold qiBZ
 simp -implicitDefEqProofs only[ld_box c1 (n:=2) rfl,ov_s]
 refine spent_ok v b fun h3 e4=>?_
 have c1:=e4 _ _ c1
 have c3:=e4 _ _ c3
 have e0:=(e1.trans e3).trans e4
 have n3:=fresh_of e1 n3
 unfold qiAZ
 simp -implicitDefEqProofs only[cellC] at c1
 by_cases hbv:b≤v
 ·simp -implicitDefEqProofs[hbv,ld_at c1,cel_of c1,stm_at c1,ld_at c3,cel_of c3,stm_at c3,stm_upd,ld_same,cel_same,over,tgCell]
  exact kv (hk _ (ext_upd n3 e0)) (by simp[cellC,bgn,show ¬ v<b by omega])
 ·simp -implicitDefEqProofs[hbv,ld_at c1,cel_of c1,stm_at c1,stm_upd,ld_same,cel_same,over]
  refine writing_ok v b hv fun h4 e5=>?_
  have c1:=e5 _ _ c1
  have c3:=e5 _ _ c3
  have e0:=e0.trans e5
  unfold qizZ
  cases hw:wrt v
  ·have:IntKind.u64.wrap (v+1)=v+1:=wrapU_id (by have:=hv.1; omega) (by have:=hb.2; omega)
   simp -implicitDefEqProofs[ld_at c1,cel_of c1,stm_at c1,ld_at c3,cel_of c3,stm_at c3,stm_skip hne,stm_skip (Ne.symm hne),ld_skip hne,ld_skip (Ne.symm hne),cel_skip hne,cel_skip (Ne.symm hne),stm_upd,ld_same,cel_same,over,this,tgCell]
   exact kv (hk _ (ext_upd n1 (ext_upd n3 e0))) (by simp[cellC,bgn,show v<b by omega,hw])
  ·simp -implicitDefEqProofs[ld_at c1,cel_of c1,stm_at c1,ld_at c3,cel_of c3,stm_at c3,stm_upd,ld_same,cel_same,over,tgCell]
   exact kv (hk _ (ext_upd n3 e0)) (by simp[cellC,bgn,hw])
theorem lfree_ok (w:Int){h:Heap}(hk:∀ h',Ext h h'→K (.bool (decide (w=0))) h'):callM P qbIZ #[.agg #[.int .i64 w]] h K:=by
 apply qmsZ
 unfold qfCZ
 simp -implicitDefEqProofs only[nwM_s,cells_agg]
 intro v1 n1
 simp -implicitDefEqProofs[cel_same]
 exact hk _ (Ext.upd n1 _)
theorem lowner_ok (w:Int)(hw:-1000000≤w∧w≤1000000){h:Heap}(hk:∀ h',Ext h h'→K (.int .i64 (w-1)) h'):callM P qevZ #[.agg #[.int .i64 w]] h K:=by
 apply qmbZ
 unfold qfgZ
 simp -implicitDefEqProofs only[nwM_s,cells_agg]
 intro v1 n1
 simp -implicitDefEqProofs[cel_same,wrap64_id (n:=w-1) (by omega) (by omega)]
 exact hk _ (Ext.upd n1 _)
theorem ltake_ok (w who:Int)(hw:-1000≤who∧who≤1000000){h:Heap}(hk:∀ h',Ext h h'→K (.tuple #[.agg #[.int .i64 (if canTake w who then who+1 else w)],.bool (canTake w who)]) h'):callM P qeUZ #[.agg #[.int .i64 w],.int .i64 who] h K:=by
 apply qmzZ
 unfold qfFZ
 refine nw_agg fun v1 h1 n1 e1 c1=>?_
 rw[zcLatch]
 refine nw_intro fun v3 h2 n3 e3 c3=>?_
 have hne:=ne_fresh c1 n3
 have c1:=e3 _ _ c1
 have n3:=fresh_of e1 n3
 have e0:=e1.trans e3
 unfold qhMZ qhNZ
 by_cases hw0:who<0
 ·simp -implicitDefEqProofs[hw0,ld_at c1,cel_of c1,stm_at c1,ld_at c3,cel_of c3,stm_at c3,stm_upd,ld_same,cel_same,over]
  exact kv (hk _ (ext_upd n3 e0)) (by simp[canTake,show ¬ 0≤who by omega])
 ·simp -implicitDefEqProofs[hw0,ld_at c1,cel_of c1,stm_at c1,stm_upd,ld_same,cel_same,over]
  refine lfree_ok w fun h4 e5=>?_
  have c1:=e5 _ _ c1
  have c3:=e5 _ _ c3
  have e0:=e0.trans e5
  by_cases hw:w=0
  ·simp -implicitDefEqProofs[hw,ld_at c3,cel_of c3,stm_at c3,stm_upd,ld_same,cel_same,over,bdLatch,wrap64_id (n:=who+1) (by omega) (by omega)]
   exact kv (hk _ (ext_upd n3 e0)) (by simp[canTake,hw,show 0≤who by omega])
  ·simp -implicitDefEqProofs[hw,ld_at c1,cel_of c1,stm_at c1,ld_at c3,cel_of c3,stm_at c3,stm_upd,ld_same,cel_same,over]
   exact kv (hk _ (ext_upd n3 e0)) (by simp[canTake,hw])
theorem lgive_ok (w who:Int)(hw:-1000000≤w∧w≤1000000){h:Heap}(hk:∀ h',Ext h h'→K (.tuple #[.agg #[.int .i64 (if canGive w who then 0 else w)],.bool (canGive w who)]) h'):callM P qeVZ #[.agg #[.int .i64 w],.int .i64 who] h K:=by
 apply qmAZ
 unfold qfGZ
 refine nw_agg fun v1 h1 n1 e1 c1=>?_
 rw[zcLatch]
 refine nw_intro fun v3 h2 n3 e3 c3=>?_
 have hne:=ne_fresh c1 n3
 have c1:=e3 _ _ c1
 have n3:=fresh_of e1 n3
 have e0:=e1.trans e3
 simp -implicitDefEqProofs[ld_at c1,cel_of c1,stm_at c1,stm_upd,ld_same,cel_same,over]
 refine lfree_ok w fun h4 e5=>?_
 have c1:=e5 _ _ c1
 have c3:=e5 _ _ c3
 have e0:=e0.trans e5
 unfold qhQZ qhOZ qhPZ
 by_cases hw0:w=0
 ·simp -implicitDefEqProofs[hw0,ld_at c1,cel_of c1,stm_at c1,ld_at c3,cel_of c3,stm_at c3,stm_upd,ld_same,cel_same,over]
  exact kv (hk _ (ext_upd n3 e0)) (by simp[canGive,hw0])
 ·simp -implicitDefEqProofs[hw0,ld_at c1,cel_of c1,stm_at c1,stm_upd,ld_same,cel_same,over]
  refine lowner_ok w hw fun h4 e5=>?_
  have c1:=e5 _ _ c1
  have c3:=e5 _ _ c3
  have e0:=e0.trans e5
  by_cases hg:w-1=who
  ·simp -implicitDefEqProofs[hg,ld_at c3,cel_of c3,stm_at c3,stm_upd,ld_same,cel_same,over,bdLatch0]
   exact kv (hk _ (ext_upd n3 e0)) (by simp[canGive,hw0,hg])
  ·simp -implicitDefEqProofs[hg,ld_at c1,cel_of c1,stm_at c1,ld_at c3,cel_of c3,stm_at c3,stm_upd,ld_same,cel_same,over]
   exact kv (hk _ (ext_upd n3 e0)) (by simp[canGive,hg])
end Go.Proofs.YtcnphhhcknhhaaaGreat
