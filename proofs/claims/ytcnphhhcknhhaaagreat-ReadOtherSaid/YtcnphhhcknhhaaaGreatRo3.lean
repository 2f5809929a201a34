/- Words, plain data and contracts of the Go functions that this claim reaches. No condition beyond the hypotheses that each theorem states. -/
import Derived.Test.YtcnphhhcknhhaaaGreatRo2
set_option linter.unusedSimpArgs false
set_option linter.unusedVariables false
namespace Go.Proofs.YtcnphhhcknhhaaaGreat
open Go Go.Den
set_option maxRecDepth 100000
set_option linter.unusedVariables false
def qboZ (h:Heap)(x0:Value)(K:KTy):Prop:=bsM (bsI P qfZ) 0 [] h fun a b=>vvM P (Builtin.append_ #[qfZ,qfZ] qfZ #[a,x0]) b fun c d=>K c d
def qaeZ (x0:Value)(h:Heap)(K:KTy):Prop:=ov (binV BinOp.eql 7 true x0 (Value.slice none 0 0)) fun a=>cdM a (K (Value.slice none 0 0) h) (qboZ h x0 K)
variable {K:KTy}
theorem qfDZ {x0:Value}{h:Heap}(hd:qaeZ x0 h K):callM P qpZ #[x0] h K :=
 call_of good mixed (fn:=Tryz.f304) (args:=[x0]) Tryz.func304 rfl (by kernel_rfl) (of_decide_eq_true rfl) (B:=qaeZ x0 h K) (by kernel_rfl) hd
def qiqZ (x0 x1:Value)(h:Heap)(K:KTy):Prop:=nwM (some x0.cells) qdZ h fun a b=>ov (ldV (some none) x1 b) fun c=>ov (faV (some 3) a) fun d=>ov (ldV (some none) d b) fun e=>callM P qhOZ #[c,e] b fun f g=>K f g
theorem qpiZ {x0 x1:Value}{h:Heap}(hd:qiqZ x0 x1 h K):callM P qamZ #[x0,x1] h K :=
 call_of good mixed (fn:=Tryz.f305) (args:=[x0,x1]) Tryz.func305 rfl (by kernel_rfl) (of_decide_eq_true rfl) (B:=qiqZ x0 x1 h K) (by kernel_rfl) hd
def qdhZ (a b:Value)(c:Heap)(K:KTy):Prop:=ov (lnV 7 a) fun d=>ov (slV (some (none,1)) a (some d) (some b)) fun e=>vvM P (Builtin.clear_ #[qhZ] qosZ #[e]) c fun f g=>K a g
def qdiZ (x0 x1 x2:Value)(h:Heap)(K:KTy):Prop:=ov (lnV 7 x0) fun a=>ov (slV (some (none,1)) x0 none (some x1)) fun b=>ov (slV (some (none,1)) x0 (some x2) none) fun c=>vvM P (Builtin.append_ #[qhZ,qhZ] qhZ #[b,c]) h fun d e=>qdhZ d a e K
def qbHZ (x0 x1 x2:Value)(h:Heap)(K:KTy):Prop:=ov (lnV 7 x0) fun a=>ov (sl3V (some (none,1)) x0 (some x1) x2 a) fun b=>ov (binV BinOp.eql 2 false x1 x2) fun c=>cdM c (K x0 h) (qdiZ x0 x1 x2 h K)
theorem qitZ {x0 x1 x2:Value}{h:Heap}(hd:qbHZ x0 x1 x2 h K):callM P qbnZ #[x0,x1,x2] h K :=
 call_of good mixed (fn:=Tryz.f306) (args:=[x0,x1,x2]) Tryz.func306 rfl (by kernel_rfl) (of_decide_eq_true rfl) (B:=qbHZ x0 x1 x2 h K) (by kernel_rfl) hd
def qbSZ (x0:Value)(h:Heap)(K:KTy):Prop:=ov (binV BinOp.eql 7 true x0 (Value.slice none 0 0)) fun a=>cdM a (K (Value.slice none 0 0) h) (bsM (bsI P qhZ) 0 [] h fun b c=>vvM P (Builtin.append_ #[qhZ,qhZ] qhZ #[b,x0]) c fun d e=>K d e)
theorem qjSZ {x0:Value}{h:Heap}(hd:qbSZ x0 h K):callM P qrZ #[x0] h K :=
 call_of good mixed (fn:=Tryz.f307) (args:=[x0]) Tryz.func307 rfl (by kernel_rfl) (of_decide_eq_true rfl) (B:=qbSZ x0 h K) (by kernel_rfl) hd
def qdjZ (x1 a b x0:Value)(c:Heap)(K:KTy):Prop:=ov (binV BinOp.add 2 false x1 a) fun d=>ov (slV (some (none,1)) b (some d) none) fun e=>ov (slV (some (none,1)) x0 (some x1) none) fun f=>vvM P (Builtin.copy_ #[qhZ,qhZ] qoZ #[e,f]) c fun g h=>K b h
def qdkZ (a x1 x2:Value)(b:Heap)(c x0:Value)(K:KTy):Prop:=ov (slV (some (none,1)) a (some x1) none) fun d=>vvM P (Builtin.copy_ #[qhZ,qhZ] qoZ #[d,x2]) b fun e f=>qdjZ x1 c a x0 f K
def qdlZ (x0 x1 a b:Value)(c:Heap)(x2:Value)(K:KTy):Prop:=ov (slV (some (none,1)) x0 none (some x1)) fun d=>ov (binV BinOp.add 2 false a b) fun e=>ov (binV BinOp.sub 2 false e x1) fun f=>vvM P (Builtin.append_ #[qhZ,qoZ] qhZ #[d,f]) c fun g h=>qdkZ g x1 x2 h b x0 K
def qdmZ (x1 a b:Value)(c:Heap)(x2:Value)(K:KTy):Prop:=ov (binV BinOp.add 2 false x1 a) fun d=>ov (slV (some (none,1)) b (some d) none) fun e=>ov (slV (some (none,1)) b (some x1) none) fun f=>vvM P (Builtin.copy_ #[qhZ,qhZ] qoZ #[e,f]) c fun g h=>ov (slV (some (none,1)) b (some x1) none) fun i=>vvM P (Builtin.copy_ #[qhZ,qhZ] qoZ #[i,x2]) h fun j k=>K b k
def qdbZ (a b x2:Value)(c:Heap)(x1 d:Value)(K:KTy):Prop:=ov (slV (some (none,1)) a (some b) none) fun e=>vvM P (Builtin.copy_ #[qhZ,qhZ] qoZ #[e,x2]) c fun f g=>ov (slV (some (none,1)) a (some x1) none) fun h=>callM P qjLZ #[h,d] g fun i j=>K a j
def qdnZ (a x1 b c:Value)(d:Heap)(x2:Value)(K:KTy)(e:Value):Prop:=ov (unV UnOp.not a) fun f=>cdM f (qdmZ x1 b c d x2 K) (qdbZ c e x2 d x1 b K)
def qdoZ (a b x0 x1 x2:Value)(c:Heap)(K:KTy):Prop:=ov (binV BinOp.add 2 false a b) fun d=>ov (slV (some (none,1)) x0 none (some d)) fun e=>ov (binV BinOp.add 2 false x1 b) fun f=>ov (slV (some (none,1)) e (some f) none) fun g=>nxM P (callFunc qfEZ #[x2,g]) c fun h i=>qdnZ h x1 b e i x2 K a
def qdpZ (a b x0 x1 c d:Value)(e:Heap)(x2:Value)(K:KTy):Prop:=ov (binV BinOp.gtr 2 false a b) fun f=>cdM f (qdlZ x0 x1 c d e x2 K) (qdoZ c d x0 x1 x2 e K)
def qdqZ (a b x0:Value)(h:Heap)(x1 x2:Value)(K:KTy):Prop:=ov (binV BinOp.add 2 false a b) fun c=>vvM P (Builtin.cap_ #[qhZ] qoZ #[x0]) h fun d e=>qdpZ c d x0 x1 a b e x2 K
def qdrZ (x0 x1 x2:Value)(h:Heap)(K:KTy)(a:Value):Prop:=ov (lnV 7 x0) fun b=>ov (binV BinOp.eql 2 false x1 b) fun c=>cdM c (vvM P (Builtin.append_ #[qhZ,qhZ] qhZ #[x0,x2]) h fun d e=>K d e) (qdqZ b a x0 h x1 x2 K)
def qbIZ (x0 x1 x2:Value)(h:Heap)(K:KTy):Prop:=ov (slV (some (none,1)) x0 (some x1) none) fun a=>ov (lnV 7 x2) fun b=>ov (binV BinOp.eql 2 true b (Value.int IntKind.i64 0)) fun c=>cdM c (K x0 h) (qdrZ x0 x1 x2 h K b)
theorem qiuZ {x0 x1 x2:Value}{h:Heap}(hd:qbIZ x0 x1 x2 h K):callM P qkZ #[x0,x1,x2] h K :=
 call_of good mixed (fn:=Tryz.f310) (args:=[x0,x1,x2]) Tryz.func310 rfl (by kernel_rfl) (of_decide_eq_true rfl) (B:=qbIZ x0 x1 x2 h K) (by kernel_rfl) hd
def qmdZ (x0 x1:Value)(h:Heap)(K:KTy):Prop:=callM P qUZ #[x0,x1,(.func (.func qdCZ) #[] #[])] h fun a b=>ov (exV a 0) fun c=>ov (exV a 1) fun d=>K (.tuple #[c,d]) b
theorem qpNZ {x0 x1:Value}{h:Heap}(hd:qmdZ x0 x1 h K):callM P qfQZ #[x0,x1] h K :=
 call_of good mixed (fn:=Tryz.f312) (args:=[x0,x1]) Tryz.func312 rfl (by kernel_rfl) (of_decide_eq_true rfl) (B:=qmdZ x0 x1 h K) (by kernel_rfl) hd
def qbbZ (x1 a b x0:Value)(c:Heap)(K:KTy):Prop:=ov (binV BinOp.add 2 false x1 a) fun d=>ov (slV (some (none,4)) b (some d) none) fun e=>ov (slV (some (none,4)) x0 (some x1) none) fun f=>vvM P (Builtin.copy_ #[qfZ,qfZ] qoZ #[e,f]) c fun g h=>K b h
def qbcZ (a x1 x2:Value)(b:Heap)(c x0:Value)(K:KTy):Prop:=ov (slV (some (none,4)) a (some x1) none) fun d=>vvM P (Builtin.copy_ #[qfZ,qfZ] qoZ #[d,x2]) b fun e f=>qbbZ x1 c a x0 f K
def qbdZ (x0 x1 a b:Value)(c:Heap)(x2:Value)(K:KTy):Prop:=ov (slV (some (none,4)) x0 none (some x1)) fun d=>ov (binV BinOp.add 2 false a b) fun e=>ov (binV BinOp.sub 2 false e x1) fun f=>vvM P (Builtin.append_ #[qfZ,qoZ] qfZ #[d,f]) c fun g h=>qbcZ g x1 x2 h b x0 K
def qbaZ (a x1 x2:Value)(b:Heap)(K:KTy):Prop:=ov (slV (some (none,4)) a (some x1) none) fun c=>vvM P (Builtin.copy_ #[qfZ,qfZ] qoZ #[c,x2]) b fun d e=>K a e
def qbeZ (x1 a b:Value)(c:Heap)(x2:Value)(K:KTy):Prop:=ov (binV BinOp.add 2 false x1 a) fun d=>ov (slV (some (none,4)) b (some d) none) fun e=>ov (slV (some (none,4)) b (some x1) none) fun f=>vvM P (Builtin.copy_ #[qfZ,qfZ] qoZ #[e,f]) c fun g h=>qbaZ b x1 x2 h K
def qdWZ (a b x2:Value)(c:Heap)(x1 d:Value)(K:KTy):Prop:=ov (slV (some (none,4)) a (some b) none) fun e=>vvM P (Builtin.copy_ #[qfZ,qfZ] qoZ #[e,x2]) c fun f g=>ov (slV (some (none,4)) a (some x1) none) fun h=>callM P qgRZ #[h,d] g fun i j=>K a j
def qbfZ (a x1 b c:Value)(d:Heap)(x2:Value)(K:KTy)(e:Value):Prop:=ov (unV UnOp.not a) fun f=>cdM f (qbeZ x1 b c d x2 K) (qdWZ c e x2 d x1 b K)
def qbgZ (a b x0 x1 x2:Value)(c:Heap)(K:KTy):Prop:=ov (binV BinOp.add 2 false a b) fun d=>ov (slV (some (none,4)) x0 none (some d)) fun e=>ov (binV BinOp.add 2 false x1 b) fun f=>ov (slV (some (none,4)) e (some f) none) fun g=>nxM P (callFunc qdDZ #[x2,g]) c fun h i=>qbfZ h x1 b e i x2 K a
def qbhZ (a b x0 x1 c d:Value)(e:Heap)(x2:Value)(K:KTy):Prop:=ov (binV BinOp.gtr 2 false a b) fun f=>cdM f (qbdZ x0 x1 c d e x2 K) (qbgZ c d x0 x1 x2 e K)
def qbiZ (a b x0:Value)(h:Heap)(x1 x2:Value)(K:KTy):Prop:=ov (binV BinOp.add 2 false a b) fun c=>vvM P (Builtin.cap_ #[qfZ] qoZ #[x0]) h fun d e=>qbhZ c d x0 x1 a b e x2 K
def qbjZ (x0 x1 x2:Value)(h:Heap)(K:KTy)(a:Value):Prop:=ov (lnV 7 x0) fun b=>ov (binV BinOp.eql 2 false x1 b) fun c=>cdM c (vvM P (Builtin.append_ #[qfZ,qfZ] qfZ #[x0,x2]) h fun d e=>K d e) (qbiZ b a x0 h x1 x2 K)
def qYZ (x0 x1 x2:Value)(h:Heap)(K:KTy):Prop:=ov (slV (some (none,4)) x0 (some x1) none) fun a=>ov (lnV 7 x2) fun b=>ov (binV BinOp.eql 2 true b (Value.int IntKind.i64 0)) fun c=>cdM c (K x0 h) (qbjZ x0 x1 x2 h K b)
theorem qfaZ {x0 x1 x2:Value}{h:Heap}(hd:qYZ x0 x1 x2 h K):callM P qWZ #[x0,x1,x2] h K :=
 call_of good mixed (fn:=Tryz.f313) (args:=[x0,x1,x2]) Tryz.func313 rfl (by kernel_rfl) (of_decide_eq_true rfl) (B:=qYZ x0 x1 x2 h K) (by kernel_rfl) hd
def qbkZ (a b:Value)(c:Heap)(K:KTy):Prop:=ov (lnV 7 a) fun d=>ov (slV (some (none,4)) a (some d) (some b)) fun e=>vvM P (Builtin.clear_ #[qfZ] qosZ #[e]) c fun f g=>K a g
def qblZ (x0 x1 x2:Value)(h:Heap)(K:KTy):Prop:=ov (lnV 7 x0) fun a=>ov (slV (some (none,4)) x0 none (some x1)) fun b=>ov (slV (some (none,4)) x0 (some x2) none) fun c=>vvM P (Builtin.append_ #[qfZ,qfZ] qfZ #[b,c]) h fun d e=>qbkZ d a e K
def qZZ (x0 x1 x2:Value)(h:Heap)(K:KTy):Prop:=ov (lnV 7 x0) fun a=>ov (sl3V (some (none,4)) x0 (some x1) x2 a) fun b=>ov (binV BinOp.eql 2 false x1 x2) fun c=>cdM c (K x0 h) (qblZ x0 x1 x2 h K)
theorem qfbZ {x0 x1 x2:Value}{h:Heap}(hd:qZZ x0 x1 x2 h K):callM P qXZ #[x0,x1,x2] h K :=
 call_of good mixed (fn:=Tryz.f314) (args:=[x0,x1,x2]) Tryz.func314 rfl (by kernel_rfl) (of_decide_eq_true rfl) (B:=qZZ x0 x1 x2 h K) (by kernel_rfl) hd
def qjDZ (a x1:Value)(b:Heap)(x0:Value)(K:KTy):Prop:=gM (isB a true) (fun c=>c x1 b) b fun d e=>gM (isB a true) (fun f=>callM P qdfZ #[d] e fun g h=>f g h) e fun i j=>gM (isB a true) (fun k=>ov (unV UnOp.not i) fun l=>k l j) j fun m n=>ov (pkV a m (Value.bool false)) fun o=>gM (isB o false) (fun p=>p x0 n) n fun q r=>gM (isB o false) (fun s=>s x1 r) r fun t u=>gM (isB o false) (fun v=>ov (binV BinOp.lss 3 false q t) fun w=>v w u) u fun x y=>ov (pkV o (Value.bool true) x) fun z=>K z y
def qgOZ (x0 x1:Value)(h:Heap)(K:KTy):Prop:=callM P qdfZ #[x0] h fun a b=>qjDZ a x1 b x0 K
theorem qoJZ {x0 x1:Value}{h:Heap}(hd:qgOZ x0 x1 h K):callM P qfRZ #[x0,x1] h K :=
 call_of good mixed (fn:=Tryz.f316) (args:=[x0,x1]) Tryz.func316 rfl (by kernel_rfl) (of_decide_eq_true rfl) (B:=qgOZ x0 x1 h K) (by kernel_rfl) hd
def qdXZ (x0:Value)(h:Heap)(K:KTy):Prop:=ov (binV BinOp.neq 3 false x0 x0) fun a=>K a h
theorem qmLZ {x0:Value}{h:Heap}(hd:qdXZ x0 h K):callM P qceZ #[x0] h K :=
 call_of good mixed (fn:=Tryz.f317) (args:=[x0]) Tryz.func317 rfl (by kernel_rfl) (of_decide_eq_true rfl) (B:=qdXZ x0 h K) (by kernel_rfl) hd
def qbuZ (a b:Value)(c:Heap)(K:KTy):Prop:=ov (lnV 7 a) fun d=>ov (slV (some (none,4)) a (some d) (some b)) fun e=>vvM P (Builtin.clear_ #[qcZ] qosZ #[e]) c fun f g=>K a g
def qbvZ (x0 x1 x2:Value)(h:Heap)(K:KTy):Prop:=ov (lnV 7 x0) fun a=>ov (slV (some (none,4)) x0 none (some x1)) fun b=>ov (slV (some (none,4)) x0 (some x2) none) fun c=>vvM P (Builtin.append_ #[qcZ,qcZ] qcZ #[b,c]) h fun d e=>qbuZ d a e K
def qaiZ (x0 x1 x2:Value)(h:Heap)(K:KTy):Prop:=ov (lnV 7 x0) fun a=>ov (sl3V (some (none,4)) x0 (some x1) x2 a) fun b=>ov (binV BinOp.eql 2 false x1 x2) fun c=>cdM c (K x0 h) (qbvZ x0 x1 x2 h K)
theorem qfGZ {x0 x1 x2:Value}{h:Heap}(hd:qaiZ x0 x1 x2 h K):callM P qadZ #[x0,x1,x2] h K :=
 call_of good mixed (fn:=Tryz.f318) (args:=[x0,x1,x2]) Tryz.func318 rfl (by kernel_rfl) (of_decide_eq_true rfl) (B:=qaiZ x0 x1 x2 h K) (by kernel_rfl) hd
def qbPZ (h:Heap)(x0:Value)(K:KTy):Prop:=bsM (bsI P qcZ) 0 [] h fun a b=>vvM P (Builtin.append_ #[qcZ,qcZ] qcZ #[a,x0]) b fun c d=>K c d
def qarZ (x0:Value)(h:Heap)(K:KTy):Prop:=ov (binV BinOp.eql 7 true x0 (Value.slice none 0 0)) fun a=>cdM a (K (Value.slice none 0 0) h) (qbPZ h x0 K)
theorem qgoZ {x0:Value}{h:Heap}(hd:qarZ x0 h K):callM P qbZ #[x0] h K :=
 call_of good mixed (fn:=Tryz.f319) (args:=[x0]) Tryz.func319 rfl (by kernel_rfl) (of_decide_eq_true rfl) (B:=qarZ x0 h K) (by kernel_rfl) hd
def qbwZ (x1 a b x0:Value)(c:Heap)(K:KTy):Prop:=ov (binV BinOp.add 2 false x1 a) fun d=>ov (slV (some (none,4)) b (some d) none) fun e=>ov (slV (some (none,4)) x0 (some x1) none) fun f=>vvM P (Builtin.copy_ #[qcZ,qcZ] qoZ #[e,f]) c fun g h=>K b h
def qbxZ (a x1 x2:Value)(b:Heap)(c x0:Value)(K:KTy):Prop:=ov (slV (some (none,4)) a (some x1) none) fun d=>vvM P (Builtin.copy_ #[qcZ,qcZ] qoZ #[d,x2]) b fun e f=>qbwZ x1 c a x0 f K
def qbyZ (x0 x1 a b:Value)(c:Heap)(x2:Value)(K:KTy):Prop:=ov (slV (some (none,4)) x0 none (some x1)) fun d=>ov (binV BinOp.add 2 false a b) fun e=>ov (binV BinOp.sub 2 false e x1) fun f=>vvM P (Builtin.append_ #[qcZ,qoZ] qcZ #[d,f]) c fun g h=>qbxZ g x1 x2 h b x0 K
def qbpZ (a x1 x2:Value)(b:Heap)(K:KTy):Prop:=ov (slV (some (none,4)) a (some x1) none) fun c=>vvM P (Builtin.copy_ #[qcZ,qcZ] qoZ #[c,x2]) b fun d e=>K a e
def qbzZ (x1 a b:Value)(c:Heap)(x2:Value)(K:KTy):Prop:=ov (binV BinOp.add 2 false x1 a) fun d=>ov (slV (some (none,4)) b (some d) none) fun e=>ov (slV (some (none,4)) b (some x1) none) fun f=>vvM P (Builtin.copy_ #[qcZ,qcZ] qoZ #[e,f]) c fun g h=>qbpZ b x1 x2 h K
def qeZZ (a b x2:Value)(c:Heap)(x1 d:Value)(K:KTy):Prop:=ov (slV (some (none,4)) a (some b) none) fun e=>vvM P (Builtin.copy_ #[qcZ,qcZ] qoZ #[e,x2]) c fun f g=>ov (slV (some (none,4)) a (some x1) none) fun h=>callM P qhsZ #[h,d] g fun i j=>K a j
def qbAZ (a x1 b c:Value)(d:Heap)(x2:Value)(K:KTy)(e:Value):Prop:=ov (unV UnOp.not a) fun f=>cdM f (qbzZ x1 b c d x2 K) (qeZZ c e x2 d x1 b K)
def qbBZ (a b x0 x1 x2:Value)(c:Heap)(K:KTy):Prop:=ov (binV BinOp.add 2 false a b) fun d=>ov (slV (some (none,4)) x0 none (some d)) fun e=>ov (binV BinOp.add 2 false x1 b) fun f=>ov (slV (some (none,4)) e (some f) none) fun g=>nxM P (callFunc qdKZ #[x2,g]) c fun h i=>qbAZ h x1 b e i x2 K a
def qbCZ (a b x0 x1 c d:Value)(e:Heap)(x2:Value)(K:KTy):Prop:=ov (binV BinOp.gtr 2 false a b) fun f=>cdM f (qbyZ x0 x1 c d e x2 K) (qbBZ c d x0 x1 x2 e K)
def qbDZ (a b x0:Value)(h:Heap)(x1 x2:Value)(K:KTy):Prop:=ov (binV BinOp.add 2 false a b) fun c=>vvM P (Builtin.cap_ #[qcZ] qoZ #[x0]) h fun d e=>qbCZ c d x0 x1 a b e x2 K
def qbEZ (x0 x1 x2:Value)(h:Heap)(K:KTy)(a:Value):Prop:=ov (lnV 7 x0) fun b=>ov (binV BinOp.eql 2 false x1 b) fun c=>cdM c (vvM P (Builtin.append_ #[qcZ,qcZ] qcZ #[x0,x2]) h fun d e=>K d e) (qbDZ b a x0 h x1 x2 K)
def qajZ (x0 x1 x2:Value)(h:Heap)(K:KTy):Prop:=ov (slV (some (none,4)) x0 (some x1) none) fun a=>ov (lnV 7 x2) fun b=>ov (binV BinOp.eql 2 true b (Value.int IntKind.i64 0)) fun c=>cdM c (K x0 h) (qbEZ x0 x1 x2 h K b)
theorem qfHZ {x0 x1 x2:Value}{h:Heap}(hd:qajZ x0 x1 x2 h K):callM P qgZ #[x0,x1,x2] h K :=
 call_of good mixed (fn:=Tryz.f320) (args:=[x0,x1,x2]) Tryz.func320 rfl (by kernel_rfl) (of_decide_eq_true rfl) (B:=qajZ x0 x1 x2 h K) (by kernel_rfl) hd
def qaPZ (a:Post)(m:List Nat)(b:Env)(c d e f:Value)(g:Heap):Prop:=a .ret m (puts b [(9,c),(10,(b 8)),(5,(b 8)),(11,(b 1)),(12,(b 0)),(13,(b 8)),(14,d),(15,e),(16,f),(17,(b 8)),(4,(b 8))]) g
def qaQZ (a:Env)(b:Post)(m:List Nat)(c d e f:Value)(g:Heap):Prop:=ov (binV BinOp.add 2 true (a 8) (Value.int IntKind.i64 1)) fun h=>b .normal m (puts a [(9,c),(10,(a 8)),(5,(a 8)),(11,(a 1)),(12,(a 0)),(13,(a 8)),(14,d),(15,e),(16,f),(18,h),(8,h)]) g
def qaRZ (a:Value)(b:Post)(m:List Nat)(c:Env)(d e f:Value)(g:Heap):Prop:=cdM a (qaPZ b m c d e f a g) (qaQZ c b m d e f a g)
def qaSZ (a:Env)(b:Heap)(c:Post)(m:List Nat)(e:Value):Prop:=ov (iaV (some (none,4)) (a 0) (a 8)) fun f=>ov (ldV (some (some 4)) f b) fun g=>nxM P (do let d ← Deferred.ofValue (a 1) #[g] ; invoke d.target d.args) b fun h i=>qaRZ h c m a e f g i
def qaTZ (a:Env)(b:Heap)(c:Post)(m:List Nat):Prop:=ov (binV BinOp.lss 2 false (a 8) (a 7)) fun d=>cdM d (qaSZ a b c m d) (c (.exit 0) m (puts a [(9,d)]) b)
def qaUZ (x0 x1:Value)(h:Heap)(a:Post):Prop:=ov (lnV 7 x0) fun b=>loopM (fun m c d e=>qaTZ c d e m) [] (puts (envOf [x0,x1]) [(4,(Value.int IntKind.i64 0)),(6,x0),(7,b),(8,(Value.int IntKind.i64 0))]) h (blkM 0 a)
def qLZ (x0 x1:Value)(h:Heap)(K:KTy):Prop:=seqM (fun a=>qaUZ x0 x1 h a) (fun m b c=>(retM P [.tmp 4] K) .ret m (puts b [(4,(Value.int IntKind.i64 (-1)))]) c) (retM P [.tmp 4] K)
theorem qdYZ {x0 x1:Value}{h:Heap}(hd:qLZ x0 x1 h K):callM P qHZ #[x0,x1] h K :=
 call_of good mixed (fn:=Tryz.f321) (args:=[x0,x1]) Tryz.func321 rfl (by kernel_rfl) (of_decide_eq_true rfl) (B:=qLZ x0 x1 h K) (by kernel_rfl) hd
def qNZ (a:Value)(b:Post)(m:List Nat)(c:Env)(d e f g h i j k:Value)(l:Heap):Prop:=ov (binV BinOp.add 2 true a (Value.int IntKind.i64 1)) fun n=>b .normal m (puts c [(15,(c 9)),(16,(c 10)),(17,d),(18,(c 9)),(19,(c 10)),(20,e),(21,f),(22,g),(23,a),(11,a),(24,(c 2)),(25,(c 0)),(26,a),(27,h),(28,i),(29,(c 1)),(30,j),(31,k),(32,a),(33,n),(9,n)]) l
def qOZ (a:Post)(m:List Nat)(b:Env)(c d e f g h i j k:Value)(l:Heap):Prop:=a .normal m (puts b [(15,(b 9)),(16,(b 10)),(17,c),(18,(b 9)),(19,(b 10)),(20,d),(21,e),(22,f),(23,g),(11,g),(24,(b 2)),(25,(b 0)),(26,g),(27,h),(28,i),(29,(b 1)),(30,j),(31,k),(34,g),(10,g)]) l
def qPZ (a b:Value)(c:Post)(m:List Nat)(d:Env)(e f g h i j:Value)(k:Heap):Prop:=ov (binV BinOp.lss 2 true a (Value.int IntKind.i64 0)) fun l=>cdM l (qNZ b c m d e f g h i j a l k) (qOZ c m d e f g h b i j a l k)
def qQZ (a:Env)(b:Heap)(c:Post)(m:List Nat)(e:Value):Prop:=ov (binV BinOp.add 2 false (a 9) (a 10)) fun f=>ov (cvV (some .u64) f) fun g=>ov (binV BinOp.shr 2 true g (Value.int IntKind.u64 1)) fun h=>ov (cvV (some .i64) h) fun i=>ov (iaV (some (none,4)) (a 0) i) fun j=>ov (ldV (some (some 4)) j b) fun k=>nxM P (do let d ← Deferred.ofValue (a 2) #[k,(a 1)] ; invoke d.target d.args) b fun l n=>qPZ l i c m a e f g h j k n
def qRZ (a:Env)(b:Heap)(c:Post)(m:List Nat):Prop:=ov (binV BinOp.lss 2 false (a 9) (a 10)) fun d=>cdM d (qQZ a b c m d) (c (.exit 0) m (puts a [(15,(a 9)),(16,(a 10)),(17,d)]) b)
def qSZ (x0 x1 x2 a:Value)(h:Heap)(b:Post):Prop:=loopM (fun m c d e=>qRZ c d e m) [] (puts (envOf [x0,x1,x2]) [(6,(Value.int IntKind.i64 0)),(7,(Value.bool false)),(12,x0),(13,a),(8,a),(14,a),(9,(Value.int IntKind.i64 0)),(10,a)]) h (blkM 0 b)
def qTZ (a:Env)(b:Heap)(K:KTy)(m:List Nat):Prop:=ov (binV BinOp.lss 2 false (a 9) (a 8)) fun c=>gM (isB c true) (fun e=>e (a 2) b) b fun f g=>gM (isB c true) (fun h=>h (a 0) g) g fun i j=>gM (isB c true) (fun k=>k (a 9) j) j fun l n=>gM (isB c true) (fun o=>ov (iaV (some (none,4)) i l) fun p=>o p n) n fun q r=>gM (isB c true) (fun s=>ov (ldV (some (some 4)) q r) fun t=>s t r) r fun u v=>gM (isB c true) (fun w=>w (a 1) v) v fun x y=>gM (isB c true) (fun z=>nxM P (do let d ← Deferred.ofValue f #[u,x] ; invoke d.target d.args) y fun aa ab=>z aa ab) y fun ac ad=>gM (isB c true) (fun ae=>ov (binV BinOp.eql 2 true ac (Value.int IntKind.i64 0)) fun af=>ae af ad) ad fun ag ah=>ov (pkV c ag (Value.bool false)) fun ai=>(retM P [.tmp 6,.tmp 7] K) .ret m (puts a [(35,(a 9)),(36,(a 9)),(37,(a 8)),(38,c),(39,c),(40,f),(41,i),(42,l),(43,q),(44,u),(45,x),(46,ac),(47,ag),(48,ai),(6,(a 9)),(7,ai)]) ah
def qwZ (x0 x1 x2:Value)(h:Heap)(K:KTy):Prop:=ov (lnV 7 x0) fun a=>seqM (fun b=>qSZ x0 x1 x2 a h b) (fun m c d=>qTZ c d K m) (retM P [.tmp 6,.tmp 7] K)
theorem qcEZ {x0 x1 x2:Value}{h:Heap}(hd:qwZ x0 x1 x2 h K):callM P qUZ #[x0,x1,x2] h K :=
 call_of good mixed (fn:=Tryz.f326) (args:=[x0,x1,x2]) Tryz.func326 rfl (by kernel_rfl) (of_decide_eq_true rfl) (B:=qwZ x0 x1 x2 h K) (by kernel_rfl) hd
def qjTZ (x0 x1:Value)(h:Heap)(K:KTy):Prop:=nwM (some x0.cells) qdZ h fun a b=>ov (faV (some 0) a) fun c=>ov (ldV (some none) c b) fun d=>callM P qfSZ #[d,x1] b fun e f=>K e f
theorem qppZ {x0 x1:Value}{h:Heap}(hd:qjTZ x0 x1 h K):callM P qdCZ #[x0,x1] h K :=
 call_of good mixed (fn:=Tryz.f327) (args:=[x0,x1]) Tryz.func327 rfl (by kernel_rfl) (of_decide_eq_true rfl) (B:=qjTZ x0 x1 h K) (by kernel_rfl) hd
def qjEZ (x0 x1:Value)(K:KTy)(a:Heap):Prop:=ov (binV BinOp.lss 2 false x0 x1) fun b=>cdM b (K (Value.int IntKind.i64 (-1)) a) (ov (binV BinOp.gtr 2 false x0 x1) fun c=>cdM c (K (Value.int IntKind.i64 1) a) (K (Value.int IntKind.i64 0) a))
def qjFZ (a:Value)(K:KTy)(b:Heap)(x0 x1:Value):Prop:=cdM a (K (Value.int IntKind.i64 1) b) (qjEZ x0 x1 K b)
def qjGZ (a b:Value)(K:KTy)(c:Heap)(x0 x1:Value):Prop:=cdM a (cdM b (K (Value.int IntKind.i64 0) c) (K (Value.int IntKind.i64 (-1)) c)) (qjFZ b K c x0 x1)
def qjHZ (x1:Value)(a:Heap)(b:Value)(K:KTy)(x0:Value):Prop:=callM P qeRZ #[x1] a fun c d=>qjGZ b c K d x0 x1
def qgPZ (x0 x1:Value)(h:Heap)(K:KTy):Prop:=callM P qeRZ #[x0] h fun a b=>qjHZ x1 b a K x0
theorem qoKZ {x0 x1:Value}{h:Heap}(hd:qgPZ x0 x1 h K):callM P qfSZ #[x0,x1] h K :=
 call_of good mixed (fn:=Tryz.f328) (args:=[x0,x1]) Tryz.func328 rfl (by kernel_rfl) (of_decide_eq_true rfl) (B:=qgPZ x0 x1 h K) (by kernel_rfl) hd
def qgpZ (x0:Value)(h:Heap)(K:KTy):Prop:=ov (binV BinOp.neq 3 false x0 x0) fun a=>K a h
theorem qorZ {x0:Value}{h:Heap}(hd:qgpZ x0 h K):callM P qdfZ #[x0] h K :=
 call_of good mixed (fn:=Tryz.f332) (args:=[x0]) Tryz.func332 rfl (by kernel_rfl) (of_decide_eq_true rfl) (B:=qgpZ x0 h K) (by kernel_rfl) hd
def qirZ (x0:Value)(h:Heap)(K:KTy):Prop:=ov (binV BinOp.neq 2 false x0 x0) fun a=>K a h
theorem qpjZ {x0:Value}{h:Heap}(hd:qirZ x0 h K):callM P qeRZ #[x0] h K :=
 call_of good mixed (fn:=Tryz.f337) (args:=[x0]) Tryz.func337 rfl (by kernel_rfl) (of_decide_eq_true rfl) (B:=qirZ x0 h K) (by kernel_rfl) hd
end Go.Proofs.YtcnphhhcknhhaaaGreat
namespace Go.Proofs.YtcnphhhcknhhaaaGreat
open Go Go.Den Go.MapKept
set_option linter.unusedSimpArgs false
set_option linter.unusedVariables false
set_option maxRecDepth 20000
def ringC (r:Ring)(lv:Value):List Value:=[.int .i64 r.room,lv,.bool r.lost]
def RingR (T:Tags)(h:Heap)(g:Tag)(p:Nat)(r:Ring):Prop :=
 ∃ lv,h p=some (.cells (ringC r lv).toArray qFZ (0,0))∧T p=g++[0]∧Rw T h (g++[1]) 8 qcZZ lv r.l.length (r.l.flatMap evC)
theorem RingR.kp {U:Tag→Prop}{T T':Tags}{h h':Heap}{g:Tag}{p:Nat}{r:Ring}(x:RingR T h g p r)(k:Kp U T h T' h')(o:Off U g):RingR T' h' g p r:=by
 obtain⟨lv,h1,h2,h3⟩:=x
 obtain⟨h4,h5⟩:=k.at h1 h2 (o.at _)
 exact⟨lv,h4,h5,h3.kp k (o.at _)⟩
def feedG (kv vv:Value)(q:Nat→Value):Nat→Value
 | 0=>kv
 | 1=>vv
 | k+2=>q k
def feedC (kv vv:Value)(q:Nat→Value):List Value:=(List.range 10).map (feedG kv vv q)
abbrev ptr (b:Nat):Value:=.pointer (some ⟨b,0,none⟩)
def FeedR (T:Tags)(h:Heap)(g:Tag)(p:Nat)(f:Feed):Prop :=
 ∃ (kv vv:Value) (q:Nat→Nat),h p=some (.cells (feedC kv vv fun j=>ptr (q j)).toArray qdaZ (0,0))∧T p=g++[0]∧Sl 1 StrR (fz T h) kv (f.ws.map (·.1))∧Sl 1 MaskR (fz T h) vv (f.ws.map (·.2)) ∧
  (∀ j,j<8→RingR T h (g++[1,j]) (q j) (f.qs j))∧Sn kv∧Sn vv
theorem FeedR.kp {U:Tag→Prop}{T T':Tags}{h h':Heap}{g:Tag}{p:Nat}{f:Feed}(x:FeedR T h g p f)(k:Kp U T h T' h')(o:Off U g)(n:¬ U []):FeedR T' h' g p f:=by
 obtain⟨kv,vv,q,h1,h2,h3,h4,h5,h5s⟩:=x
 obtain⟨h6,h7⟩:=k.at h1 h2 (o.at _)
 exact⟨kv,vv,q,h6,h7,h3.ext (@StrR.ext) (k.ext n),h4.ext (@MaskR.ext) (k.ext n),fun j hj=>(h5 j hj).kp k (o.app _),h5s⟩
structure SV where
 sk:Value
 sv:Value
 bk:Value
 bv:Value
 fp:Nat
def strC (x:Strp)(y:SV):List Value:=[.int .i64 x.who,.int .u64 x.v,.int .u64 x.bound,y.sk,y.sv,y.bk,y.bv,ptr y.fp]
def StrpR (T:Tags)(h:Heap)(g:Tag)(x:Strp)(y:SV):Prop:=BookR (fz T h) y.sk y.sv x.snap∧BookR (fz T h) y.bk y.bv x.book∧FeedR T h g y.fp x.feed
theorem StrpR.kp {U:Tag→Prop}{T T':Tags}{h h':Heap}{g:Tag}{x:Strp}{y:SV}(r:StrpR T h g x y)(k:Kp U T h T' h')(o:Off U g)(n:¬ U []):StrpR T' h' g x y :=
 ⟨r.1.ext (k.ext n),r.2.1.ext (k.ext n),r.2.2.kp k o n⟩
def hallC (H:Hall)(sv av:Value):List Value:=[.int .i64 H.c.stripes,.int .i64 H.c.sessions,.int .i64 H.c.queue,.int .i64 H.c.watches,.int .i64 H.c.retries,.int .u64 H.c.epochs,.int .u64 H.c.start,
 .int .u64 H.t.now,.int .u64 H.t.seq,.bool H.t.closed,sv,av]
structure HallX (T:Tags)(h:Heap)(g:Tag)(p:Nat)(H:Hall)(sv av:Value)(Y:Nat→SV):Prop where
 hp:h p=some (.cells (hallC H sv av).toArray qanZ (0,0))
 tp:T p=g++[0]
 st:Rw T h (g++[1]) 8 qbQZ sv H.n (seqF H.n fun i=>strC (H.ss i) (Y i))
 ac:Rw T h (g++[2]) 3 qgrZ av H.acts.length (H.acts.flatMap actC)
 sr:∀ i,i<H.n→StrpR T h (g++[3,i]) (H.ss i) (Y i)
def HallR (T:Tags)(h:Heap)(g:Tag)(p:Nat)(H:Hall):Prop:=∃ sv av Y,HallX T h g p H sv av Y
theorem HallR.kp {U:Tag→Prop}{T T':Tags}{h h':Heap}{g:Tag}{p:Nat}{H:Hall}(x:HallR T h g p H)(k:Kp U T h T' h')(o:Off U g)(n:¬ U []):HallR T' h' g p H:=by
 obtain⟨sv,av,Y,x⟩:=x
 obtain⟨h1,h2⟩:=k.at x.hp x.tp (o.at _)
 exact⟨sv,av,Y,h1,h2,x.st.kp k (o.at _),x.ac.kp k (o.at _),fun i hi=>(x.sr i hi).kp k (o.app _) n⟩
theorem bsAct:bsI P qduZ=some (qgrZ,3,#[.int .i64 0,.int .i64 0,.int .i64 0]):=by kernel_rfl
theorem unSlAct:P.underlying qduZ=some (.slice qgrZ):=by kernel_rfl
theorem apAct:apC P qgrZ=some (3,24,3):=by kernel_rfl
theorem bdAct (a b c:Int):bdV (binf P qgrZ) [(0,.int .i64 a),(1,.int .i64 b),(2,.int .i64 c)]=some (.agg #[.int .i64 a,.int .i64 b,.int .i64 c]):=by kernel_rfl
theorem zcTime:zc P qMZ=some #[.int .u64 0,.int .u64 0,.bool false]:=by kernel_rfl
theorem zcCfg:zc P qaWZ=some #[.int .i64 0,.int .i64 0,.int .i64 0,.int .i64 0,.int .i64 0,.int .u64 0,.int .u64 0]:=by kernel_rfl
theorem bdTime (a:Int):bdV (binf P qMZ) [(0,.int .u64 a)]=some (.agg #[.int .u64 a,.int .u64 0,.bool false]):=by kernel_rfl
theorem bdHall (a b c d e f g t s:Int)(k:Bool):bdV (binf P qanZ) [(0,.agg #[.int .i64 a,.int .i64 b,.int .i64 c,.int .i64 d,.int .i64 e,.int .u64 f,.int .u64 g]),(1,.agg #[.int .u64 t,.int .u64 s,.bool k])] =
 some (.agg #[.int .i64 a,.int .i64 b,.int .i64 c,.int .i64 d,.int .i64 e,.int .u64 f,.int .u64 g,.int .u64 t,.int .u64 s,.bool k,.slice none 0 0,.slice none 0 0]):=by kernel_rfl
theorem bdStripe (v b:Int)(fp:Option Addr):bdV (binf P qbQZ) [(1,.agg #[.int .u64 v,.int .u64 b]),(4,.pointer fp)] =
 some (.agg #[.int .i64 0,.int .u64 v,.int .u64 b,.slice none 0 0,.slice none 0 0,.slice none 0 0,.slice none 0 0,.pointer fp]):=by kernel_rfl
theorem bsStripe:bsI P qbrZ=some (qbQZ,8,#[.int .i64 0,.int .u64 0,.int .u64 0,.slice none 0 0,.slice none 0 0,.slice none 0 0,.slice none 0 0,.pointer none]):=by kernel_rfl
theorem unSlStripe:P.underlying qbrZ=some (.slice qbQZ):=by kernel_rfl
theorem apStripe:apC P qbQZ=some (8,128,8):=by kernel_rfl
theorem bdFeed:bdV (binf P qdaZ) []=some (.agg #[.slice none 0 0,.slice none 0 0,.pointer none,.pointer none,.pointer none,.pointer none,.pointer none,.pointer none,.pointer none,.pointer none]):=by kernel_rfl
theorem bdRing (n:Int):bdV (binf P qFZ) [(0,.int .i64 n)]=some (.agg #[.int .i64 n,.slice none 0 0,.bool false]):=by kernel_rfl
theorem bdCell (n:Int):bdV (binf P qzZ) [(1,.int .u64 n)]=some (.agg #[.int .u64 0,.int .u64 n]):=by kernel_rfl
theorem zcCell:zc P qzZ=some #[.int .u64 0,.int .u64 0]:=by kernel_rfl
theorem zcLatch:zc P qjZ=some #[.int .i64 0]:=by kernel_rfl
theorem bdLatch (n:Int):bdV (binf P qjZ) [(0,.int .i64 n)]=some (.agg #[.int .i64 n]):=by kernel_rfl
theorem bdLatch0:bdV (binf P qjZ) []=some (.agg #[.int .i64 0]):=by kernel_rfl
variable {K:KTy}
theorem within_ok (n lo hi:Int){h:Heap}(hk:K (.bool (decide (lo≤n∧n≤hi))) h):callM P qafZ #[.int .i64 n,.int .i64 lo,.int .i64 hi] h K:=by
 apply qplZ
 unfold qjNZ
 by_cases h1:lo≤n<;>simpa [h1] using hk
theorem place_ok (s w:Int){h:Heap}(hs:0≤s∧s<1000∧0≤w∧w<10)(hk:K (.int .i64 (4*s+w)) h):callM P qJZ #[.int .i64 s,.int .i64 w] h K:=by
 apply qpxZ
 unfold qlcZ
 simp only[bin_mul,bin_add,ov_s,wrap64_id (n:=4*s) (by omega) (by omega),wrap64_id (n:=4*s+w) (by omega) (by omega)]
 exact hk
end Go.Proofs.YtcnphhhcknhhaaaGreat
namespace Go.Proofs.YtcnphhhcknhhaaaGreat
open Go Go.Den Go.MapKept
set_option linter.unusedSimpArgs false
set_option linter.unusedVariables false
set_option maxRecDepth 20000
variable {K:KTy}
theorem hashRight_ok (s:ByteArray){h:Heap}(hk:K (.bool (nameB s)) h):callM P qdtZ #[.string s] h K:=by
 apply qpyZ
 unfold qldZ
 have:nameB s=(!decide (s=⟨#[]⟩) && decide ((s.size:Int)≤16)):=by
  unfold nameB; by_cases h0:s.size=0
  ·rw[(str_empty s).2 h0]; rfl
  ·have:¬ s=⟨#[]⟩:=fun e=>h0 ((str_empty s).1 e)
   rw[Bool.eq_iff_iff]; simp[this]; omega
 rw[this] at hk
 simp +contextual -implicitDefEqProofs[-Bool.decide_eq_true]
 exact hk
theorem sessRight_ok (a b c:Int){h:Heap}(hk:K (.bool (decide (0≤a∧a≤255∧1≤b∧b≤9∧0≤c∧c≤9))) h):callM P qkCZ #[.int .i64 a,.int .i64 b,.int .i64 c] h K:=by
 apply qpzZ
 unfold qleZ
 simp +contextual -implicitDefEqProofs
 simpa [Bool.decide_and,and_assoc,Bool.and_assoc] using hk
theorem modRight_ok (c:Cfg){h:Heap}(hk:∀ h',Ext h h'→K (.bool (rightB c)) h'):callM P qjIZ #[.agg (cfgC c).toArray] h K:=by
 apply qprZ
 unfold qkHZ
 refine nw_agg fun v1 h2 n2 e2 c2=>?_
 simp only[cfgC] at c2
 simp only[faV_p,ov_s,ldV_c,cel_of c2,Nat.zero_add,List.getElem?_toArray,List.getElem?_cons_zero]
 refine within_ok _ _ _ ?_
 unfold qlAZ
 simp +contextual -implicitDefEqProofs[cel_of c2]
 refine gM_call0 (a:=.bool (decide (1≤c.sessions∧c.sessions≤8))) (fun hc K' hk'=>within_ok _ _ _ hk') ?_
 simp +contextual -implicitDefEqProofs[cel_of c2]
 refine gM_call0 (a:=.bool (decide (1≤c.queue∧c.queue≤16))) (fun hc K' hk'=>within_ok _ _ _ hk') ?_
 simp +contextual -implicitDefEqProofs[cel_of c2]
 refine gM_call0 (a:=.bool (decide (1≤c.watches∧c.watches≤8))) (fun hc K' hk'=>within_ok _ _ _ hk') ?_
 simp +contextual -implicitDefEqProofs[cel_of c2]
 refine gM_call0 (a:=.bool (decide (0≤c.retries∧c.retries≤4))) (fun hc K' hk'=>within_ok _ _ _ hk') ?_
 simp +contextual -implicitDefEqProofs[cel_of c2]
 refine kb (hk h2 e2) ?_
 rw[Bool.eq_iff_iff]; simp[rightB]; omega
end Go.Proofs.YtcnphhhcknhhaaaGreat
namespace Go.Den
open Go
set_option linter.unusedVariables false
def fnvX (h b:Int):Int:=IntKind.u64.wrap (BitVec.ofInt 64 h ^^^ BitVec.ofInt 64 b).toNat
def fnvStep (h b:Int):Int:=IntKind.u64.wrap (fnvX h b*1099511628211)
def byteAt (s:ByteArray)(i:Nat):Int:=match s[i]? with
 | some b=>b.toNat
 | none=>0
def fnvTo (s:ByteArray):Nat→Int
 | 0=>14695981039346656037
 | i+1=>fnvStep (fnvTo s i) (byteAt s i)
def fnv (s:ByteArray):Int:=fnvTo s s.size
theorem wrapU_rng (n:Int):0≤IntKind.u64.wrap n∧IntKind.u64.wrap n≤18446744073709551615:=by
 simp only[IntKind.wrap,IntKind.bits,IntKind.signed]
 simp
 omega
theorem wrapU_id {n:Int}(h0:0≤n)(h1:n≤18446744073709551615):IntKind.u64.wrap n=n:=by
 simp only[IntKind.wrap,IntKind.bits,IntKind.signed]
 simp
 omega
theorem andNot1 (b:Int)(hb:U64 b):IntKind.u64.wrap (BitVec.ofInt 64 b &&& ~~~BitVec.ofInt 64 1).toNat=evn b:=by
 obtain⟨n,rfl⟩:∃ n:Nat,b=n:=⟨b.toNat,by have:=hb.1; omega⟩
 have hn:n<18446744073709551616:=by have:=hb.2; omega
 have e:(BitVec.ofInt 64 n &&& ~~~BitVec.ofInt 64 1).toNat=n / 2*2:=by
  rw[BitVec.toNat_and]
  have h0:(BitVec.ofInt 64 (n:Int)).toNat=n:=by simp; omega
  have h1:(~~~BitVec.ofInt 64 1).toNat=(2 ^ 63-1)*2 ^ 1:=by rfl
  rw[h0,h1]
  apply Nat.eq_of_testBit_eq
  intro i
  rw[Nat.testBit_and,Nat.testBit_mul_two_pow,Nat.testBit_two_pow_sub_one,show n / 2*2=(n / 2)*2 ^ 1 by omega,Nat.testBit_mul_two_pow,Nat.testBit_div_two]
  by_cases h:1≤i
  ·rw[show i-1+1=i by omega]
   by_cases h2:i-1<63
   ·simp[h,h2]
   ·have:n.testBit i=false:=Nat.testBit_lt_two_pow (Nat.lt_of_lt_of_le hn (by rw[show 18446744073709551616=2 ^ 64 by rfl]; exact Nat.pow_le_pow_right (by omega) (by omega)))
    simp[this]
  ·simp[h]
 rw[e,wrapU_id (by omega) (by omega)]
 unfold evn; omega
theorem and1 (b:Int)(hb:U64 b):IntKind.u64.wrap (BitVec.ofInt 64 b &&& BitVec.ofInt 64 1).toNat=b % 2:=by
 obtain⟨n,rfl⟩:∃ n:Nat,b=n:=⟨b.toNat,by have:=hb.1; omega⟩
 have hn:n<18446744073709551616:=by have:=hb.2; omega
 have e:(BitVec.ofInt 64 n &&& BitVec.ofInt 64 1).toNat=n % 2:=by
  rw[BitVec.toNat_and]
  have:(BitVec.ofInt 64 (n:Int)).toNat=n:=by simp; omega
  rw[this]
  have:(BitVec.ofInt 64 1).toNat=1:=by rfl
  rw[this,Nat.and_one_is_mod]
 rw[e,wrapU_id (by omega) (by omega)]
 omega
theorem bin_and1 (t:Nat)(c:Bool){b:Int}(hb:U64 b):binV .and t c (.int .u64 b) (.int .u64 1)=some (.int .u64 (b % 2)):=by
 have:binV .and t c (.int .u64 b) (.int .u64 1)=some (.int .u64 (IntKind.u64.wrap (BitVec.ofInt 64 b &&& BitVec.ofInt 64 1).toNat)):=rfl
 rw[this,and1 b hb]
theorem bin_andNot1 (t:Nat)(c:Bool){b:Int}(hb:U64 b):binV .andNot t c (.int .u64 b) (.int .u64 1)=some (.int .u64 (evn b)):=by
 have:binV .andNot t c (.int .u64 b) (.int .u64 1)=some (.int .u64 (IntKind.u64.wrap (BitVec.ofInt 64 b &&& ~~~BitVec.ofInt 64 1).toNat)):=rfl
 rw[this,andNot1 b hb]
theorem bin_fnvX (t:Nat)(c:Bool)(a b:Int):binV .xor t c (.int .u64 a) (.int .u64 b)=some (.int .u64 (fnvX a b)):=rfl
theorem fnv_rng (s:ByteArray):0≤fnv s∧fnv s≤18446744073709551615:=by
 unfold fnv
 cases s.size with
 | zero=>simp[fnvTo]
 | succ n=>exact wrapU_rng _
def stripeOf (s:ByteArray)(n:Int):Int:=if n<1 then 0 else fnv s % n
def inS (users:List ByteArray)(n:Int)(s:Nat):Bool:=users.any fun u=>decide (stripeOf u n=s)
def stripesOf (users:List ByteArray)(n:Int):List Nat:=(List.range 8).filter (inS users n)
def late (now until_:Int):Bool:=decide (until_≤now)
def better (a b:Sess):Bool:=decide (b.pr<a.pr) || (decide (a.pr=b.pr) && decide (a.id<b.id))
def ofStep (now:Int)(x:Sess × Nat)(s:Sess):Sess × Nat:=if late now s.un then x else (if x.2=0 || better s x.1 then s else x.1,x.2+1)
def ofAcc (l:List Sess)(now:Int):Sess × Nat:=l.foldl (ofStep now) (⟨0,0,0,0⟩,0)
def presOf (l:List Sess)(now:Int):Pres:=⟨(ofAcc l now).1.st,(ofAcc l now).1.pr,(ofAcc l now).2⟩
def ent0:Ent:=⟨[],⟨0,0,0⟩⟩
def entOf:Book→ByteArray→Ent
 | [],_=>ent0
 | (k,e)::r,u=>if k=u then e else entOf r u
def presB (b:Book)(u:ByteArray)(now:Int):Pres:=presOf (entOf b u).ss now
structure RP where
 who:Int
 users:List ByteArray
 of:Int
 ss:List Nat
 ph:Int
 at_:Nat
 tries:Int
 ep:Nat→Int
 valid:Bool
 spent:Bool
 seen:Int→Option Book
 t:Tm
 looked:Int
 placed:Int
 err:Int
 vals:List Pres
def RP.k (p:RP):Nat:=p.ss.length
def RP.s (p:RP):Nat:=p.ss.getD p.at_ 0
def RP.begin (p:RP):RP:={ p with ph:=0,at_:=0,ep:=fun _=>0,valid:=true,spent:=false,seen:=fun _=>none }
def RP.tell (p:RP)(u:ByteArray):Pres:=presB ((p.seen (stripeOf u p.of)).getD []) u p.t.now
def RP.answer (p:RP):RP:=if p.t.closed then { p with placed:=p.looked,err:=5,vals:=[] } else { p with placed:=p.looked,vals:=p.vals++p.users.map p.tell }
def RP.next (p:RP)(ph:Int):RP:=if p.at_+1<p.k then { p with at_:=p.at_+1 } else { p with ph:=ph,at_:=0 }
def RP.last (p:RP):Bool:=!decide (p.at_+1<p.k)
def RP.judge (p:RP):RP :=
 if p.t.closed || p.valid then { p.answer with ph:=8 }
 else if p.spent || decide (p.tries=0) then { p with ph:=4 }
 else RP.begin { p with tries:=p.tries-1 }
def RP.enabled (p:RP)(H:Hall):Bool:=!decide (p.ph=8) && (!decide (p.ph=4) || decide ((H.ss p.s).who=0))
def RP.waits (r:RP):Int:=if r.ph=4 then r.s else -1
def epset (f:Nat→Int)(i:Nat)(v:Int):Nat→Int:=fun k=>if k=i then v else f k
def seenset (f:Int→Option Book)(i:Int)(v:Book):Int→Option Book:=fun k=>if k=i then some v else f k
def validB (a b bound:Int):Bool:=decide (a=b) && (decide (a % 2=0) && decide (a<evn bound))
def RP.go (p:RP)(H:Hall)(n:Int):RP × Hall :=
 if p.ph=0 then (RP.next { p with ep:=epset p.ep p.at_ (H.ss p.s).v,spent:=p.spent || decide (evn H.c.epochs≤(H.ss p.s).v) } 1,H.epoch p.who p.s)
 else if p.ph=1 then (RP.next { p with seen:=seenset p.seen p.s (H.ss p.s).snap } 2,H.snap p.who p.s)
 else if p.ph=2 then ({ p with t:=H.t,looked:=n,ph:=3 },H.look p.who)
 else if p.ph=5 then ({ p with t:=H.t,looked:=n,ph:=6,placed:=n },H.look p.who)
 else if p.ph=3 then
  let q:RP:={ p with valid:=p.valid && validB (p.ep p.at_) (H.ss p.s).v H.c.epochs }
  (if q.last then (q.next 8).judge else q.next 8,H.epoch p.who p.s)
 else if p.ph=4 then (p.next 5,H.lock p.who p.s)
 else if p.ph=6 then (RP.next { p with seen:=seenset p.seen p.s (H.ss p.s).book } 7,H.read p.who p.s)
 else (if p.last then (p.next 8).answer else p.next 8,H.unlock p.who p.s)
def RP.step (p:RP)(H:Hall)(n:Int):RP × Hall :=
 if p.enabled H=false then (p,H) else if p.ss=[] then ({ p with err:=1,vals:=[],placed:=n,ph:=8 },H) else p.go H n
def rp0 (H:Hall)(who:Int)(x:OpD):RP :=
 let us:=if badB x then [] else usersOf x
 RP.begin ⟨who,us,H.c.stripes,stripesOf us H.c.stripes,0,0,H.c.retries,fun _=>0,false,false,fun _=>none,⟨0,0,false⟩,0,-1,0,[]⟩
end Go.Den
namespace Go.Proofs.YtcnphhhcknhhaaaGreat
open Go Go.Den Go.MapKept
set_option linter.unusedSimpArgs false
set_option linter.unusedVariables false
set_option maxRecDepth 20000
theorem st_byte {s:ByteArray}{i:Nat}(hi:i<s.size){k:IntKind}:stV (.string s) (.int k i)=some (.int .u8 (byteAt s i)):=by
 have:s[i]?=some s[i]:=by simp[hi]
 simp -implicitDefEqProofs[stV,byteAt,this]
theorem byte_rng (s:ByteArray)(i:Nat):0≤byteAt s i∧byteAt s i≤255:=by
 unfold byteAt
 split
 ·rename_i b _; have:=b.toNat_lt; omega
 ·omega
variable {K:KTy}
theorem hashOf_ok (s : ByteArray) (hs : s.size ≤ maxLen) {h : Heap} (hk : K (.int .u64 (fnv s)) h) : callM P qmMZ #[.string s] h K := by
  apply qpVZ
  unfold qoeZ
  rw [seqM_eq]
  unfold qoPZ
  simp -implicitDefEqProofs only [lnV_t, ov_s]
  refine loop_on [0, 5, 6] (fun t h' => h' = h ∧ ∃ i : Nat, i ≤ s.size ∧ t 7 = .int .i64 i ∧ t 3 = .int .u64 (fnvTo s i)) (fun t _ => (s.size - num (t 7)).toNat) ⟨rfl, 0, by omega, rfl, rfl⟩ ?_
  rintro t h1 hf ⟨rfl, i, hi, t7, t3⟩
  have t0 : t 0 = .string s := by simpa using hf 0 (by simp)
  have t5 : t 5 = .string s := by simpa using hf 5 (by simp)
  have t6 : t 6 = .int .i64 s.size := by simpa using hf 6 (by simp)
  unfold maxLen at hs
  unfold qoOZ
  simp -implicitDefEqProofs only [t7, t6, bin_lss, ov_s, cd_b]
  refine ⟨fun hc => ?_, fun hc => ?_⟩
  · have hlt : i < s.size := by have : ((i : Int) < s.size) := by simpa using hc
                                omega
    have hb := byte_rng s i
    unfold qoNZ
    have hw : IntKind.i64.wrap ((i : Int) + 1) = i + 1 := wrap64_id (by omega) (by omega)
    simp -implicitDefEqProofs [t0, t7, t3, st_byte hlt, wrapU_id (n := byteAt s i) (by omega) (by omega), bin_fnvX, hw, t5, t6]
    exact ⟨⟨i + 1, by omega, by simp, by simp [fnvTo, fnvStep]⟩, by omega⟩
  · have : i = s.size := by have : ¬ ((i : Int) < s.size) := by simpa using hc
                            omega
    subst this
    simp -implicitDefEqProofs [t3]
    exact hk
theorem stripe_ok (s:ByteArray)(n:Int)(hn:n≤1000)(hs:s.size≤maxLen){h:Heap}(hk:K (.int .i64 (stripeOf s n)) h):callM P qdSZ #[.string s,.int .i64 n] h K:=by
 apply qpsZ
 unfold qkIZ
 simp -implicitDefEqProofs only[bin_lss,ov_s,cd_b]
 refine⟨fun hc=>?_,fun hc=>?_⟩
 ·have:n<1:=by simpa using hc
  simpa [stripeOf,this] using hk
 ·have hn1:¬ n<1:=by simpa using hc
  unfold qlBZ
  refine hashOf_ok s hs ?_
  have hf:=fnv_rng s
  have hm:(fnv s).tmod n=fnv s % n:=Int.tmod_eq_emod_of_nonneg hf.1
  have hl:=Int.emod_nonneg (fnv s) (show n≠0 by omega)
  have hu:=Int.emod_lt_of_pos (fnv s) (show 0<n by omega)
  simp -implicitDefEqProofs[wrapU_id (n:=n) (by omega) (by omega),show n≠0 by omega,hm,wrap64_id (n:=fnv s % n) (by omega) (by omega)]
  simpa [stripeOf,hn1] using hk
theorem stripeOf_rng (s:ByteArray){n:Int}(hn:1≤n):0≤stripeOf s n∧stripeOf s n<n:=by
 unfold stripeOf
 rw[if_neg (by omega)]
 exact⟨Int.emod_nonneg _ (by omega),Int.emod_lt_of_pos _ (by omega)⟩
def cellC (v b:Int):List Value:=[.int .u64 v,.int .u64 b]
theorem cellNew_ok (b:Int)(hb:U64 b){h:Heap}(hk:∀ h',Ext h h'→K (.agg (cellC 0 (evn b)).toArray) h'):callM P qlRZ #[.int .u64 b] h K:=by
 apply qpQZ
 unfold qmTZ
 simp -implicitDefEqProofs only[zcCell,nwM_s,bin_andNot1 _ _ hb,ov_s,bdCell]
 intro v1 n1
 simp -implicitDefEqProofs[stm_upd,ld_same,cel_same,over]
 exact hk _ (Ext.upd n1 _)
theorem value_ok (v b:Int){h:Heap}(hk:∀ h',Ext h h'→K (.int .u64 v) h'):callM P qfMZ #[.agg (cellC v b).toArray] h K:=by
 apply qoAZ
 unfold qgFZ
 simp -implicitDefEqProofs only[nwM_s,cells_agg,cellC]
 intro v1 n1
 simp -implicitDefEqProofs[cel_same]
 exact hk _ (Ext.upd n1 _)
theorem spent_ok (v b:Int){h:Heap}(hk:∀ h',Ext h h'→K (.bool (decide (b≤v))) h'):callM P qfPZ #[.agg (cellC v b).toArray] h K:=by
 apply qoIZ
 unfold qgNZ
 simp -implicitDefEqProofs only[nwM_s,cells_agg,cellC]
 intro v1 n1
 simp -implicitDefEqProofs[cel_same]
 exact hk _ (Ext.upd n1 _)
theorem writing_ok (v b:Int)(hv:U64 v){h:Heap}(hk:∀ h',Ext h h'→K (.bool (wrt v)) h'):callM P qcXZ #[.agg (cellC v b).toArray] h K:=by
 apply qnxZ
 unfold qfAZ
 simp -implicitDefEqProofs only[nwM_s,cells_agg,cellC]
 intro v1 n1
 simp -implicitDefEqProofs[cel_same,bin_and1 _ _ hv]
 exact kb (hk _ (Ext.upd n1 _)) (by simp[wrt])
theorem tgCell:tagg P qzZ=some (some 2):=by kernel_rfl
theorem begin_ok (v b:Int)(hv:U64 v)(hb:U64 b){h:Heap}(hk:∀ h',Ext h h'→K (.agg (cellC (bgn v b) b).toArray) h'):callM P qfOZ #[.agg (cellC v b).toArray] h K:=by
 apply qoHZ
 unfold qgMZ
 refine nw_agg fun v1 h1 n1 e1 c1=>?_
 rw[zcCell]
 refine nw_intro fun v3 h2 n3 e3 c3=>?_
 have hne:=ne_fresh c1 n3
 have c1:=e3 _ _ c1
 rw[seqM_eq]
 unfold qjCZ
 simp -implicitDefEqProofs only[ld_box c1 (n:=2) rfl,ov_s]
 refine spent_ok v b fun h3 e4=>?_
 have c1:=e4 _ _ c1
 have c3:=e4 _ _ c3
 have e0:=(e1.trans e3).trans e4
 have n3:=fresh_of e1 n3
 unfold qjBZ
 simp -implicitDefEqProofs only[cellC] at c1
 by_cases hbv:b≤v
 ·simp -implicitDefEqProofs[hbv,ld_at c1,cel_of c1,stm_at c1,ld_at c3,cel_of c3,stm_at c3,stm_upd,ld_same,cel_same,over,tgCell]
  exact kv (hk _ (ext_upd n3 e0)) (by simp[cellC,bgn,show ¬ v<b by omega])
 ·simp -implicitDefEqProofs[hbv,ld_at c1,cel_of c1,stm_at c1,stm_upd,ld_same,cel_same,over]
  refine writing_ok v b hv fun h4 e5=>?_
  have c1:=e5 _ _ c1
  have c3:=e5 _ _ c3
  have e0:=e0.trans e5
  unfold qjAZ
  cases hw:wrt v
  ·have:IntKind.u64.wrap (v+1)=v+1:=wrapU_id (by have:=hv.1; omega) (by have:=hb.2; omega)
   simp -implicitDefEqProofs[ld_at c1,cel_of c1,stm_at c1,ld_at c3,cel_of c3,stm_at c3,stm_skip hne,stm_skip (Ne.symm hne),ld_skip hne,ld_skip (Ne.symm hne),cel_skip hne,cel_skip (Ne.symm hne),stm_upd,ld_same,cel_same,over,this,tgCell]
   exact kv (hk _ (ext_upd n1 (ext_upd n3 e0))) (by simp[cellC,bgn,show v<b by omega,hw])
  ·simp -implicitDefEqProofs[ld_at c1,cel_of c1,stm_at c1,ld_at c3,cel_of c3,stm_at c3,stm_upd,ld_same,cel_same,over,tgCell]
   exact kv (hk _ (ext_upd n3 e0)) (by simp[cellC,bgn,hw])
theorem valid_ok (a b bound:Int)(ha:U64 a)(hb:U64 bound){h:Heap}(hk:K (.bool (validB a b bound)) h):callM P qkDZ #[.int .u64 a,.int .u64 b,.int .u64 bound] h K:=by
 apply qpEZ
 unfold qlqZ
 simp +contextual -implicitDefEqProofs[bin_and1 _ _ ha,bin_andNot1 _ _ hb]
 exact kb hk (by simp[validB,Bool.and_assoc])
theorem lfree_ok (w:Int){h:Heap}(hk:∀ h',Ext h h'→K (.bool (decide (w=0))) h'):callM P qbJZ #[.agg #[.int .i64 w]] h K:=by
 apply qnZZ
 unfold qghZ
 simp -implicitDefEqProofs only[nwM_s,cells_agg]
 intro v1 n1
 simp -implicitDefEqProofs[cel_same]
 exact hk _ (Ext.upd n1 _)
theorem lowner_ok (w:Int)(hw:-1000000≤w∧w≤1000000){h:Heap}(hk:∀ h',Ext h h'→K (.int .i64 (w-1)) h'):callM P qeQZ #[.agg #[.int .i64 w]] h K:=by
 apply qnzZ
 unfold qfCZ
 simp -implicitDefEqProofs only[nwM_s,cells_agg]
 intro v1 n1
 simp -implicitDefEqProofs[cel_same,wrap64_id (n:=w-1) (by omega) (by omega)]
 exact hk _ (Ext.upd n1 _)
theorem ltake_ok (w who:Int)(hw:-1000≤who∧who≤1000000){h:Heap}(hk:∀ h',Ext h h'→K (.tuple #[.agg #[.int .i64 (if canTake w who then who+1 else w)],.bool (canTake w who)]) h'):callM P qfnZ #[.agg #[.int .i64 w],.int .i64 who] h K:=by
 apply qohZ
 unfold qglZ
 refine nw_agg fun v1 h1 n1 e1 c1=>?_
 rw[zcLatch]
 refine nw_intro fun v3 h2 n3 e3 c3=>?_
 have hne:=ne_fresh c1 n3
 have c1:=e3 _ _ c1
 have n3:=fresh_of e1 n3
 have e0:=e1.trans e3
 unfold qiiZ qijZ
 by_cases hw0:who<0
 ·simp -implicitDefEqProofs[hw0,ld_at c1,cel_of c1,stm_at c1,ld_at c3,cel_of c3,stm_at c3,stm_upd,ld_same,cel_same,over]
  exact kv (hk _ (ext_upd n3 e0)) (by simp[canTake,show ¬ 0≤who by omega])
 ·simp -implicitDefEqProofs[hw0,ld_at c1,cel_of c1,stm_at c1,stm_upd,ld_same,cel_same,over]
  refine lfree_ok w fun h4 e5=>?_
  have c1:=e5 _ _ c1
  have c3:=e5 _ _ c3
  have e0:=e0.trans e5
  by_cases hw:w=0
  ·simp -implicitDefEqProofs[hw,ld_at c3,cel_of c3,stm_at c3,stm_upd,ld_same,cel_same,over,bdLatch,wrap64_id (n:=who+1) (by omega) (by omega)]
   exact kv (hk _ (ext_upd n3 e0)) (by simp[canTake,hw,show 0≤who by omega])
  ·simp -implicitDefEqProofs[hw,ld_at c1,cel_of c1,stm_at c1,ld_at c3,cel_of c3,stm_at c3,stm_upd,ld_same,cel_same,over]
   exact kv (hk _ (ext_upd n3 e0)) (by simp[canTake,hw])
theorem lgive_ok (w who:Int)(hw:-1000000≤w∧w≤1000000){h:Heap}(hk:∀ h',Ext h h'→K (.tuple #[.agg #[.int .i64 (if canGive w who then 0 else w)],.bool (canGive w who)]) h'):callM P qfoZ #[.agg #[.int .i64 w],.int .i64 who] h K:=by
 apply qoiZ
 unfold qgmZ
 refine nw_agg fun v1 h1 n1 e1 c1=>?_
 rw[zcLatch]
 refine nw_intro fun v3 h2 n3 e3 c3=>?_
 have hne:=ne_fresh c1 n3
 have c1:=e3 _ _ c1
 have n3:=fresh_of e1 n3
 have e0:=e1.trans e3
 simp -implicitDefEqProofs[ld_at c1,cel_of c1,stm_at c1,stm_upd,ld_same,cel_same,over]
 refine lfree_ok w fun h4 e5=>?_
 have c1:=e5 _ _ c1
 have c3:=e5 _ _ c3
 have e0:=e0.trans e5
 unfold qimZ qikZ qilZ
 by_cases hw0:w=0
 ·simp -implicitDefEqProofs[hw0,ld_at c1,cel_of c1,stm_at c1,ld_at c3,cel_of c3,stm_at c3,stm_upd,ld_same,cel_same,over]
  exact kv (hk _ (ext_upd n3 e0)) (by simp[canGive,hw0])
 ·simp -implicitDefEqProofs[hw0,ld_at c1,cel_of c1,stm_at c1,stm_upd,ld_same,cel_same,over]
  refine lowner_ok w hw fun h4 e5=>?_
  have c1:=e5 _ _ c1
  have c3:=e5 _ _ c3
  have e0:=e0.trans e5
  by_cases hg:w-1=who
  ·simp -implicitDefEqProofs[hg,ld_at c3,cel_of c3,stm_at c3,stm_upd,ld_same,cel_same,over,bdLatch0]
   exact kv (hk _ (ext_upd n3 e0)) (by simp[canGive,hw0,hg])
  ·simp -implicitDefEqProofs[hg,ld_at c1,cel_of c1,stm_at c1,ld_at c3,cel_of c3,stm_at c3,stm_upd,ld_same,cel_same,over]
   exact kv (hk _ (ext_upd n3 e0)) (by simp[canGive,hg])
end Go.Proofs.YtcnphhhcknhhaaaGreat
namespace Go.Proofs.YtcnphhhcknhhaaaGreat
open Go Go.Den Go.MapKept
set_option linter.unusedSimpArgs false
set_option linter.unusedVariables false
set_option maxRecDepth 20000
variable {K:KTy}
theorem ringNew_ok (room:Int){T:Tags}{h:Heap}(w:Wf T h){g:Tag}(gg:Gd g)(hk:∀ T' h' p,Only (pre g) T h T' h'→RingR T' h' g p (ring0 room)→K (ptr p) h'):callM P qdUZ #[.int .i64 room] h K:=by
 apply qmWZ
 unfold qeXZ
 refine vv_max ?_
 simp -implicitDefEqProofs only[bdRing,ov_s,nwM_s]
 intro p n
 exact hk (tset T p (g++[0])) _ p (Only.new _ w n) ⟨_,upd_same' _ _ _,tset_same _ _ _,Rw.nil _ _ _ _ _⟩
theorem ia_arr {n p o i:Nat}{k:IntKind}(hi:i<n):iaV (some (some n,1)) (.pointer (some ⟨p,o,none⟩)) (.int k i)=some (.pointer (some ⟨p,o+i,none⟩)):=by
 have h1:(0:Int)≤i∧(i:Int)<n:=by omega
 simp -implicitDefEqProofs[iaV,h1]
theorem feed_over {kv vv : Value} {q : Nat → Value} {j : Nat} {x : Value} (hj : j < 8) : over (feedC kv vv q).toArray (2 + j) [x] = (feedC kv vv fun k => if k = j then x else q k).toArray := by
  unfold feedC
  rw [over_map1 (by omega)]
  congr 1
  apply List.map_congr_left
  intro k _
  match k with
  | 0 => simp [feedG]; omega
  | 1 => simp [feedG]; omega
  | k + 2 => simp only [feedG]; by_cases h : k = j
             · subst h; rw [if_pos (by omega), if_pos rfl]
             · rw [if_neg (by omega), if_neg h]
theorem feedC_len (kv vv:Value)(q:Nat→Value):(feedC kv vv q).length=10:=by simp[feedC]
theorem feedC_congr {kv vv:Value}{q q':Nat→Value}(h:∀ k,k<8→q k=q' k):feedC kv vv q=feedC kv vv q':=by
 unfold feedC
 apply List.map_congr_left
 intro k hk
 match k with
 | 0=>rfl
 | 1=>rfl
 | k+2=>simp only[feedG]; exact h k (by have:=List.mem_range.1 hk; omega)
def FeedNewI (T : Tags) (h : Heap) (g : Tag) (p : Nat) (room : Int) (v : Value) (h' : Heap) : Prop := ∃ (T' : Tags) (j : Nat) (q : Nat → Nat), Only (pre g) T h T' h' ∧ h' p = some (.cells (feedC (.slice none 0 0) (.slice none 0 0) fun k => if k < j then ptr (q k) else .pointer none).toArray qdaZ (0, 0)) ∧ T' p = g ++ [0] ∧
      (∀ k, k < j → RingR T' h' (g ++ [1, k]) (q k) (ring0 room)) ∧ j ≤ 8 ∧ v = .int .i64 j
theorem feedNew_ok (room : Int) {T : Tags} {h : Heap} (w : Wf T h) {g : Tag} (gg : Gd g) (hk : ∀ T' h' p, Only (pre g) T h T' h' → FeedR T' h' g p (feed0 room) → K (ptr p) h') : callM P qlSZ #[.int .i64 room] h K := by
  apply qpRZ
  unfold qmUZ
  simp -implicitDefEqProofs only [bdFeed, ov_s, nwM_s]
  intro p n
  rw [seqM_eq]
  unfold qnXZ
  refine loop_on [0, 3] (fun s h' => FeedNewI T h g p room (s 7) h') (fun s _ => (8 - num (s 7)).toNat)
    ⟨tset T p (g ++ [0]), 0, fun _ => 0, Only.new _ w n, upd_same' _ _ _, tset_same _ _ _, fun k hk => by omega, by omega, rfl⟩ ?_
  rintro s h1 hf ⟨T1, j, q, o1, hp, tp, hr, hj, s7⟩
  have s0 : s 0 = .int .i64 room := by simpa using hf 0 (by simp)
  have s3 : s 3 = ptr p := by simpa using hf 3 (by simp)
  unfold qnWZ
  simp -implicitDefEqProofs only [s7, bin_lss, ov_s, cd_b]
  refine ⟨fun hc => ?_, fun hc => ?_⟩
  · have hlt : j < 8 := by have : ((j : Int) < 8) := by simpa using hc
                           omega
    unfold qnVZ
    simp -implicitDefEqProofs only [s0, s3, ptr, ncV_p, ov_s, faV_p]
    refine ringNew_ok room o1.wf (gg.app [1, j]) fun T2 h2 p2 o2 r2 => ?_
    unfold qnUZ
    have hp2 := o2.k.at hp tp (not_pre (by simp))
    simp -implicitDefEqProofs only [s7, Nat.zero_add, ia_arr hlt, ov_s, ptr]
    rw [stm_at hp2.1 (by simp) (by simp [feedC_len]; omega) (by simp)]
    simp -implicitDefEqProofs only [cells_p, feed_over hlt]
    have hw : IntKind.i64.wrap ((j : Int) + 1) = j + 1 := wrap64_id (by omega) (by omega)
    simp -implicitDefEqProofs [s7, s0, s3, hw]
    have o3 : Only (fun t => t = g ++ [0]) T2 h2 T2 (upd h2 p (.cells (feedC (.slice none 0 0) (.slice none 0 0) fun k => if k = j then ptr p2 else if k < j then ptr (q k) else .pointer none).toArray qdaZ (0, 0))) := Only.upd o2.wf hp2.1 hp2.2
    refine ⟨?_, by omega⟩
    refine ⟨T2, j + 1, fun k => if k = j then p2 else q k, (o1.trans (o2.mono fun t => pre_trans)).st hp2.1 (by rw [hp2.2]; exact pre_app g _), ?_, hp2.2, fun k hk => ?_, by omega, by simp⟩
    · rw [upd_same']
      congr 3
      apply feedC_congr
      intro k hk
      by_cases e : k = j
      · subst e; simp [ptr]
      · simp -implicitDefEqProofs only [if_neg e, ptr]; by_cases hkj : k < j
        · rw [if_pos hkj, if_pos (by omega)]
        · rw [if_neg hkj, if_neg (by omega)]
    · by_cases e : k = j
      · subst e; simp only [if_true]
        exact r2.kp o3.k (off_eq (by simp))
      · simp -implicitDefEqProofs only [if_neg e]
        exact ((hr k (by omega)).kp o2.k (off_pre (by simp; omega) (by simp; omega))).kp o3.k (off_eq (by simp))
  · have : j = 8 := by have : ¬ ((j : Int) < 8) := by simpa using hc
                       omega
    subst this
    simp -implicitDefEqProofs [s3]
    refine hk T1 h1 p o1 ⟨.slice none 0 0, .slice none 0 0, q, ?_, tp, .inl ⟨rfl, _, _, rfl⟩, .inl ⟨rfl, _, _, rfl⟩, fun k hk => hr k hk, Sn.nil, Sn.nil⟩
    rw [hp]
    congr 3
end Go.Proofs.YtcnphhhcknhhaaaGreat
namespace Go.Proofs.YtcnphhhcknhhaaaGreat
open Go Go.Den Go.MapKept
set_option linter.unusedSimpArgs false
set_option linter.unusedVariables false
set_option maxRecDepth 20000
def U02 (g t:Tag):Prop:=t=g++[0]∨t=g++[2]
def U012 (g t:Tag):Prop:=t=g++[0]∨t=g++[1]∨t=g++[2]
theorem U02.up {g t:Tag}(h:U02 g t):U012 g t:=h.elim .inl fun h=>.inr (.inr h)
theorem U012.pre {g t:Tag}(h:U012 g t):Den.pre g t:=by rcases h with rfl | rfl | rfl<;>exact pre_app _ _
theorem U02.one (g:Tag):¬ U02 g (g++[1]):=by rintro (h | h)<;>exact ne_tag (by simp) h
theorem U012.nil (g:Tag):¬ U012 g []:=by rintro (h | h | h)<;>simp at h
theorem U012.off (g:Tag)(i:Nat):Off (U012 g) (g++[3,i]):=fun t ht=>by
 rintro (h | h | h)
 ·exact off_eq (by simp) t ht h
 ·exact off_eq (by simp) t ht h
 ·exact off_eq (by simp) t ht h
variable {K:KTy}
theorem did_ok (who kind place:Int){T:Tags}{h:Heap}{g:Tag}{p:Nat}{H:Hall}(w:Wf T h)(gg:Gd g){sv av:Value}{Y:Nat→SV}(x:HallX T h g p H sv av Y)(hl:H.acts.length<1000000)
  (hk:∀ T' h' av',Only (U02 g) T h T' h'→HallX T' h' g p (H.did who kind place) sv av' Y→K (.tuple #[]) h'):callM P qsZ #[ptr p,.int .i64 who,.int .i64 kind,.int .i64 place] h K:=by
 apply qpcZ
 unfold qhTZ
 have hp:=x.hp
 simp -implicitDefEqProofs only[hallC] at hp
 simp -implicitDefEqProofs[cel_of hp,bdAct]
 refine Rw.app bsAct unSlAct apAct (by omega) (by simp) (by simp) w x.ac (by unfold maxLen; omega) (by omega) (by omega) (app_ne _ _) fun a av' T1 h1 o1 r1=>?_
 have hp1:=o1.k.at x.hp x.tp (ne_tag (by simp))
 have ho:=r1.one
 rw[stm_at hp1.1 (by simp[ho.2]) (by simp[hallC]) (by simp[ho.1,ho.2])]
 have o2:Only (U02 g) T h T1 (upd h1 p (.cells (over (hallC H sv av).toArray 11 av'.cells.toList) qanZ (0,0))) :=
  (o1.mono fun t e=>.inr e).trans (Only.upd o1.wf hp1.1 (.inl hp1.2))
 refine hk T1 _ av' o2 ⟨?_,hp1.2,x.st.kp o2.k (U02.one g),?_,fun i hi=>(x.sr i hi).kp (o2.mono fun t=>U02.up).k (U012.off g i) (U012.nil g)⟩
 ·rw[upd_same']; simp[ho.2,hallC,over,Hall.did]
 ·have o3:Only (fun t=>t=g++[0]) T1 h1 T1 (upd h1 p (.cells (over (hallC H sv av).toArray 11 av'.cells.toList) qanZ (0,0))):=Only.upd o1.wf hp1.1 hp1.2
  have:=r1.kp o3.k (ne_tag (by simp))
  simpa [Hall.did,actC] using this
def HallNewI (T:Tags)(h:Heap)(g:Tag)(p:Nat)(c:Cfg)(v:Value)(h':Heap):Prop :=
 ∃ (T':Tags) (i:Nat),Only (pre g) T h T' h'∧HallR T' h' g p (hall0 c i)∧i≤c.stripes.toNat∧v = .int .i64 i
theorem hallNew_ok (c : Cfg) (cw : CfgW c) {T : Tags} {h : Heap} (w : Wf T h) {g : Tag} (gg : Gd g)
    (hk1 : rightB c = true → ∀ T' h' p, Only (pre g) T h T' h' → HallR T' h' g p (hall0 c c.stripes.toNat) → K (.tuple #[ptr p, .int .i64 0]) h')
    (hk2 : rightB c = false → ∀ h', Ext h h' → K (.tuple #[.pointer none, .int .i64 1]) h') : callM P qjUZ #[.agg (cfgC c).toArray] h K := by
  apply qpOZ
  unfold qmNZ
  refine nw_agg fun v1 h1 n1 e1 c1 => ?_
  have c1' := c1
  simp -implicitDefEqProofs only [cfgC] at c1
  simp -implicitDefEqProofs [ld_at c1, cel_of c1, stm_at c1, stm_upd, ld_same, cel_same, over]
  have ec : Value.agg #[.int .i64 c.stripes, .int .i64 c.sessions, .int .i64 c.queue, .int .i64 c.watches, .int .i64 c.retries, .int .u64 c.epochs, .int .u64 c.start] = .agg (cfgC c).toArray := rfl
  rw [ec]
  refine modRight_ok c fun h2 e2 => ?_
  have c1 := e2 _ _ c1
  have e0 := e1.trans e2
  unfold qnHZ
  simp -implicitDefEqProofs only [unV_n, ov_s, cd_b]
  refine ⟨fun hr => hk2 (by simpa using hr) _ e0, fun hr => ?_⟩
  have hr : rightB c = true := by simpa using hr
  have hn : 1 ≤ c.stripes ∧ c.stripes ≤ 8 := by simp [rightB] at hr; omega
  unfold qnGZ
  simp -implicitDefEqProofs [ld_at c1, cel_of c1, stm_at c1, stm_upd, ld_same, cel_same, over, bdTime, bdHall]
  have w2 := w.ext e0
  refine nw_tag w2 (g ++ [0]) fun p T3 h3 n3 o3 t3 c3 => ?_
  rw [seqM_eq]
  unfold qnFZ
  have b1 : h2 v1 = _ ∧ T v1 = [] := ⟨c1, w v1 n1⟩
  have b1 := o3.see b1 (not_non _)
  have c1 := b1.1
  simp -implicitDefEqProofs [ld_at c1, cel_of c1, stm_at c1, stm_upd, ld_same, cel_same, over]
  have o0 : Only (pre g) T h T3 h3 := (Only.of_ext w e0).up o3 non_up
  have x0 : HallR T3 h3 g p (hall0 c 0) := ⟨.slice none 0 0, .slice none 0 0, fun _ => ⟨.slice none 0 0, .slice none 0 0, .slice none 0 0, .slice none 0 0, 0⟩, c3, t3, Rw.nil _ _ _ _ _, Rw.nil _ _ _ _ _, fun i hi => by simp [hall0] at hi⟩
  refine loop_on [1, 4, 15] (fun s h' => HallNewI T3 h3 g p c (s 16) h') (fun s _ => (c.stripes.toNat - num (s 16)).toNat) ⟨T3, 0, Only.refl o3.wf, x0, by omega, rfl⟩ ?_
  rintro s h4 hf ⟨T4, i, o4, x4, hi, s16⟩
  have s1 : s 1 = ptr v1 := by simpa using hf 1 (by simp)
  have s4 : s 4 = ptr p := by simpa using hf 4 (by simp)
  have s15 : s 15 = .int .i64 c.stripes := by simpa using hf 15 (by simp)
  have b1 := o4.see b1 gg.nil
  have c1 := b1.1
  unfold qnEZ
  simp -implicitDefEqProofs only [s16, s15, bin_lss, ov_s, cd_b]
  refine ⟨fun hc => ?_, fun hc => ?_⟩
  rotate_left
  · have : i = c.stripes.toNat := by have : ¬ ((i : Int) < c.stripes) := by simpa using hc
                                     omega
    subst this
    simp -implicitDefEqProofs [s4]
    exact hk1 hr T4 h4 p (o0.trans o4) x4
  have hlt : i < c.stripes.toNat := by have : ((i : Int) < c.stripes) := by simpa using hc
                                       omega
  obtain ⟨sv, av, Y, x⟩ := x4
  have bp : h4 p = _ ∧ T4 p = _ := ⟨x.hp, x.tp⟩
  simp -implicitDefEqProofs only [hallC] at bp
  have cp := bp.1
  unfold qnDZ
  simp -implicitDefEqProofs [s1, s4, ld_at c1, cel_of c1, stm_at c1, ld_at cp, cel_of cp, stm_at cp, stm_upd, ld_same, cel_same, over]
  refine cellNew_ok _ cw.u1 fun h5 e5 => ?_
  have w4 := o4.wf
  have o5 : Only non T4 h4 T4 h5 := Only.of_ext w4 e5
  have c1 := e5 _ _ c1
  have bp := o5.see bp (not_non _)
  have cp := bp.1
  unfold qnCZ
  simp -implicitDefEqProofs [s1, s4, ld_at c1, cel_of c1, stm_at c1, ld_at cp, cel_of cp, stm_at cp, stm_upd, ld_same, cel_same, over]
  refine feedNew_ok _ o5.wf (gg.app [3, i]) fun T6 h6 fp o6 r6 => ?_
  have bp := o6.see bp (not_pre (by simp))
  have cp := bp.1
  simp -implicitDefEqProofs [ld_at cp, cel_of cp, stm_at cp, stm_upd, ld_same, cel_same, over, cellC, bdStripe]
  refine bs_one bsStripe (by simp) (by omega) fun sb h7 n7 e7 c7 => ?_
  have o7 : Only non T6 h6 T6 h7 := Only.of_ext o6.wf e7
  have bp := o7.see bp (not_non _)
  have cp := bp.1
  have r7 := r6.kp o7.k (Off.non _) (not_non _)
  refine ⟨by simp [ld_at cp, cel_of cp, stm_at cp, stm_upd, ld_same, cel_same, over], ?_⟩
  have st4 : Rw T6 h6 (g ++ [1]) 8 qbQZ sv i _ := (x.st.kp o5.k (not_non _)).kp o6.k (not_pre (by simp))
  have st7 := st4.kp o7.k (not_non _)
  refine Rw.app1 (m := 1) (news := _) unSlStripe apStripe (by omega) o7.wf st7 (cels_one c7 (by simp)) (by simp) (by unfold maxLen; omega) (by omega) fun sv' T8 h8 o8 st8 => ?_
  have bp := o8.see bp (ne_tag (by simp))
  have cp := bp.1
  have ho := st8.one
  have hw : IntKind.i64.wrap ((i : Int) + 1) = i + 1 := wrap64_id (by omega) (by omega)
  simp -implicitDefEqProofs [ld_at cp, cel_of cp, stm_at cp, stm_upd, ld_same, cel_same, over, ho.1, ho.2, s16, s15, s1, s4, hw]
  refine ⟨?_, by omega⟩
  have o9 := fun o' => Only.upd (U := fun t => t = g ++ [0]) (o' := o') o8.wf bp.1 bp.2
  refine ⟨T8, i + 1, ((((o4.up o5 non_up).up o6 fun t => pre_trans).up o7 non_up).up o8 fun t e => e ▸ pre_app _ _).up (o9 _) fun t e => e ▸ pre_app _ _,
    ⟨sv', av, fun k => if k = i then ⟨.slice none 0 0, .slice none 0 0, .slice none 0 0, .slice none 0 0, fp⟩ else Y k, upd_same' _ _ _, bp.2, ?_, ?_, fun k hk => ?_⟩, by omega, by simp⟩
  · have := st8.kp (o9 (.cells #[.int .i64 c.stripes, .int .i64 c.sessions, .int .i64 c.queue, .int .i64 c.watches, .int .i64 c.retries, .int .u64 c.epochs, .int .u64 c.start, .int .u64 c.start, .int .u64 0, .bool false, sv', av] qanZ (0, 0))).k (ne_tag (by simp))
    simp -implicitDefEqProofs only [hall0]
    rw [seqF_succ]
    have e1 : seqF i (fun k => strC (strp0 c) (if k = i then ⟨.slice none 0 0, .slice none 0 0, .slice none 0 0, .slice none 0 0, fp⟩ else Y k)) = seqF i fun k => strC (strp0 c) (Y k) := seqF_congr fun k hk => by rw [if_neg (by omega)]
    rw [e1]
    simpa [hall0, strC, strp0] using this
  · exact ((((x.ac.kp o5.k (not_non _)).kp o6.k (not_pre (by simp))).kp o7.k (not_non _)).kp o8.k (ne_tag (by simp))).kp (o9 _).k (ne_tag (by simp))
  · have f9 := (o9 (.cells #[.int .i64 c.stripes, .int .i64 c.sessions, .int .i64 c.queue, .int .i64 c.watches, .int .i64 c.retries, .int .u64 c.epochs, .int .u64 c.start, .int .u64 c.start, .int .u64 0, .bool false, sv', av] qanZ (0, 0))).k
    have a8 : ∀ k, Off (fun t => t = g ++ [1]) (g ++ [3, k]) := fun k => off_eq (by simp)
    have a9 : ∀ k, Off (fun t => t = g ++ [0]) (g ++ [3, k]) := fun k => off_eq (by simp)
    by_cases hki : k = i
    · subst hki
      simp -implicitDefEqProofs only [if_true]
      have := (r7.kp o8.k (a8 _) (by simp)).kp f9 (a9 _) (by simp)
      exact ⟨BookR.nil _, BookR.nil _, this⟩
    · simp -implicitDefEqProofs only [if_neg hki]
      have hki' : k < i := by simp [hall0] at hk; omega
      exact ((((((x.sr k hki').kp o5.k (Off.non _) (not_non _))).kp o6.k (off_pre (by simp; omega) (by simp; omega)) ((gg.app _).nil)).kp o7.k (Off.non _) (not_non _)).kp o8.k (a8 _) (by simp)).kp f9 (a9 _) (by simp)
end Go.Proofs.YtcnphhhcknhhaaaGreat
namespace Go.Proofs.YtcnphhhcknhhaaaGreat
open Go Go.Den Go.MapKept
set_option linter.unusedSimpArgs false
set_option linter.unusedVariables false
set_option maxRecDepth 20000
theorem HallR.up {T T':Tags}{h h':Heap}{g:Tag}{p:Nat}{H:Hall}{U:Tag→Prop}(x:HallR T h g p H)(o:Only U T h T' h')(f:Off U g)(n:¬ U []):HallR T' h' g p H:=x.kp o.k f n
theorem strC_len (X:Strp)(y:SV):(strC X y).length=8:=rfl
theorem HallX.lds {T:Tags}{h:Heap}{g:Tag}{p:Nat}{H:Hall}{sv av:Value}{Y:Nat→SV}(x:HallX T h g p H sv av Y){s:Nat}(hs:s<H.n){k:IntKind}:∃ b o,rowOf sv=some b∧h b=some o∧T b=g++[1] ∧
  iaV (some (none,8)) sv (.int k s)=some (.pointer (some ⟨b,s*8,none⟩)) ∧
  ldV (some (some 1)) (.pointer (some ⟨b,s*8,none⟩)) h=some (.agg #[.int .i64 (H.ss s).who]) ∧
  ldV (some (some 2)) (.pointer (some ⟨b,s*8+1,none⟩)) h=some (.agg (cellC (H.ss s).v (H.ss s).bound).toArray) ∧
  ldV (some (some 2)) (.pointer (some ⟨b,s*8+3,none⟩)) h=some (.agg #[(Y s).sk,(Y s).sv]) ∧
  ldV (some (some 2)) (.pointer (some ⟨b,s*8+5,none⟩)) h=some (.agg #[(Y s).bk,(Y s).bv]) ∧
  cel h b (s*8+7)=some (ptr (Y s).fp) ∧
  ldV (some (some 8)) (.pointer (some ⟨b,s*8,none⟩)) h=some (.agg (strC (H.ss s) (Y s)).toArray):=by
 obtain⟨b,h1,h2⟩:=x.st.1.ia (k:=k) hs
 obtain⟨o,ho⟩:=x.st.1.lt b h1
 have hc:∀ off m,off+m≤8→cels h b (s*8+off) m=some (((strC (H.ss s) (Y s)).drop off).take m):=fun off m hm=>by
  rw[x.st.1.cels h1 (o:=s*8+off) (m:=m) (by have:(s+1)*8≤H.n*8:=Nat.mul_le_mul_right _ hs; omega)]
  have:=seqF_at (F:=fun i=>strC (H.ss i) (Y i)) (sz:=8) (fun i _=>strC_len _ _) hs
  rw[← this,List.drop_take,List.take_take,List.drop_drop,Nat.min_eq_left (by omega)]
 refine⟨b,o,h1,ho,x.st.2 b h1,h2,?_,?_,?_,?_,?_,?_⟩
 ·have:=hc 0 1 (by omega); rw[Nat.add_zero] at this; simp[ldV,this,strC]
 ·simp -implicitDefEqProofs[ldV,hc 1 2 (by omega),strC,cellC]
 ·simp -implicitDefEqProofs[ldV,hc 3 2 (by omega),strC]
 ·simp -implicitDefEqProofs[ldV,hc 5 2 (by omega),strC]
 ·have:=hc 7 1 (by omega)
  obtain⟨h3,h4⟩:=cels_get this
  have:=h4 0 (by simp[strC])
  simpa [strC] using this
 ·have:=hc 0 8 (by omega); rw[Nat.add_zero] at this; simp[ldV,this,strC]
theorem HallX.stw {T:Tags}{h:Heap}{g:Tag}{p:Nat}{H:Hall}{sv av:Value}{Y:Nat→SV}(x:HallX T h g p H sv av Y)(w:Wf T h){s b:Nat}(hs:s<H.n)(hb:rowOf sv=some b){off m o:Nat}{v:Value}{X':Strp}{y':SV}
  (eo:o=s*8+off) (hm:v.cells.size=m) (ho:off+m≤8) (h1:v.cells.toList.all (fun u=>u.oneCell')=true) (hc:spl (strC (H.ss s) (Y s)) off v.cells.toList=strC X' y') (hr:StrpR T h (g++[3,s]) X' y') {K:Heap→Prop}
  (hk:∀ h',Only (fun t=>t=g++[1]) T h T h'→HallX T h' g p (H.put s X') sv av (fun k=>if k=s then y' else Y k)→K h'):stM (some m) (.pointer (some ⟨b,o,none⟩)) v h K:=by
 subst eo
 have tb:=x.st.2 b hb
 refine x.st.1.st hb hm (by have:(s+1)*8≤H.n*8:=Nat.mul_le_mul_right _ hs; omega) (List.all_eq_true.1 h1) fun h' hk' hrow=>?_
 obtain⟨ob,hob⟩:=x.st.1.lt b hb
 obtain⟨ob',hob'⟩:=hrow.lt b hb
 have e:h'=upd h b ob':=upd_of hk' hob'
 have o1:Only (fun t=>t=g++[1]) T h T h':=by rw[e]; exact Only.upd w hob tb
 have off3:∀ i,Off (fun t=>t=g++[1]) (g++[3,i]):=fun i=>off_eq (by simp)
 refine hk h' o1 ⟨(o1.k.at x.hp x.tp (ne_tag (by simp))).1,x.tp,⟨?_,x.st.2⟩,x.ac.kp o1.k (ne_tag (by simp)),fun i hi=>?_⟩
 ·rw[seqF_spl (fun i _=>strC_len _ _) hs (by rw[Array.length_toList]; omega)] at hrow
  have:seqF H.n (fset (fun i=>strC (H.ss i) (Y i)) s (spl (strC (H.ss s) (Y s)) off v.cells.toList))=seqF (H.put s X').n fun i=>strC ((H.put s X').ss i) (if i=s then y' else Y i):=by
   refine seqF_congr fun i hi=>?_
   simp -implicitDefEqProofs only[fset,Hall.put,sput]
   by_cases his:i=s
   ·subst his; simp only[if_true]; exact hc
   ·simp -implicitDefEqProofs only[if_neg his]
  rw[this] at hrow
  exact hrow
 ·simp -implicitDefEqProofs only[Hall.put,sput]
  by_cases his:i=s
  ·subst his; simp only[if_true]; exact hr.kp o1.k (off3 _) (by simp)
  ·simp -implicitDefEqProofs only[if_neg his]; exact (x.sr i hi).kp o1.k (off3 _) (by simp)
theorem lc_ne (g:Tag)(gg:Gd g)(s:Tag):¬ (lc=g++s):=by obtain⟨k,r,rfl⟩:=gg; simp
theorem lc_U02 {g:Tag}(gg:Gd g):¬ U02 g lc:=by rintro (h | h)<;>exact lc_ne g gg _ h
theorem U02.pre {g t:Tag}(h:U02 g t):Den.pre g t:=h.up.pre
theorem Only.lst {T:Tags}{h:Heap}{b:Nat}{o o':Obj}(w:Wf T h)(e:h b=some o∧T b=lc):Only (fun t=>t=lc) T h T (upd h b o'):=Only.upd w e.1 e.2
theorem HallR.lst {T:Tags}{h:Heap}{g:Tag}{p:Nat}{H:Hall}(x:HallR T h g p H)(gg:Gd g){b:Nat}{o o':Obj}(w:Wf T h)(e:h b=some o∧T b=lc):HallR T (upd h b o') g p H :=
 x.kp (Only.lst w e).k gg.off (by simp)
variable {K:KTy}
theorem look_ok (who:Int){T:Tags}{h:Heap}{g:Tag}{p:Nat}{H:Hall}(w:Wf T h)(gg:Gd g)(x:HallR T h g p H)(hl:H.acts.length<1000000)
  (hk:∀ T' h',Only (pre g) T h T' h'→HallR T' h' g p (H.look who)→K (.agg (tmC H.t).toArray) h'):callM P qgxZ #[ptr p,.int .i64 who] h K:=by
 apply qoUZ
 unfold qhyZ
 rw[zcTime]
 refine nw_tag w lc fun v1 T1 h1 n1 o1 t1 c1=>?_
 obtain⟨sv,av,Y,x1⟩:=x.up o1 (Off.non _) (not_non _)
 have b1:h1 v1=_∧T1 v1=lc:=⟨c1,t1⟩
 refine did_ok who 3 0 o1.wf gg x1 hl fun T2 h2 av2 o2 x2=>?_
 have b1:=o2.see b1 (lc_U02 gg)
 have c1:=b1.1
 have cp:=x2.hp
 simp -implicitDefEqProofs only[hallC] at cp
 unfold qkcZ
 simp -implicitDefEqProofs[ld_at c1,cel_of c1,stm_at c1,ld_at cp,cel_of cp,stm_at cp,stm_upd,ld_same,cel_same,over]
 exact hk T2 _ (((o1.mono fun _=>non_up _).up o2 fun _=>U02.pre).own n1 b1.1) (HallR.lst ⟨sv,av2,Y,x2⟩ gg o2.wf b1)
end Go.Proofs.YtcnphhhcknhhaaaGreat
namespace Go.Proofs.YtcnphhhcknhhaaaGreat
open Go Go.Den Go.MapKept
set_option linter.unusedSimpArgs false
set_option linter.unusedVariables false
set_option maxRecDepth 20000
variable {K:KTy}
theorem epoch_ok (who:Int){s:Nat}{T:Tags}{h:Heap}{g:Tag}{p:Nat}{H:Hall}(w:Wf T h)(gg:Gd g)(x:HallR T h g p H)(hs:s<H.n)(h8:H.n≤8)(hl:H.acts.length<1000000)
  (hk:∀ T' h',Only (pre g) T h T' h'→HallR T' h' g p (H.epoch who s)→K (.int .u64 (H.ss s).v) h'):callM P qdwZ #[ptr p,.int .i64 who,.int .i64 s] h K:=by
 apply qovZ
 unfold qgAZ
 refine place_ok s 2 (by omega) ?_
 unfold qiEZ
 obtain⟨sv,av,Y,x⟩:=x
 refine did_ok who 3 _ w gg x hl fun T2 h2 av2 o2 x2=>?_
 have cp:=x2.hp
 simp -implicitDefEqProofs only[hallC] at cp
 obtain⟨b,ob,rb,hb,tb,ia,l1,l2,l3,l4,l5,l6⟩:=x2.lds (s:=s) (k:=.i64) hs
 unfold qiDZ
 simp -implicitDefEqProofs[ld_at cp,cel_of cp,stm_at cp,stm_upd,ld_same,cel_same,over,ia,l2]
 refine value_ok _ _ fun h3 e3=>?_
 have o3:Only (pre g) T2 h2 T2 h3:=Only.of_ext o2.wf e3
 exact hk T2 h3 ((o2.mono fun _=>U02.pre).trans o3) (HallR.up ⟨sv,av2,Y,x2⟩ (Only.of_ext (U:=non) o2.wf e3) (Off.non _) (not_non _))
theorem zcMap:zc P qaZ=some #[.slice none 0 0,.slice none 0 0]:=by kernel_rfl
theorem snap_ok (who:Int){s:Nat}{T:Tags}{h:Heap}{g:Tag}{p:Nat}{H:Hall}(w:Wf T h)(gg:Gd g)(x:HallR T h g p H)(hs:s<H.n)(h8:H.n≤8)(hl:H.acts.length<1000000)
  (hk:∀ T' h' a b,Only (pre g) T h T' h'→HallR T' h' g p (H.snap who s)→BookR (fz T' h') a b (H.ss s).snap→K (.agg #[a,b]) h'):callM P qguZ #[ptr p,.int .i64 who,.int .i64 s] h K:=by
 apply qoQZ
 unfold qhtZ
 rw[zcMap]
 refine nw_tag w lc fun v1 T1 h1 n1 o1 t1 c1=>?_
 obtain⟨sv,av,Y,x1⟩:=x.up o1 (Off.non _) (not_non _)
 have b1:h1 v1=_∧T1 v1=lc:=⟨c1,t1⟩
 refine place_ok s 3 (by omega) ?_
 unfold qjXZ
 refine did_ok who 3 _ o1.wf gg x1 hl fun T2 h2 av2 o2 x2=>?_
 have b1:=o2.see b1 (lc_U02 gg)
 have c1:=b1.1
 have cp:=x2.hp
 simp -implicitDefEqProofs only[hallC] at cp
 obtain⟨b,ob,rb,hb,tb,ia,l1,l2,l3,l4,l5,l6⟩:=x2.lds (s:=s) (k:=.i64) hs
 have hbk:=(x2.sr s hs).1
 have u1:=hbk.1.one
 have u2:=hbk.2.1.one
 unfold qjWZ
 simp -implicitDefEqProofs[ld_at c1,cel_of c1,stm_at c1,ld_at cp,cel_of cp,stm_at cp,stm_upd,ld_same,cel_same,over,ia,l3,u1.1,u2.1]
 exact hk T2 _ _ _ (((o1.mono fun _=>non_up _).up o2 fun _=>U02.pre).own n1 b1.1) (HallR.lst ⟨sv,av2,Y,x2⟩ gg o2.wf b1) (hbk.ext ((Only.lst o2.wf b1).ext (by simp)))
theorem read_ok (who:Int){s:Nat}{T:Tags}{h:Heap}{g:Tag}{p:Nat}{H:Hall}(w:Wf T h)(gg:Gd g)(x:HallR T h g p H)(hs:s<H.n)(h8:H.n≤8)(hl:H.acts.length<1000000)
  (hk:∀ T' h' a b,Only (pre g) T h T' h'→HallR T' h' g p (H.read who s)→BookR (fz T' h') a b (H.ss s).book→K (.agg #[a,b]) h'):callM P qgvZ #[ptr p,.int .i64 who,.int .i64 s] h K:=by
 apply qoRZ
 unfold qhuZ
 rw[zcMap]
 refine nw_tag w lc fun v1 T1 h1 n1 o1 t1 c1=>?_
 obtain⟨sv,av,Y,x1⟩:=x.up o1 (Off.non _) (not_non _)
 have b1:h1 v1=_∧T1 v1=lc:=⟨c1,t1⟩
 refine place_ok s 4 (by omega) ?_
 unfold qjZZ
 refine did_ok who 1 _ o1.wf gg x1 hl fun T2 h2 av2 o2 x2=>?_
 have b1:=o2.see b1 (lc_U02 gg)
 have c1:=b1.1
 have cp:=x2.hp
 simp -implicitDefEqProofs only[hallC] at cp
 obtain⟨b,ob,rb,hb,tb,ia,l1,l2,l3,l4,l5,l6⟩:=x2.lds (s:=s) (k:=.i64) hs
 have hbk:=(x2.sr s hs).2.1
 have u1:=hbk.1.one
 have u2:=hbk.2.1.one
 unfold qjYZ
 simp -implicitDefEqProofs[ld_at c1,cel_of c1,stm_at c1,ld_at cp,cel_of cp,stm_at cp,stm_upd,ld_same,cel_same,over,ia,l4,u1.1,u2.1]
 exact hk T2 _ _ _ (((o1.mono fun _=>non_up _).up o2 fun _=>U02.pre).own n1 b1.1) (HallR.lst ⟨sv,av2,Y,x2⟩ gg o2.wf b1) (hbk.ext ((Only.lst o2.wf b1).ext (by simp)))
theorem eq_pre {g s t:Tag}(h:t=g++s):pre g t:=h▸pre_app _ _
theorem begin2_ok (who:Int){s:Nat}{T:Tags}{h:Heap}{g:Tag}{p:Nat}{H:Hall}(w:Wf T h)(gg:Gd g)(x:HallR T h g p H)(hs:s<H.n)(h8:H.n≤8)(hl:H.acts.length<1000000)(hv:U64 (H.ss s).v)(hb:U64 (H.ss s).bound)
  (hk:∀ T' h',Only (pre g) T h T' h'→HallR T' h' g p (H.begin who s)→K (.tuple #[]) h'):callM P qfNZ #[ptr p,.int .i64 who,.int .i64 s] h K:=by
 apply qoBZ
 unfold qgGZ
 refine place_ok s 2 (by omega) ?_
 unfold qjuZ
 obtain⟨sv,av,Y,x⟩:=x
 refine did_ok who 4 _ w gg x hl fun T2 h2 av2 o2 x2=>?_
 have bp:h2 p=_∧T2 p=_:=⟨x2.hp,x2.tp⟩
 simp -implicitDefEqProofs only[hallC] at bp
 have cp:=bp.1
 obtain⟨b,ob,rb,hb1,tb,ia,l1,l2,l3,l4,l5,l6⟩:=x2.lds (s:=s) (k:=.i64) hs
 unfold qjtZ
 simp -implicitDefEqProofs[ld_at cp,cel_of cp,stm_at cp,stm_upd,ld_same,cel_same,over,ia,l2]
 refine begin_ok _ _ hv hb fun h3 e3=>?_
 have o3:Only non T2 h2 T2 h3:=Only.of_ext o2.wf e3
 have bp:=o3.see bp (not_non _)
 have cp:=bp.1
 have x3:HallX T2 h3 g p (H.did who 4 (4*s+2)) sv av2 Y:=⟨e3 _ _ x2.hp,x2.tp,x2.st.kp o3.k (not_non _),x2.ac.kp o3.k (not_non _),fun i hi=>(x2.sr i hi).kp o3.k (Off.non _) (not_non _)⟩
 unfold qjsZ
 simp -implicitDefEqProofs[ld_at cp,cel_of cp,stm_at cp,stm_upd,ld_same,cel_same,over,ia]
 refine x3.stw o3.wf (off:=1) (X':={ H.ss s with v:=bgn (H.ss s).v (H.ss s).bound }) (y':=Y s) hs rb rfl (by rfl) (by omega) (by simp[cellC,Hall.did]) (by simp[spl,strC,cellC,Hall.did]) (x3.sr s hs) fun h4 o4 x4=>?_
 exact hk T2 h4 (((o2.mono fun _=>U02.pre).up o3 non_up).up o4 fun t=>eq_pre) ⟨sv,av2,_,x4⟩
theorem free_ok {s:Nat}{T:Tags}{h:Heap}{g:Tag}{p:Nat}{H:Hall}(x:HallR T h g p H)(hs:s<H.n)
  (hk:∀ h',Ext h h'→K (.bool (decide ((H.ss s).who=0))) h'):callM P qdMZ #[ptr p,.int .i64 s] h K:=by
 apply qoSZ
 unfold qhvZ
 obtain⟨sv,av,Y,x2⟩:=x
 have cp:=x2.hp
 simp -implicitDefEqProofs only[hallC] at cp
 obtain⟨b,ob,rb,hb1,tb,ia,l1,l2,l3,l4,l5,l6⟩:=x2.lds (s:=s) (k:=.i64) hs
 simp -implicitDefEqProofs[ld_at cp,cel_of cp,stm_at cp,stm_upd,ld_same,cel_same,over,ia,l1]
 exact lfree_ok _ hk
theorem hstripe_ok (u:ByteArray)(hu:u.size≤maxLen){T:Tags}{h:Heap}{g:Tag}{p:Nat}{H:Hall}(x:HallR T h g p H)(hc:H.c.stripes≤8)
  (hk:K (.int .i64 (stripeOf u H.c.stripes)) h):callM P qaLZ #[ptr p,.string u] h K:=by
 apply qnIZ
 unfold qfTZ
 obtain⟨sv,av,Y,x2⟩:=x
 have cp:=x2.hp
 simp -implicitDefEqProofs only[hallC] at cp
 simp -implicitDefEqProofs[ld_at cp,cel_of cp,stm_at cp,stm_upd,ld_same,cel_same,over]
 exact stripe_ok u _ (by omega) hu hk
theorem config_ok {T:Tags}{h:Heap}{g:Tag}{p:Nat}{H:Hall}(x:HallR T h g p H)
  (hk:∀ h',Ext h h'→K (.agg (cfgC H.c).toArray) h'):callM P qaaZ #[ptr p] h K:=by
 apply qnKZ
 unfold qfVZ
 obtain⟨sv,av,Y,x2⟩:=x
 rw[zcCfg]
 simp -implicitDefEqProofs only[nwM_s]
 intro v1 n1
 have hne:=ne_fresh x2.hp n1
 have cp:=x2.hp
 simp -implicitDefEqProofs only[hallC] at cp
 simp -implicitDefEqProofs[ld_at cp,cel_of cp,stm_at cp,stm_skip hne,stm_skip (Ne.symm hne),ld_skip hne,ld_skip (Ne.symm hne),cel_skip hne,cel_skip (Ne.symm hne),stm_upd,ld_same,cel_same,over]
 exact kv (hk _ (Ext.upd n1 _)) rfl
theorem lock_ok (who:Int){s:Nat}{T:Tags}{h:Heap}{g:Tag}{p:Nat}{H:Hall}(w:Wf T h)(gg:Gd g)(x:HallR T h g p H)(hs:s<H.n)(h8:H.n≤8)(hl:H.acts.length<1000000)(hw:-1000≤who∧who≤1000000)
  (hk:∀ T' h',Only (pre g) T h T' h'→HallR T' h' g p (H.lock who s)→K (.bool (canTake (H.ss s).who who)) h'):callM P qdNZ #[ptr p,.int .i64 who,.int .i64 s] h K:=by
 apply qoXZ
 unfold qhBZ
 obtain⟨sv,av,Y,x⟩:=x
 have cp:=x.hp
 simp -implicitDefEqProofs only[hallC] at cp
 obtain⟨b,ob,rb,hb1,tb,ia,l1,l2,l3,l4,l5,l6⟩:=x.lds (s:=s) (k:=.i64) hs
 simp -implicitDefEqProofs[ld_at cp,cel_of cp,stm_at cp,stm_upd,ld_same,cel_same,over,ia,l1]
 refine ltake_ok _ _ hw fun h1 e1=>?_
 have o1:Only non T h T h1:=Only.of_ext w e1
 unfold qkqZ
 simp -implicitDefEqProofs only[exV_0,exV_1,ov_s,zcLatch]
 refine nw_tag o1.wf lc fun v1 T2 h2 n2 o2 t2 c2=>?_
 simp -implicitDefEqProofs[ld_at c2,cel_of c2,stm_at c2,stm_upd,ld_same,cel_same,over]
 have n0:h v1=none:=o1.fresh n2
 have o0:=(o1.trans o2).own (o':=.cells #[.int .i64 (if canTake (H.ss s).who who then who+1 else (H.ss s).who)] qjZ (0,0)) n0 c2
 have x2:HallX T2 (upd h2 v1 (.cells #[.int .i64 (if canTake (H.ss s).who who then who+1 else (H.ss s).who)] qjZ (0,0))) g p H sv av Y :=
  ⟨(o0.k.at x.hp x.tp (not_non _)).1,(o0.k.at x.hp x.tp (not_non _)).2,x.st.kp o0.k (not_non _),x.ac.kp o0.k (not_non _),fun i hi=>(x.sr i hi).kp o0.k (Off.non _) (not_non _)⟩
 rw[seqM_eq]
 unfold qkpZ
 cases hc:canTake (H.ss s).who who with
 | false =>
  simp -implicitDefEqProofs only[hc] at x2 o0
  unfold qkoZ
  simp -implicitDefEqProofs
  exact kb (hk T2 _ (o0.mono non_up) (by simp only[Hall.lock,hc]; exact⟨sv,av,Y,x2⟩)) hc
 | true =>
  simp -implicitDefEqProofs only[hc,if_true] at x2 o0 ⊢
  have b1:(upd h2 v1 (.cells #[.int .i64 (who+1)] qjZ (0,0))) v1=_∧T2 v1=lc:=⟨upd_same' _ _ _,t2⟩
  simp -implicitDefEqProofs only[cd_b,true_implies]
  refine⟨?_,fun hx=>by cases hx⟩
  unfold qknZ
  refine place_ok s 1 (by omega) ?_
  unfold qkmZ
  refine did_ok who 5 _ o0.wf gg x2 hl fun T3 h3 av3 o3 x3=>?_
  have b1:=o3.see b1 (lc_U02 gg)
  have c1:=b1.1
  have cp:=x3.hp
  simp -implicitDefEqProofs only[hallC] at cp
  obtain⟨b,ob,rb,hb1,tb,ia,l1,l2,l3,l4,l5,l6⟩:=x3.lds (s:=s) (k:=.i64) hs
  unfold qklZ
  simp -implicitDefEqProofs[ld_at cp,cel_of cp,stm_at cp,ld_at c1,cel_of c1,stm_at c1,stm_upd,ld_same,cel_same,over,ia]
  refine x3.stw o3.wf (off:=0) (X':={ H.ss s with who:=who+1 }) (y':=Y s) hs rb rfl (by rfl) (by omega) (by simp) (by simp[spl,strC,Hall.did]) (x3.sr s hs) fun h4 o4 x4=>?_
  exact kb (hk T3 h4 (((o0.mono non_up).up o3 fun _=>U02.pre).up o4 fun t=>eq_pre) (by simp only[Hall.lock,hc]; exact⟨sv,av3,_,x4⟩)) hc
theorem unlock_ok (who:Int){s:Nat}{T:Tags}{h:Heap}{g:Tag}{p:Nat}{H:Hall}(w:Wf T h)(gg:Gd g)(x:HallR T h g p H)(hs:s<H.n)(h8:H.n≤8)(hl:H.acts.length<1000000)(hw:-1000000≤(H.ss s).who∧(H.ss s).who≤1000000)
  (hk:∀ T' h',Only (pre g) T h T' h'→HallR T' h' g p (H.unlock who s)→K (.bool (canGive (H.ss s).who who)) h'):callM P qddZ #[ptr p,.int .i64 who,.int .i64 s] h K:=by
 apply qnYZ
 unfold qggZ
 obtain⟨sv,av,Y,x⟩:=x
 have cp:=x.hp
 simp -implicitDefEqProofs only[hallC] at cp
 obtain⟨b,ob,rb,hb1,tb,ia,l1,l2,l3,l4,l5,l6⟩:=x.lds (s:=s) (k:=.i64) hs
 simp -implicitDefEqProofs[ld_at cp,cel_of cp,stm_at cp,stm_upd,ld_same,cel_same,over,ia,l1]
 refine lgive_ok _ _ hw fun h1 e1=>?_
 have o1:Only non T h T h1:=Only.of_ext w e1
 unfold qhZZ
 simp -implicitDefEqProofs only[exV_0,exV_1,ov_s,zcLatch]
 refine nw_tag o1.wf lc fun v1 T2 h2 n2 o2 t2 c2=>?_
 simp -implicitDefEqProofs[ld_at c2,cel_of c2,stm_at c2,stm_upd,ld_same,cel_same,over]
 have n0:h v1=none:=o1.fresh n2
 have o0:=(o1.trans o2).own (o':=.cells #[.int .i64 (if canGive (H.ss s).who who then 0 else (H.ss s).who)] qjZ (0,0)) n0 c2
 have x2:HallX T2 (upd h2 v1 (.cells #[.int .i64 (if canGive (H.ss s).who who then 0 else (H.ss s).who)] qjZ (0,0))) g p H sv av Y :=
  ⟨(o0.k.at x.hp x.tp (not_non _)).1,(o0.k.at x.hp x.tp (not_non _)).2,x.st.kp o0.k (not_non _),x.ac.kp o0.k (not_non _),fun i hi=>(x.sr i hi).kp o0.k (Off.non _) (not_non _)⟩
 rw[seqM_eq]
 unfold qhYZ
 cases hc:canGive (H.ss s).who who with
 | false =>
  simp -implicitDefEqProofs only[hc] at x2 o0
  unfold qhXZ
  simp -implicitDefEqProofs
  exact kb (hk T2 _ (o0.mono non_up) (by simp only[Hall.unlock,hc]; exact⟨sv,av,Y,x2⟩)) hc
 | true =>
  simp -implicitDefEqProofs only[hc,if_true] at x2 o0 ⊢
  have b1:(upd h2 v1 (.cells #[.int .i64 0] qjZ (0,0))) v1=_∧T2 v1=lc:=⟨upd_same' _ _ _,t2⟩
  simp -implicitDefEqProofs only[cd_b,true_implies]
  refine⟨?_,fun hx=>by cases hx⟩
  unfold qhWZ
  refine place_ok s 1 (by omega) ?_
  unfold qhVZ
  refine did_ok who 6 _ o0.wf gg x2 hl fun T3 h3 av3 o3 x3=>?_
  have b1:=o3.see b1 (lc_U02 gg)
  have c1:=b1.1
  have cp:=x3.hp
  simp -implicitDefEqProofs only[hallC] at cp
  obtain⟨b,ob,rb,hb1,tb,ia,l1,l2,l3,l4,l5,l6⟩:=x3.lds (s:=s) (k:=.i64) hs
  unfold qhUZ
  simp -implicitDefEqProofs[ld_at cp,cel_of cp,stm_at cp,ld_at c1,cel_of c1,stm_at c1,stm_upd,ld_same,cel_same,over,ia]
  refine x3.stw o3.wf (off:=0) (X':={ H.ss s with who:=0 }) (y':=Y s) hs rb rfl (by rfl) (by omega) (by simp) (by simp[spl,strC,Hall.did]) (x3.sr s hs) fun h4 o4 x4=>?_
  exact kb (hk T3 h4 (((o0.mono non_up).up o3 fun _=>U02.pre).up o4 fun t=>eq_pre) (by simp only[Hall.unlock,hc]; exact⟨sv,av3,_,x4⟩)) hc
end Go.Proofs.YtcnphhhcknhhaaaGreat
namespace Go.Den
open Go
set_option linter.unusedVariables false
variable {P:Program}{g:Nat→Bool}
def It (P:Program)(gf:FuncId)(lb:Array Value)(xs:List (Array Value))(hA:Heap):Prop :=
 ∀ (yv:Value) (I:Nat→Heap→Prop) (S:Heap→Prop) (h:Heap) (K:KTy),(∀ i h',I i h'→Ext hA h')→(∀ i h' h'',I i h'→Ext h' h''→I i h'')→I 0 h →
  (∀ i (hi:i<xs.length) h' (K':KTy),I i h'→(∀ h'',I (i+1) h''→K' (.bool true) h'')→(∀ h'',S h''→K' (.bool false) h'') →
   nxM P (do let d ← Deferred.ofValue yv xs[i]; invoke d.target d.args) h' K') →
  (∀ v h',I xs.length h'→K v h')→(∀ v h',S h'→K v h')→callM P gf (#[yv]++lb) h K
theorem getD_fold {ps:List Tmp}:∀ {xs:List Value} {tmps:Array Value} {s:Env},(∀ i,tmps.getD i undef=s i)→(ps.all fun t=>Nat.blt t tmps.size)=true →
  (∀ i,((ps.zip xs).foldl (fun tmps (x:Tmp × Value)=>tmps.setIfInBounds x.1 x.2) tmps).getD i undef=puts s (ps.zip xs) i)∧((ps.zip xs).foldl (fun tmps (x:Tmp × Value)=>tmps.setIfInBounds x.1 x.2) tmps).size=tmps.size:=by
 induction ps with
 | nil=>intro xs tmps s hs _; exact⟨by simpa using hs,by simp⟩
 | cons p ps ih =>
  intro xs tmps s hs hp
  cases xs with
  | nil=>exact⟨by simpa using hs,by simp⟩
  | cons x xs =>
   simp only[List.all_cons,Bool.and_eq_true,Nat.blt_eq] at hp
   simp only[List.zip_cons_cons,List.foldl_cons,puts]
   have h1:∀ i,(tmps.setIfInBounds p x).getD i undef=put s p x i:=fun i=>by
    by_cases hi:i=p
    ·subst hi
     simp[put,hp.1]
    ·have:=hs i
     simp only[Array.getD_eq_getD_getElem?] at this ⊢
     rw[Array.getElem?_setIfInBounds_ne (Ne.symm hi),this]
     have:Nat.beq i p=false:=by cases hh:Nat.beq i p with
      | false=>rfl
      | true=>exact absurd (Nat.eq_of_beq_eq_true hh) hi
     simp[put,this]
   obtain⟨h2,h3⟩:=ih (xs:=xs) h1 (by simpa using hp.2)
   exact⟨h2,by rw[h3]; simp⟩
theorem keep_upd {h:Heap}{l:Nat}{o:Obj}:Keep (some l) h (upd h l o):=fun b x e n=>by rw[upd_ne (fun hb=>n (by rw[hb]))]; exact e
variable {K:KTy}
theorem round_of_den2 (hg:GoodP P g)(hm:P.follows .mixedOrders=true){l:Nat}{fn:FuncId}{tmps:Array Value}{zas bd:Code}{s:Env}{h:Heap}
  (hs:∀ i,tmps.getD i undef=s i) (hf:(fits tmps.size zas && fits tmps.size bd && nrf zas && nrf bd)=true) {QA:Post} (hd:den P g zas [] s h QA)
  (hQA:∀ m2 s2 h2,QA .normal m2 s2 h2→∃ r:Loop,h2 l=some (.loop r)∧r.state = .ready∧∃ QB:Post,den P g bd m2 s2 (upd h2 l (.loop { r with state:=.busy })) QB∧∀ e m4 s4 h4,QB e m4 s4 h4→endM l K e m4 s4 h4)
  (hQN:∀ e m2 s2 h2,e≠.normal→¬ QA e m2 s2 h2):roundM P l fn tmps zas bd h K:=by
 intro w hw
 subst hw
 simp only[Bool.and_eq_true] at hf
 obtain⟨⟨⟨f1,f2⟩,f3⟩,f4⟩:=hf
 refine roundIn_of_wpIn (F:=Fence.wide) trivial (wpIn_mono (den_sound hg hm (n:=tmps.size) (r:=some l) zas [] s _ _ w (.inr f3) f1 ⟨rfl,hs,rfl⟩ hd) ?_)
 intro e a' w' hq
 cases e with
 | normal =>
  obtain⟨m',s',hR',ho,hq⟩:=hq
  obtain⟨r,hl,hst,QB,hb,hQB⟩:=hQA _ _ _ hq
  have hl':w'.heap[l]?=some (.loop r):=hl
  refine⟨_,run_beginRound hl' hst,?_⟩
  rw[← abs_putObj hl'] at hb
  have ho2:Okw w (w'.putObj l (.loop { r with state:=.busy })):=ho.trans ⟨rfl,rfl,rfl,by simp[World.putObj]⟩
  refine wpIn_mono (den_sound hg hm (n:=tmps.size) (r:=some l) bd m' s' _ _ _ (.inr f4) f2 hR' hb) ?_
  intro e2 a2 w2 hq2
  cases e2 with
  | normal =>
   obtain⟨m2,s2,hR2,ho3,hq2⟩:=hq2
   obtain⟨r2,hl2,hk⟩:=hQB _ _ _ _ hq2
   have hl2':w2.heap[l]?=some (.loop r2):=hl2
   refine⟨_,_,run_endRound none hl2',_,rfl,(ho2.trans ho3).trans ⟨rfl,rfl,rfl,by simp[World.putObj]⟩,?_⟩
   rw[abs_putObj hl2']; exact hk
  | ret =>
   obtain⟨m2,s2,hR2,ho3,hq2⟩:=hq2
   obtain⟨r2,hl2,hk⟩:=hQB _ _ _ _ hq2
   have hl2':w2.heap[l]?=some (.loop r2):=hl2
   refine⟨_,_,run_endRound (some .ret) hl2',_,rfl,(ho2.trans ho3).trans ⟨rfl,rfl,rfl,by simp[World.putObj]⟩,?_⟩
   rw[abs_putObj hl2']; exact hk
  | exit id =>
   obtain⟨m2,s2,hR2,ho3,hq2⟩:=hq2
   obtain⟨r2,hl2,hk⟩:=hQB _ _ _ _ hq2
   have hl2':w2.heap[l]?=some (.loop r2):=hl2
   refine⟨_,_,run_endRound (some (.exit id)) hl2',_,rfl,(ho2.trans ho3).trans ⟨rfl,rfl,rfl,by simp[World.putObj]⟩,?_⟩
   rw[abs_putObj hl2']; exact hk
  | goto t=>obtain⟨m2,s2,hR2,ho3,hq2⟩:=hq2; obtain⟨r2,hl2,hk⟩:=hQB _ _ _ _ hq2; exact hk.elim
  | panic c=>exact hq2.elim
  | outgrown=>exact hq2.elim
 | goto t=>obtain⟨_,_,_,_,hk⟩:=hq; exact (hQN _ _ _ _ (by simp) hk).elim
 | ret=>obtain⟨_,_,_,_,hk⟩:=hq; exact (hQN _ _ _ _ (by simp) hk).elim
 | exit id=>obtain⟨_,_,_,_,hk⟩:=hq; exact (hQN _ _ _ _ (by simp) hk).elim
 | panic c=>exact hq.elim
 | outgrown=>exact hq.elim
theorem rf_it (hg:GoodP P g)(hm:P.follows .mixedOrders=true){gv:Value}{gf:FuncId}{lb:Array Value}{xs:List (Array Value)}{hA:Heap}(hgv:gv = .func (.func gf) #[] lb)(hgf:g gf=true)(it:It P gf lb xs hA)
  {ps:Array Tmp} {zas bd:Code} {m:List Nat} {s:Env} {h:Heap} {Q:Post} (J:Nat→Heap→Prop) (S:Exit→Heap→Prop)
  (h0:J 0 h) (hx:∀ i h',J i h'→Ext hA h') (hk:∀ l,h l=none→∀ i h' h'',J i h'→Keep (some l) h' h''→J i h'') (hkS:∀ l,h l=none→∀ e h' h'',S e h'→Keep (some l) h' h''→S e h'')
  (hsz:∀ i (hi:i<xs.length),xs[i].size=ps.size)
  (round:∀ i (hi:i<xs.length) l b h' h2,h l=none→h b=none→J i h'→Keep (some l) h' h2→(∃ o,h2 l=some o)→(∃ o,h2 b=some o) →
   ∃ A:List Nat→Env→Heap→Prop,(∀ m2 s2 h3 h4,A m2 s2 h3→Keep (some l) h3 h4→A m2 s2 h4) ∧
    den P g zas [] (puts s (ps.toList.zip xs[i].toList)) h2 (fun e m2 s2 h3=>e = .normal∧A m2 s2 h3∧h3 l=h2 l∧h3 b=h2 b) ∧
    ∀ m2 s2 h3,A m2 s2 h3→(∃ o,h3 l=some o)→(∃ o,h3 b=some o) →
     den P g bd m2 s2 h3 (fun e _ _ h4=>h4 l=h3 l∧h4 b=h3 b∧match e with
      | .normal=>J (i+1) h4
      | .ret=>S .ret h4
      | .exit id=>S (.exit id) h4
      | _=>False))
  (hend:∀ b h',h b=none→h' b=some (.deferred (some []))→J xs.length h'→Q .normal (b::m) s h')
  (hret:∀ b h',h b=none→h' b=some (.deferred (some []))→S .ret h'→Q .ret (b::m) s h')
  (hexit:∀ id b h',h b=none→h' b=some (.deferred (some []))→S (.exit id) h'→Q (.exit id) (b::m) s h'):rfM P g gv ps zas bd m s h Q:=by
 refine⟨gf,lb,hgv,hgf,fun fn tmps b l hs hf hb hl hlb=>?_⟩
 obtain⟨R,hR⟩:∃ R:Loop,R={ state:=.ready,pending:=none,fn,tmps,params:=ps,assign:=zas,body:=bd,defers:=b }:=⟨_,rfl⟩
 rw[← hR]
 have hfb:fz (fun _=>[]) h=h:=fz_nil h
 let I:Nat→Heap→Prop:=fun i h'=>J i h'∧h' b=some (.deferred (some []))∧h' l=some (.loop R)
 let St:Heap→Prop:=fun h'=>h' b=some (.deferred (some []))∧((∃ r:Loop,h' l=some (.loop r)∧r.state = .done∧r.pending=some .ret∧S .ret h')∨(∃ id,∃ r:Loop,h' l=some (.loop r)∧r.state = .done∧r.pending=some (.exit id)∧S (.exit id) h'))
 have e1:Ext h (upd (upd h b (.deferred (some []))) l (.loop R)):=ext_upd hl (Ext.upd hb _)
 have start:I 0 (upd (upd h b (.deferred (some []))) l (.loop R)):=by
  refine⟨hk l hl 0 h _ h0 fun k o e _=>e1 k o e,?_,upd_same' _ _ _⟩
  rw[upd_ne (Ne.symm hlb),upd_same']
 refine it (.func (.yield l) #[] #[]) I St _ _ (fun i h' hi=>hx i h' hi.1) (fun i h' h'' hi e=>⟨hk l hl i h' h'' hi.1 fun k o ek _=>e k o ek,e _ _ hi.2.1,e _ _ hi.2.2⟩) start ?_ ?_ ?_
 ·intro i hi h' K' hI hK1 hK2
  obtain⟨hJ,hb',hl'⟩:=hI
  have hps:ps=R.params:=by rw[hR]
  refine nx_yield hl' (by rw[hsz i hi,hps]) ?_
  simp only[Bool.and_eq_true] at hf
  obtain⟨⟨⟨⟨f1,f2⟩,f3⟩,f4⟩,f5⟩:=hf
  have hR1:R.params=ps:=hps.symm
  have hR2:R.tmps=tmps:=by rw[hR]
  have hR3:R.assign=zas:=by rw[hR]
  have hR4:R.body=bd:=by rw[hR]
  have hR5:R.state = .ready:=by rw[hR]
  rw[hR1,hR2,hR3,hR4]
  have hfold:(ps.zip xs[i]).foldl (fun tmps (t,a)=>tmps.setIfInBounds t a) tmps=(ps.toList.zip xs[i].toList).foldl (fun tmps (x:Tmp × Value)=>tmps.setIfInBounds x.1 x.2) tmps:=by
   rw[← Array.foldl_toList,Array.toList_zip]
  rw[hfold]
  obtain⟨g1,g2⟩:=getD_fold (ps:=ps.toList) (xs:=xs[i].toList) hs f1
  obtain⟨A,a1,a2,a3⟩:=round i hi l b h' h' hl hb hJ (fun k o e _=>e) ⟨_,hl'⟩ ⟨_,hb'⟩
  refine round_of_den2 hg hm g1 (by rw[g2]; simp[f2,f3,f4,f5]) a2 (fun m2 s2 h2 hq=>?_) (fun e m2 s2 h2 he hq=>he hq.1)
  obtain⟨_,hA2,hl2,hb2⟩:=hq
  have hl2':h2 l=some (.loop R):=by rw[hl2]; exact hl'
  have hb2':h2 b=some (.deferred (some [])):=by rw[hb2]; exact hb'
  refine⟨R,hl2',hR5,_,a3 m2 s2 _ (a1 _ _ _ _ hA2 keep_upd) ⟨_,upd_same' _ _ _⟩ ⟨_,by rw[upd_ne (Ne.symm hlb)]; exact hb2'⟩,fun e m4 s4 h4 hq=>?_⟩
  obtain⟨hl4,hb4,hq⟩:=hq
  rw[upd_same'] at hl4
  rw[upd_ne (Ne.symm hlb)] at hb4
  have hb4':h4 b=some (.deferred (some [])):=by rw[hb4]; exact hb2'
  refine⟨_,hl4,?_⟩
  cases e with
  | normal =>
   refine hK1 _ ⟨hk l hl _ _ _ hq keep_upd,by rw[upd_ne (Ne.symm hlb)]; exact hb4',?_⟩
   rw[upd_same',hR]
  | ret =>
   refine hK2 _ ⟨by rw[upd_ne (Ne.symm hlb)]; exact hb4',.inl ⟨_,upd_same' _ _ _,rfl,rfl,hkS l hl _ _ _ hq keep_upd⟩⟩
  | exit id =>
   refine hK2 _ ⟨by rw[upd_ne (Ne.symm hlb)]; exact hb4',.inr ⟨id,_,upd_same' _ _ _,rfl,rfl,hkS l hl _ _ _ hq keep_upd⟩⟩
  | _=>exact hq.elim
 ·intro v h' hI
  refine⟨R,hI.2.2,by rw[hR]; simp,?_⟩
  have:R.pending=none:=by rw[hR]
  rw[this]
  exact hend b _ hb (by rw[upd_ne (Ne.symm hlb)]; exact hI.2.1) (hk l hl _ _ _ hI.1 keep_upd)
 ·intro v h' hS
  obtain⟨hb',hS⟩:=hS
  rcases hS with ⟨r,hl',hst,hp,hs'⟩ | ⟨id,r,hl',hst,hp,hs'⟩
  ·refine⟨r,hl',by rw[hst]; simp,?_⟩
   rw[hp]
   exact hret b _ hb (by rw[upd_ne (Ne.symm hlb)]; exact hb') (hkS l hl _ _ _ hs' keep_upd)
  ·refine⟨r,hl',by rw[hst]; simp,?_⟩
   rw[hp]
   exact hexit id b _ hb (by rw[upd_ne (Ne.symm hlb)]; exact hb') (hkS l hl _ _ _ hs' keep_upd)
@[simp] theorem retM_1 {P:Program}{rs:List ResultVar}{R:KTy}{b:Nat}{s:Env}{h:Heap}:retM P rs R .ret [b] s h=(h b=some (.deferred (some []))∧resL P s (upd h b (.deferred none)) rs (fun l=>R (tupV l) (upd h b (.deferred none)))):=rfl
end Go.Den
namespace Go.Proofs.YtcnphhhcknhhaaaGreat
open Go Go.Den Go.MapKept
set_option linter.unusedSimpArgs false
set_option linter.unusedVariables false
set_option maxRecDepth 20000
variable {K:KTy}
theorem late_ok (a b:Int){h:Heap}(hk:K (.bool (late a b)) h):callM P qhOZ #[.int .u64 a,.int .u64 b] h K:=by
 apply qpMZ
 unfold qmcZ
 simpa [late] using hk
theorem better_ok (a b:Sess){h:Heap}(hk:∀ h',Ext h h'→K (.bool (better a b)) h'):callM P qjKZ #[.agg (sessC a).toArray,.agg (sessC b).toArray] h K:=by
 apply qpvZ
 unfold qkLZ
 refine nw_agg fun v1 h1 n1 e1 c1=>?_
 refine nw_agg fun v3 h2 n3 e3 c3=>?_
 have c1:=e3 _ _ c1
 simp -implicitDefEqProofs only[sessC] at c1 c3
 simp +contextual -implicitDefEqProofs[ld_at c1,cel_of c1,stm_at c1,ld_at c3,cel_of c3,stm_at c3,stm_upd,ld_same,cel_same,over]
 exact kb (hk _ (e1.trans e3)) (by simp[better])
theorem zcSess:zc P qdZ=some #[.int .i64 0,.int .i64 0,.int .i64 0,.int .u64 0]:=by kernel_rfl
theorem zcPres:zc P qmZ=some #[.int .i64 0,.int .i64 0,.int .i64 0]:=by kernel_rfl
theorem zcInt:zc P qoZ=some #[.int .i64 0]:=by kernel_rfl
def liveS (l:List Sess)(now:Int):List Sess:=l.filter fun s=>!late now s.un
def liveX (l:List Sess)(now:Int):List (Array Value):=(liveS l now).map fun s=>#[.agg (sessC s).toArray]
theorem filter_at {α:Type}(p:α→Bool):∀ (l:List α) (k:Nat) (hk:k<l.length),p l[k]=true→(l.filter p)[((l.take k).filter p).length]?=some l[k]
 | x::l,0,_,h=>by simp only[List.getElem_cons_zero] at h; simp[List.filter_cons,h]
 | x::l,k+1,hk,h=>by
  simp -implicitDefEqProofs only[List.getElem_cons_succ] at h ⊢
  have:=filter_at p l k (by simpa using hk) h
  rw[List.take_succ_cons,List.filter_cons,List.filter_cons]
  split
  ·simpa using this
  ·exact this
theorem filter_take {α:Type}(p:α→Bool)(l:List α)(k:Nat)(hk:k<l.length):((l.take (k+1)).filter p).length=((l.take k).filter p).length+if p l[k] then 1 else 0:=by
 rw[List.take_succ_eq_append_getElem hk,List.filter_append,List.length_append]
 congr 1
 simp -implicitDefEqProofs[List.filter_cons]
 split<;>simp
theorem live_it {hA : Heap} {a b : Nat} {v : Value} {now : Int} {l : List Sess} (ca : hA a = some (.cells #[v] qfZ (0, 0))) (cb : hA b = some (.cells #[.int .u64 now] qEZ (0, 0))) (x : Sl 4 SessR hA v l) :
    It P qhNZ #[ptr a, ptr b] (liveX l now) hA := by
  intro yv I S h K hx hs h0 hround hK1 hK2
  apply qpoZ
  unfold qjRZ
  have ca0 := hx _ _ h0 _ _ ca
  have hlen := x.len
  simp -implicitDefEqProofs [ld_at ca0, cel_of ca0, stm_at ca0, stm_upd, ld_same, cel_same, over, hlen]
  refine loop_on [0, 2, 6, 7] (fun s h' => ∃ k : Nat, k ≤ l.length ∧ s 8 = .int .i64 k ∧ I ((l.take k).filter fun s => !late now s.un).length h') (fun s _ => (l.length - num (s 8)).toNat) ⟨0, by omega, rfl, by simpa using h0⟩ ?_
  rintro s h1 hf ⟨k, hk, s8, hI⟩
  have s0 : s 0 = yv := by simpa using hf 0 (by simp)
  have s2 : s 2 = ptr b := by simpa using hf 2 (by simp)
  have s6 : s 6 = v := by simpa using hf 6 (by simp)
  have s7 : s 7 = .int .i64 l.length := by simpa using hf 7 (by simp)
  unfold qlxZ
  simp -implicitDefEqProofs only [s8, s7, bin_lss, ov_s, cd_b]
  refine ⟨fun hc => ?_, fun hc => ?_⟩
  rotate_left
  · have : k = l.length := by have : ¬ ((k : Int) < l.length) := by simpa using hc
                              omega
    subst this
    simp -implicitDefEqProofs
    rw [List.take_length] at hI
    exact hK1 _ _ (by simpa [liveX, liveS] using hI)
  have hlt : k < l.length := by have : ((k : Int) < l.length) := by simpa using hc
                                omega
  have x1 := x.ext (R := SessR) (@SessR.ext) (hx _ _ hI)
  obtain ⟨eb, eo, c, i1, i2, i3⟩ := x1.at (k := .i64) (i := k) (by omega) (by omega)
  simp -implicitDefEqProofs only [Int.toNat_natCast] at i3
  have hmx := x.max
  have hw : IntKind.i64.wrap ((k : Int) + 1) = k + 1 := wrap64_id (by omega) (by omega)
  unfold qlwZ
  simp -implicitDefEqProofs only [s6, s8, i1, ov_s, ldV_n i2, zcSess]
  rw [show c = sessC l[k] from i3]
  refine nw_st rfl rfl (by simp [sessC]) fun v9 h2 n2 e2 c2 => ?_
  simp -implicitDefEqProofs only [sessC, cells_agg] at c2
  have hI2 := hs _ _ _ hI e2
  have cb2 := hx _ _ hI2 _ _ cb
  simp -implicitDefEqProofs [s2, ld_at c2, cel_of c2, stm_at c2, ld_at cb2, cel_of cb2, stm_at cb2, stm_upd, ld_same, cel_same, over]
  refine late_ok _ _ ?_
  unfold qlvZ
  cases hl : late now l[k].un with
  | true =>
    simp -implicitDefEqProofs
    unfold qhGZ
    simp -implicitDefEqProofs [s8, hw, s0, s2, s6, s7]
    refine ⟨⟨k + 1, by omega, by simp, ?_⟩, by omega⟩
    rw [filter_take _ _ _ hlt]
    simpa [hl] using hI2
  | false =>
    have hat := filter_at (fun s => !late now s.un) l k hlt (by simp [hl])
    obtain ⟨hj, hat⟩ := List.getElem?_eq_some_iff.1 hat
    have hj' : ((l.take k).filter fun s => !late now s.un).length < (liveX l now).length := by simpa [liveX, liveS] using hj
    have hx' : (liveX l now)[((l.take k).filter fun s => !late now s.un).length] = #[.agg (sessC l[k]).toArray] := by simp [liveX, liveS, hat]
    simp -implicitDefEqProofs [s0, ld_at c2, cel_of c2, stm_at c2, stm_upd, ld_same, cel_same, over]
    have hr := hround _ hj' h2
    rw [hx'] at hr
    refine hr _ hI2 (fun h3 hI3 => ?_) (fun h3 hS => ?_)
    · simp -implicitDefEqProofs
      unfold qhGZ
      simp -implicitDefEqProofs [s8, hw, s0, s2, s6, s7]
      refine ⟨⟨k + 1, by omega, by simp, ?_⟩, by omega⟩
      rw [filter_take _ _ _ hlt]
      simpa [hl] using hI3
    · simp -implicitDefEqProofs
      unfold qluZ
      simp -implicitDefEqProofs
      exact hK2 _ _ hS
end Go.Proofs.YtcnphhhcknhhaaaGreat
namespace Go.Proofs.YtcnphhhcknhhaaaGreat
open Go Go.Den Go.MapKept
set_option linter.unusedSimpArgs false
set_option linter.unusedVariables false
set_option maxRecDepth 20000
theorem tgPres:tagg P qmZ=some (some 3):=by kernel_rfl
def stepL (x:Sess × Nat)(s:Sess):Sess × Nat:=(if x.2=0 || better s x.1 then s else x.1,x.2+1)
def accL (l:List Sess)(now:Int)(i:Nat):Sess × Nat:=((liveS l now).take i).foldl stepL (⟨0,0,0,0⟩,0)
theorem accL_s {l:List Sess}{now:Int}{i:Nat}(hi:i<(liveS l now).length):accL l now (i+1)=stepL (accL l now i) (liveS l now)[i]:=by
 unfold accL
 rw[List.take_succ_eq_append_getElem hi,List.foldl_append]; rfl
theorem accL_all (l:List Sess)(now:Int):accL l now (liveS l now).length=ofAcc l now:=by
 unfold accL ofAcc liveS
 rw[List.take_length,List.foldl_filter]
 congr 1
 funext x s
 simp -implicitDefEqProofs only[ofStep,stepL]
 cases late now s.un<;>simp
theorem accL_n (l:List Sess)(now:Int):∀ i,i≤(liveS l now).length→(accL l now i).2=i
 | 0,_=>rfl
 | i+1,h=>by rw[accL_s (by omega)]; simp only[stepL]; rw[accL_n l now i (by omega)]
def OfJ (hA h:Heap)(v1 v3 v5:Nat)(l:List Sess)(now:Int)(i:Nat)(h':Heap):Prop:=Ext hA h'∧Ext h h'∧h' v1=some (.cells #[.int .i64 0,.int .i64 0,.int .i64 0] qmZ (0,0)) ∧
 h' v3=some (.cells (sessC (accL l now i).1).toArray qdZ (0,0))∧h' v5=some (.cells #[.int .i64 i] qoZ (0,0))
def OfA (hA h:Heap)(v1 v3 v5:Nat)(l:List Sess)(now:Int)(i:Nat)(s:Sess)(l' b':Nat)(m2:List Nat)(s2:Env)(h3:Heap):Prop :=
 m2=[]∧∃ sb,s2 7=ptr sb∧s2 5=ptr v3∧s2 6=ptr v5∧sb≠l'∧sb≠b'∧h3 sb=some (.cells (sessC s).toArray qdZ (0,0))∧sb≠v3∧sb≠v5∧OfJ hA h v1 v3 v5 l now i h3
variable {K:KTy}
theorem aggOf_ok (l:List Sess)(now:Int){h:Heap}{v:Value}(x:Sl 4 SessR h v l)(hl:l.length<1000000)(hk:∀ h',Ext h h'→K (.agg (presC (presOf l now)).toArray) h'):callM P qdyZ #[v,.int .u64 now] h K:=by
 apply qpUZ
 unfold qoaZ
 rw[zcPres,zcSess,zcInt]
 refine nw_tag (wf_nil h) lc fun v1 T1 h1 n1 o1 t1 c1=>?_
 refine nw_tag o1.wf lc fun v3 T3 h3 n3 o3 t3 c3=>?_
 refine nw_tag o3.wf lc fun v5 T5 h5 n5 o5 t5 c5=>?_
 have b1:=o5.see (o3.see ⟨c1,t1⟩ (not_non _)) (not_non _)
 have b3:=o5.see ⟨c3,t3⟩ (not_non _)
 have ne13:v1≠v3:=ne_fresh c1 n3
 have ne15:v1≠v5:=ne_fresh (o3.see ⟨c1,t1⟩ (not_non _)).1 n5
 have ne35:v3≠v5:=ne_fresh c3 n5
 have o0:Only non (fun _=>[]) h T5 h5:=(o1.trans o3).trans o5
 have e0:Ext h h5:=fun b o e=>o0.kp b o e (not_non _)
 have xF:Sl 4 SessR (fz T5 h5) v l:=x.ext (R:=SessR) (@SessR.ext) (by have:=o0.ext (not_non _); rwa [fz_nil] at this)
 simp -implicitDefEqProofs[ld_at c5,cel_of c5,stm_at c5,stm_upd,ld_same,cel_same,over]
 have ec5:upd h5 v5 (.cells #[.int .i64 0] qoZ (0,0))=h5:=(upd_of (fun _ _=>rfl) c5).symm
 rw[ec5,seqM_eq]
 unfold qoLZ
 apply qpKZ
 unfold qmaZ
 simp -implicitDefEqProofs only[xF.one.2]
 refine nw_tag o5.wf [] fun a T6 h6 n6 o6 t6 c6=>?_
 refine nw_tag o6.wf [] fun b T7 h7 n7 o7 t7 c7=>?_
 simp -implicitDefEqProofs only[ov_s]
 have b1:=o7.see (o6.see b1 (not_non _)) (not_non _)
 have b3:=o7.see (o6.see b3 (not_non _)) (not_non _)
 have b5:=o7.see (o6.see ⟨c5,t5⟩ (not_non _)) (not_non _)
 have ba:=o7.see ⟨c6,t6⟩ (not_non _)
 have o9:Only non T5 h5 T7 h7:=o6.trans o7
 have xA:Sl 4 SessR (fz T7 h7) v l:=xF.ext (R:=SessR) (@SessR.ext) (o9.ext (not_non _))
 have e7:Ext h h7:=e0.trans fun b o e=>o9.kp b o e (not_non _)
 have n1':h v1=none:=n1
 have n3':h v3=none:=o1.fresh n3
 have n5':h v5=none:=(o1.trans o3).fresh n5
 refine rf_it good mixed rfl (by kernel_rfl) (live_it (hA:=fz T7 h7) (fz_at ba.1 ba.2) (fz_at c7 t7) xA) (OfJ (fz T7 h7) h v1 v3 v5 l now) (fun _ _=>False)
  ⟨fz_ext _ _,e7,b1.1,b3.1,b5.1⟩ (fun i h' hJ=>hJ.1) ?_ (fun _ _ _ _ _ h _=>h) ?_ ?_ ?_ (fun _ _ _ _ h=>h.elim) (fun _ _ _ _ _ h=>h.elim)
 ·intro l' hl' i h' h'' hJ k
  have nl:∀ c o,h7 c=some o→some c≠some l':=fun c o e he=>by cases he; rw[hl'] at e; cases e
  exact⟨fun c o e=>k c o (hJ.1 c o e) (nl c o (fz_ext _ _ c o e)),fun c o e=>k c o (hJ.2.1 c o e) (nl c o (e7 c o e)),k _ _ hJ.2.2.1 (nl _ _ b1.1),k _ _ hJ.2.2.2.1 (nl _ _ b3.1),k _ _ hJ.2.2.2.2 (nl _ _ b5.1)⟩
 ·intro i hi; simp[liveX]
 ·intro i hi l' b' h' h2 hl' hb' hJ k ⟨ol,hol⟩ ⟨ob,hob⟩
  have nl:∀ c o,h7 c=some o→some c≠some l':=fun c o e he=>by cases he; rw[hl'] at e; cases e
  have nb:∀ c o,h7 c=some o→c≠b':=fun c o e he=>by cases he; rw[hb'] at e; cases e
  have hJ2:OfJ (fz T7 h7) h v1 v3 v5 l now i h2:=⟨fun c o e=>k c o (hJ.1 c o e) (nl c o (fz_ext _ _ c o e)),fun c o e=>k c o (hJ.2.1 c o e) (nl c o (e7 c o e)),k _ _ hJ.2.2.1 (nl _ _ b1.1),k _ _ hJ.2.2.2.1 (nl _ _ b3.1),k _ _ hJ.2.2.2.2 (nl _ _ b5.1)⟩
  have hi':i<(liveS l now).length:=by simpa [liveX] using hi
  have hxi:(liveX l now)[i]=#[.agg (sessC (liveS l now)[i]).toArray]:=by simp[liveX]
  rw[hxi]
  refine⟨OfA (fz T7 h7) h v1 v3 v5 l now i (liveS l now)[i] l' b',?_,?_,?_⟩
  ·rintro m2 s2 h3 h4 ⟨rfl,sb,q1,q2,q3,q4,q4',q5,q6,q7,q8⟩ k4
   exact⟨rfl,sb,q1,q2,q3,q4,q4',k4 _ _ q5 (by simpa using q4),q6,q7,⟨fun c o e=>k4 c o (q8.1 c o e) (nl c o (fz_ext _ _ c o e)),fun c o e=>k4 c o (q8.2.1 c o e) (nl c o (e7 c o e)),k4 _ _ q8.2.2.1 (nl _ _ b1.1),k4 _ _ q8.2.2.2.1 (nl _ _ b3.1),k4 _ _ q8.2.2.2.2 (nl _ _ b5.1)⟩⟩
  ·rw[qpAZ]
   unfold qobZ
   rw[zcSess]
   simp -implicitDefEqProofs
   refine nw_st rfl rfl (by simp[sessC]) fun sb h4 n4 e4 c4=>?_
   refine⟨⟨rfl,sb,by simp,by simp,by simp,fun e=>(by subst e; rw[hol] at n4; cases n4),fun e=>(by subst e; rw[hob] at n4; cases n4),c4,fun e=>(by subst e; rw[hJ2.2.2.2.1] at n4; cases n4),fun e=>(by subst e; rw[hJ2.2.2.2.2] at n4; cases n4),?_⟩,by rw[hol,e4 _ _ hol],by rw[hob,e4 _ _ hob]⟩
   exact⟨hJ2.1.trans e4,hJ2.2.1.trans e4,e4 _ _ hJ2.2.2.1,e4 _ _ hJ2.2.2.2.1,e4 _ _ hJ2.2.2.2.2⟩
  ·rintro m2 s2 h3 ⟨rfl,sb,q1,q2,q3,q4,q4',q5,q6,q7,q8⟩ ⟨ol3,hol3⟩ ⟨ob3,hob3⟩
   obtain⟨r1,r2,r3,r4,r5⟩:=q8
   rw[qpBZ]
   unfold qocZ
   have hn:=accL_n l now i (by omega)
   have hlen:(liveS l now).length≤l.length:=List.length_filter_le _ _
   have hw:IntKind.i64.wrap ((i:Int)+1)=i+1:=wrap64_id (by omega) (by omega)
   have hb5:=nb _ _ b5.1
   have hb3:=nb _ _ b3.1
   have hl5:v5≠l':=fun e=>nl _ _ b5.1 (by rw[e])
   have hl3:v3≠l':=fun e=>nl _ _ b3.1 (by rw[e])
   have hst:=accL_s hi'
   rw[show accL l now i=((accL l now i).1,i) from Prod.ext rfl hn] at hst
   have hne:sb≠v3:=q6
   have ax:∀ h4,Ext h3 h4→h4 l'=h3 l'∧h4 b'=h3 b':=fun h4 e=>⟨by rw[hol3,e _ _ hol3],by rw[hob3,e _ _ hob3]⟩
   have finT:∀ h4,Ext h3 h4→(accL l now (i+1)).1=(liveS l now)[i]→∀ h5,h5=upd (upd h4 v3 (.cells (sessC (liveS l now)[i]).toArray qdZ (0,0))) v5 (.cells #[.int .i64 (i+1:Nat)] qoZ (0,0)) →
     h5 l'=h3 l'∧h5 b'=h3 b'∧OfJ (fz T7 h7) h v1 v3 v5 l now (i+1) h5:=fun h4 e hacc h5 e5=>by
    subst e5
    have:=ax h4 e
    refine⟨by rw[upd_ne (Ne.symm hl5),upd_ne (Ne.symm hl3)]; exact this.1,by rw[upd_ne (Ne.symm hb5),upd_ne (Ne.symm hb3)]; exact this.2,fun c o ec=>?_,fun c o ec=>?_,?_,?_,upd_same' _ _ _⟩
    ·have h1:c≠v5:=fun hc=>by
      subst hc
      have:fz T7 h7 c=none:=by unfold fz; rw[if_neg]; rw[b5.2]; simp
      rw[this] at ec; cases ec
     have h2:c≠v3:=fun hc=>by
      subst hc
      have:fz T7 h7 c=none:=by unfold fz; rw[if_neg]; rw[b3.2]; simp
      rw[this] at ec; cases ec
     rw[upd_ne h1,upd_ne h2]; exact e _ _ (r1 _ _ ec)
    ·rw[upd_ne (fun hc=>by subst hc; rw[n5'] at ec; cases ec),upd_ne (fun hc=>by subst hc; rw[n3'] at ec; cases ec)]; exact e _ _ (r2 _ _ ec)
    ·rw[upd_ne ne15,upd_ne ne13]; exact e _ _ r3
    ·rw[upd_ne ne35,upd_same',hacc]
   have finF:∀ h4,Ext h3 h4→(accL l now (i+1)).1=(accL l now i).1→∀ h5,h5=upd h4 v5 (.cells #[.int .i64 (i+1:Nat)] qoZ (0,0)) →
     h5 l'=h3 l'∧h5 b'=h3 b'∧OfJ (fz T7 h7) h v1 v3 v5 l now (i+1) h5:=fun h4 e hacc h5 e5=>by
    subst e5
    have:=ax h4 e
    refine⟨by rw[upd_ne (Ne.symm hl5)]; exact this.1,by rw[upd_ne (Ne.symm hb5)]; exact this.2,fun c o ec=>?_,fun c o ec=>?_,?_,?_,upd_same' _ _ _⟩
    ·have h1:c≠v5:=fun hc=>by
      subst hc
      have:fz T7 h7 c=none:=by unfold fz; rw[if_neg]; rw[b5.2]; simp
      rw[this] at ec; cases ec
     rw[upd_ne h1]; exact e _ _ (r1 _ _ ec)
    ·rw[upd_ne (fun hc=>by subst hc; rw[n5'] at ec; cases ec)]; exact e _ _ (r2 _ _ ec)
    ·rw[upd_ne ne15]; exact e _ _ r3
    ·rw[upd_ne ne35,hacc]; exact e _ _ r4
   rw[seqM_eq]
   have hw5:(↑(i+1:Nat):Int)=i+1:=by omega
   simp -implicitDefEqProofs only[sessC] at q5 r4
   by_cases hi0:i=0
   ·subst hi0
    simp -implicitDefEqProofs[q1,q2,q3,ld_at q5,cel_of q5,stm_at q5,ld_at r4,cel_of r4,stm_at r4,ld_at r5,cel_of r5,stm_at r5,stm_skip ne35,stm_skip (Ne.symm ne35),ld_skip ne35,ld_skip (Ne.symm ne35),cel_skip ne35,cel_skip (Ne.symm ne35),stm_upd,ld_same,cel_same,over,sessC,cel_skip (Ne.symm ne35),stm_skip (Ne.symm ne35),cel_of r5,stm_at r5]
    refine finT h3 (Ext.refl _) (by rw[hst]; simp[stepL]) _ ?_
    rw[upd_comm (Ne.symm ne35)]
    rfl
   ·have hi0':¬ ((i:Int)=0):=by omega
    simp -implicitDefEqProofs[q1,q2,q3,ld_at q5,cel_of q5,stm_at q5,ld_at r4,cel_of r4,stm_at r4,ld_at r5,cel_of r5,stm_at r5,stm_upd,ld_same,cel_same,over,hi0',hi0]
    refine better_ok (liveS l now)[i] (accL l now i).1 fun h4 e4=>?_
    have q5:=e4 _ _ q5
    have r4':=e4 _ _ r4
    have r5':=e4 _ _ r5
    cases hb:better (liveS l now)[i] (accL l now i).1 with
    | true =>
     simp -implicitDefEqProofs[ld_at q5,cel_of q5,stm_at q5,ld_at r4',cel_of r4',stm_at r4',ld_at r5',cel_of r5',stm_at r5',stm_skip ne35,stm_skip (Ne.symm ne35),ld_skip ne35,ld_skip (Ne.symm ne35),cel_skip ne35,cel_skip (Ne.symm ne35),stm_upd,ld_same,cel_same,over,hw]
     refine finT h4 e4 (by rw[hst]; simp[stepL,hb]) _ ?_
     rw[upd_comm (Ne.symm ne35)]
     rfl
    | false =>
     simp -implicitDefEqProofs[ld_at q5,cel_of q5,stm_at q5,ld_at r4',cel_of r4',stm_at r4',ld_at r5',cel_of r5',stm_at r5',stm_upd,ld_same,cel_same,over,hw]
     exact finF h4 e4 (by rw[hst]; simp[stepL,hb,hi0]) _ rfl
 ·intro b' h' hb' hd hJ
  simp -implicitDefEqProofs only[blkM_n,thenM_n]
  obtain⟨r1,r2,r3,r4,r5⟩:=hJ
  have hlx:(liveX l now).length=(liveS l now).length:=by simp[liveX]
  rw[hlx] at r4 r5
  simp -implicitDefEqProofs only[sessC] at r4
  unfold qoMZ
  have nb1:v1≠b':=fun e=>by subst e; rw[b1.1] at hb'; cases hb'
  have bdP:∀ a b c:Int,bdV (binf P qmZ) [(0,.int .i64 a),(1,.int .i64 b),(2,.int .i64 c)]=some (.agg #[.int .i64 a,.int .i64 b,.int .i64 c]):=fun a b c=>by kernel_rfl
  simp -implicitDefEqProofs[ld_at r3,cel_of r3,stm_at r3,ld_at r4,cel_of r4,stm_at r4,ld_at r5,cel_of r5,stm_at r5,stm_upd,ld_same,cel_same,over,bdP,upd_ne (Ne.symm nb1),hd,tgPres,ld_skip nb1]
  refine kv (hk _ ?_) (by rw[presOf,← accL_all,accL_n _ _ _ (Nat.le_refl _)]; rfl)
  intro c o ec
  rw[upd_ne (fun hc=>by subst hc; rw[e7 _ _ ec] at hb'; cases hb'),upd_ne (fun hc=>by subst hc; rw[n1'] at ec; cases ec)]
  exact r2 _ _ ec
end Go.Proofs.YtcnphhhcknhhaaaGreat
namespace Go.Den
open Go
set_option linter.unusedVariables false
set_option linter.unusedSimpArgs false
def ltS (a b:ByteArray):Bool:=Op.bytesLess a.toList b.toList
theorem bl_irrefl:∀ x:List UInt8,Op.bytesLess x x=false
 | []=>rfl
 | a::x=>by
  have:¬ a<a:=UInt8.lt_irrefl a
  simp[Op.bytesLess,this,bl_irrefl x]
theorem bl_trans:∀ {x y z:List UInt8},Op.bytesLess x y=true→Op.bytesLess y z=true→Op.bytesLess x z=true
 | _,_,[],_,h=>by simp[Op.bytesLess] at h
 | [],_,_::_,_,_=>rfl
 | _::_,[],_,h,_=>by simp[Op.bytesLess] at h
 | a::x,b::y,c::z,h1,h2=>by
  simp only[Op.bytesLess,Bool.or_eq_true,decide_eq_true_eq,Bool.and_eq_true,beq_iff_eq] at *
  rcases h1 with h1 | ⟨rfl,h1⟩
  ·rcases h2 with h2 | ⟨rfl,h2⟩
   ·exact .inl (UInt8.lt_trans h1 h2)
   ·exact .inl h1
  ·rcases h2 with h2 | ⟨rfl,h2⟩
   ·exact .inl h2
   ·exact .inr ⟨rfl,bl_trans h1 h2⟩
theorem bl_total:∀ x y:List UInt8,Op.bytesLess x y=false→Op.bytesLess y x=false→x=y
 | [],[],_,_=>rfl
 | [],_::_,h,_=>by simp[Op.bytesLess] at h
 | _::_,[],_,h=>by simp[Op.bytesLess] at h
 | a::x,b::y,h1,h2=>by
  simp only[Op.bytesLess,Bool.or_eq_false_iff,decide_eq_false_iff_not,Bool.and_eq_false_iff,beq_eq_false_iff_ne] at *
  have hab:a=b:=by
   have h3:=h1.1
   have h4:=h2.1
   rw[UInt8.lt_iff_toNat_lt] at h3 h4
   exact UInt8.toNat_inj.1 (by omega)
  subst hab
  congr 1
  exact bl_total x y (by rcases h1.2 with h | h; exact absurd rfl h; exact h) (by rcases h2.2 with h | h; exact absurd rfl h; exact h)
theorem ltS_irrefl (a:ByteArray):ltS a a=false:=bl_irrefl _
theorem ltS_trans {a b c:ByteArray}(h:ltS a b=true)(k:ltS b c=true):ltS a c=true:=bl_trans h k
theorem ltS_total {a b:ByteArray}(h:ltS a b=false)(k:ltS b a=false):a=b:=str_inj (bl_total _ _ h k)
theorem ltS_asymm {a b:ByteArray}(h:ltS a b=true):ltS b a=false:=by
 cases k:ltS b a with
 | false=>rfl
 | true=>have:=ltS_trans h k; rw[ltS_irrefl] at this; cases this
def SrtK (l:List ByteArray):Prop:=l.Pairwise fun a b=>ltS a b=true
def pos (l:List ByteArray)(u:ByteArray):Nat:=(l.takeWhile fun k=>ltS k u).length
theorem SrtK.at {l:List ByteArray}(s:SrtK l){i j:Nat}(hi:i<j)(hj:j<l.length):ltS (l[i]'(by omega)) l[j]=true:=List.pairwise_iff_getElem.1 s i j (by omega) hj hi
theorem pos_of {l:List ByteArray}(u:ByteArray){i:Nat}(hi:i≤l.length)(h1:∀ k (hk:k<l.length),k<i→ltS l[k] u=true)(h2:∀ (hk:i<l.length),ltS l[i] u=false):pos l u=i:=by
 induction l generalizing i with
 | nil=>simp at hi; subst hi; rfl
 | cons a l ih =>
  unfold pos
  cases i with
  | zero =>
   have:=h2 (by simp)
   simp only[List.getElem_cons_zero] at this
   simp[List.takeWhile_cons,this]
  | succ i =>
   have h0:=h1 0 (by simp) (by omega)
   simp only[List.getElem_cons_zero] at h0
   have:=ih (i:=i) (by simpa using hi) (fun k hk hki=>by have:=h1 (k+1) (by simpa using hk) (by omega); rwa [List.getElem_cons_succ] at this) (fun hk=>by have:=h2 (by simpa using hk); rwa [List.getElem_cons_succ] at this)
   unfold pos at this
   simp[List.takeWhile_cons,h0,this]
theorem pos_spec {l:List ByteArray}(s:SrtK l)(u:ByteArray):pos l u≤l.length∧(∀ k (hk:k<l.length),k<pos l u→ltS l[k] u=true)∧(∀ k (hk:k<l.length),pos l u≤k→ltS l[k] u=false):=by
 induction l with
 | nil=>simp[pos]
 | cons a l ih =>
  have s':SrtK l:=(List.pairwise_cons.1 s).2
  obtain⟨h1,h2,h3⟩:=ih s'
  cases ha:ltS a u with
  | true =>
   have e:pos (a::l) u=pos l u+1:=by simp[pos,List.takeWhile_cons,ha]
   rw[e]
   refine⟨by simpa using h1,fun k hk hkp=>?_,fun k hk hkp=>?_⟩
   ·cases k with
    | zero=>simpa using ha
    | succ k=>rw[List.getElem_cons_succ]; exact h2 k (by simpa using hk) (by omega)
   ·cases k with
    | zero=>omega
    | succ k=>rw[List.getElem_cons_succ]; exact h3 k (by simpa using hk) (by omega)
  | false =>
   have e:pos (a::l) u=0:=by simp[pos,List.takeWhile_cons,ha]
   rw[e]
   refine⟨by omega,fun k hk hkp=>by omega,fun k hk _=>?_⟩
   cases k with
   | zero=>simpa using ha
   | succ k =>
    have hk':k<l.length:=by simpa using hk
    have:=(List.pairwise_cons.1 s).1 l[k] (List.getElem_mem _)
    rw[List.getElem_cons_succ]
    cases hk2:ltS l[k] u with
    | false=>rfl
    | true=>rw[ltS_trans this hk2] at ha; cases ha
theorem mem_pos {l:List ByteArray}(s:SrtK l)(u:ByteArray):u∈l↔∃ h:pos l u<l.length,l[pos l u]=u:=by
 obtain⟨h1,h2,h3⟩:=pos_spec s u
 constructor
 ·intro h
  obtain⟨i,hi,rfl⟩:=List.getElem_of_mem h
  have hip:pos l l[i]=i:=by
   refine pos_of _ (by omega) (fun k hk hki=>s.at hki hi) (fun hk=>ltS_irrefl _)
  exact⟨by rw[hip]; exact hi,by simp only[hip]⟩
 ·rintro⟨h,e⟩; rw[← e]; exact List.getElem_mem _
def keysB (b:Book):List ByteArray:=b.map (·.1)
def hasB (b:Book)(u:ByteArray):Bool:=(keysB b).any fun k=>decide (k=u)
theorem hasB_iff {b:Book}{u:ByteArray}:hasB b u=true↔u∈keysB b:=by simp[hasB]
theorem entOf_mem {b:Book}(s:SrtK (keysB b)){i:Nat}(hi:i<b.length):entOf b b[i].1=b[i].2:=by
 induction b generalizing i with
 | nil=>simp at hi
 | cons x b ih =>
  obtain⟨k,e⟩:=x
  have s':SrtK (keysB b):=(List.pairwise_cons.1 s).2
  cases i with
  | zero=>simp[entOf]
  | succ i =>
   have hi':i<b.length:=by simpa using hi
   have hne:¬ k=b[i].1:=fun h=>by
    have:=(List.pairwise_cons.1 s).1 b[i].1 (List.mem_map_of_mem (List.getElem_mem _))
    rw[h,ltS_irrefl] at this; cases this
   simp only[List.getElem_cons_succ,entOf,if_neg hne]
   exact ih s' hi'
theorem entOf_none {b:Book}{u:ByteArray}(h:u ∉ keysB b):entOf b u=ent0:=by
 induction b with
 | nil=>rfl
 | cons x b ih =>
  obtain⟨k,e⟩:=x
  simp only[keysB,List.map_cons,List.mem_cons,not_or] at h
  simp only[entOf,if_neg (Ne.symm h.1)]
  exact ih h.2
structure BkG (b:Book):Prop where
 so:SrtK (keysB b)
 len:b.length<1000000
 ss:∀ u,(entOf b u).ss.length<1000000
theorem BkG.nil:BkG []:=⟨List.Pairwise.nil,by simp,fun u=>by simp[entOf,ent0]⟩
end Go.Den
namespace Go.Proofs.YtcnphhhcknhhaaaGreat
open Go Go.Den Go.MapKept
set_option linter.unusedSimpArgs false
set_option linter.unusedVariables false
set_option maxRecDepth 20000
variable {K:KTy}
theorem isNaN_ok (a:ByteArray){h:Heap}(hk:K (.bool false) h):callM P qdfZ #[.string a] h K:=by
 apply qorZ
 unfold qgpZ
 simpa using hk
theorem sisNaN_ok (a:ByteArray){h:Heap}(hk:K (.bool false) h):callM P qceZ #[.string a] h K:=by
 apply qmLZ
 unfold qdXZ
 simpa using hk
theorem cmpLess_ok (a b:ByteArray){h:Heap}(hk:K (.bool (ltS a b)) h):callM P qfRZ #[.string a,.string b] h K:=by
 apply qoJZ
 unfold qgOZ
 refine isNaN_ok a ?_
 unfold qjDZ
 have e:binV .lss 3 false (.string a) (.string b)=some (.bool (ltS a b)):=rfl
 simp -implicitDefEqProofs[e]
 exact hk
theorem str_at {F:Heap}{v:Value}{l:List ByteArray}(x:Sl 1 StrR F v l){i:Nat}(hi:i<l.length){k:IntKind}:∃ b p,iaV (some (none,1)) v (.int k i)=some (.pointer (some ⟨b,p,none⟩))∧∀ h',Ext F h'→cel h' b p=some (.string l[i]):=by
 obtain⟨b,p,c,h1,h2,h3⟩:=x.at (k:=k) (i:=i) (by omega) (by omega)
 refine⟨b,p,h1,fun h' e=>?_⟩
 have hc:c=[.string l[i]]:=h3.1
 subst hc
 have:=(cels_get (cels_ext e h2)).2 0 (by simp)
 simpa using this
set_option maxHeartbeats 1000000 in
theorem bs_ok (l : List ByteArray) (so : SrtK l) (u : ByteArray) {h : Heap} {v : Value} (x : Sl 1 StrR h v l) (hl : l.length < 1000000) (hk : K (.tuple #[.int .i64 (pos l u), .bool (l.any fun k => decide (k = u))]) h) :
    callM P qDZ #[v, .string u] h K := by
  apply qgtZ
  unfold qatZ
  have hlen := x.len
  simp -implicitDefEqProofs only [hlen, ov_s]
  rw [seqM_eq]
  unfold qccZ
  refine loop_on [0, 1, 6] (fun s h' => h' = h ∧ ∃ i j : Nat, i ≤ j ∧ j ≤ l.length ∧ s 7 = .int .i64 i ∧ s 8 = .int .i64 j ∧ (∀ k (hk : k < l.length), k < i → ltS l[k] u = true) ∧ ∀ k (hk : k < l.length), j ≤ k → ltS l[k] u = false)
    (fun s _ => (num (s 8) - num (s 7)).toNat) ⟨rfl, 0, l.length, by omega, by omega, rfl, by simp, fun k _ h => by omega, fun k hk h => by omega⟩ ?_
  rintro s h1 hf ⟨rfl, i, j, hij, hj, s7, s8, hlo, hhi⟩
  have s0 : s 0 = v := by simpa using hf 0 (by simp)
  have s1 : s 1 = .string u := by simpa using hf 1 (by simp)
  have s6 : s 6 = .int .i64 l.length := by simpa using hf 6 (by simp)
  unfold qcbZ
  simp -implicitDefEqProofs only [s7, s8, bin_lss, ov_s, cd_b]
  refine ⟨fun hc => ?_, fun hc => ?_⟩
  · have hlt : i < j := by have : ((i : Int) < j) := by simpa using hc
                           omega
    obtain ⟨m, hm⟩ : ∃ m : Nat, m = (i + j) / 2 := ⟨_, rfl⟩
    have hm1 : i ≤ m ∧ m < j := by omega
    have w1 : IntKind.i64.wrap ((i : Int) + j) = (i + j : Nat) := by rw [wrap64_id (by omega) (by omega)]; omega
    have w2 : IntKind.u64.wrap ((i + j : Nat) : Int) = (i + j : Nat) := wrapU_id (by omega) (by omega)
    have w3 : binV .shr 2 true (.int .u64 ((i + j : Nat) : Int)) (.int .u64 1) = some (.int .u64 m) := by
      have : ((i + j : Nat) : Int).fdiv 2 = m := by rw [Int.fdiv_eq_ediv_of_nonneg _ (by omega)]; omega
      simp -implicitDefEqProofs [binV, intV, IntKind.bits]
      rw [← this]; rfl
    have w4 : IntKind.i64.wrap (m : Int) = m := wrap64_id (by omega) (by omega)
    have w5 : IntKind.i64.wrap ((m : Int) + 1) = m + 1 := wrap64_id (by omega) (by omega)
    obtain ⟨b, p, i1, i2⟩ := str_at x (k := .i64) (i := m) (by omega)
    unfold qcaZ
    simp -implicitDefEqProofs only [s0, s1, s7, s8, bin_add, ov_s, w1, cvV_i, w2, w3, w4, i1, ldV_c, i2 _ (Ext.refl _)]
    refine cmpLess_ok _ _ ?_
    unfold qbZZ qbXZ qbYZ
    cases hlm : ltS l[m] u with
    | true =>
      simp -implicitDefEqProofs [w5, s0, s1, s6, s7, s8]
      refine ⟨⟨m + 1, j, by omega, by omega, by simp, rfl, fun k hk hkm => ?_, hhi⟩, by omega⟩
      by_cases e : k = m
      · subst e; exact hlm
      · exact ltS_trans (so.at (show k < m by omega) (by omega)) hlm
    | false =>
      simp -implicitDefEqProofs [s0, s1, s6, s7, s8]
      refine ⟨⟨i, m, by omega, by omega, rfl, rfl, hlo, fun k hk hkm => ?_⟩, by omega⟩
      by_cases e : k = m
      · subst e; exact hlm
      · cases hh : ltS l[k] u with
        | false => rfl
        | true => rw [ltS_trans (so.at (show m < k by omega) hk) hh] at hlm; cases hlm
  · have : i = j := by have : ¬ ((i : Int) < j) := by simpa using hc
                       omega
    subst this
    have hp : pos l u = i := pos_of u hj (fun k hk hki => hlo k hk hki) (fun hk => hhi i hk (by omega))
    have hany : (l.any fun k => decide (k = u)) = true ↔ u ∈ l := by simp
    have hmem := mem_pos so u
    rw [hp] at hk
    simp -implicitDefEqProofs only [lpM_e, blkM_e, if_true, thenM_n]
    unfold qcdZ
    by_cases hil : i < l.length
    · obtain ⟨b, p, i1, i2⟩ := str_at x (k := .i64) (i := i) hil
      have hil' : (i : Int) < l.length := by omega
      by_cases heq : l[i] = u
      · have : (l.any fun k => decide (k = u)) = true := hany.2 (heq ▸ List.getElem_mem hil)
        simp -implicitDefEqProofs [s0, s1, s6, s7, s8, hil', hil, i1, i2 _ (Ext.refl _), heq]
        rw [this] at hk; exact hk
      · have : (l.any fun k => decide (k = u)) = false := by
          cases hh : (l.any fun k => decide (k = u)) with
          | false => rfl
          | true => obtain ⟨h3, h4⟩ := hmem.1 (hany.1 hh); simp only [hp] at h4; exact absurd h4 heq
        simp -implicitDefEqProofs [s0, s1, s6, s7, s8, hil', hil, i1, i2 _ (Ext.refl _), heq]
        refine sisNaN_ok _ ?_
        rw [this] at hk; exact hk
    · have hil' : ¬ ((i : Int) < l.length) := by omega
      have : (l.any fun k => decide (k = u)) = false := by
        cases hh : (l.any fun k => decide (k = u)) with
        | false => rfl
        | true => obtain ⟨h3, h4⟩ := hmem.1 (hany.1 hh); rw [hp] at h3; exact absurd h3 hil
      simp -implicitDefEqProofs [s0, s1, s6, s7, s8, hil', hil]
      rw [this] at hk; exact hk
theorem zcEnt:zc P qiZ=some #[.slice none 0 0,.int .i64 0,.int .i64 0,.int .i64 0]:=by kernel_rfl
theorem find_ok (l:List ByteArray)(so:SrtK l)(u:ByteArray){h:Heap}{kw vw:Value}(ov_:vw.cells=#[vw])(x:Sl 1 StrR h kw l)(hl:l.length<1000000)(hk:∀ h',Ext h h'→K (.tuple #[.int .i64 (pos l u),.bool (l.any fun k=>decide (k=u))]) h') :
  callM P qxZ #[.agg #[kw,vw],.string u] h K:=by
 apply qhkZ
 unfold qaNZ
 refine nw_agg fun v1 h1 n1 e1 c1=>?_
 simp -implicitDefEqProofs[ld_at c1,cel_of c1,stm_at c1,stm_upd,ld_same,cel_same,over]
 refine bs_ok l so u (x.ext (@StrR.ext) e1) hl ?_
 simp -implicitDefEqProofs
 exact hk _ e1
theorem get_ok (b:Book)(so:SrtK (keysB b))(u:ByteArray){F h:Heap}(eF:Ext F h){kw vw:Value}(x:BookR F kw vw b)(hl:b.length<1000000)
  (hk:∀ h' sv,Ext h h'→Sl 4 SessR F sv (entOf b u).ss→Sn sv→K (.tuple #[.agg (sv::presC (entOf b u).told).toArray,.bool (hasB b u)]) h'):callM P qyZ #[.agg #[kw,vw],.string u] h K:=by
 apply qhCZ
 unfold qaYZ
 rw[zcEnt]
 refine nw_agg fun v1 h1 n1 e1 c1=>?_
 refine nw_intro fun v3 h3 n3 e3 c3=>?_
 refine nw_intro fun v5 h5 n5 e5 c5=>?_
 have c1:=e5 _ _ (e3 _ _ c1)
 have ne35:=ne_fresh c3 n5
 have c3:=e5 _ _ c3
 have e0:=(e1.trans e3).trans e5
 have n3:=fresh_of e1 n3
 simp -implicitDefEqProofs[ld_at c1,cel_of c1,stm_at c1,stm_upd,ld_same,cel_same,over]
 refine find_ok (keysB b) so u x.2.1.one.2 (x.1.ext (@StrR.ext) (eF.trans e0)) (by simpa [keysB] using hl) fun h6 e6=>?_
 have c1:=e6 _ _ c1
 have c3:=e6 _ _ c3
 have c5:=e6 _ _ c5
 have e0:=e0.trans e6
 unfold qcVZ
 simp -implicitDefEqProofs only[exV_0,exV_1,ov_s,unV_n,cd_b]
 refine⟨fun hn=>?_,fun hy=>?_⟩
 ·have hno:u ∉ keysB b:=fun hh=>by
   have:=hasB_iff.2 hh
   unfold hasB at this
   rw[this] at hn; cases hn
  unfold qcTZ
  simp -implicitDefEqProofs[ld_at c3,cel_of c3,stm_at c3,ld_at c5,cel_of c5,stm_at c5,stm_upd,ld_same,cel_same,over]
  have he:=entOf_none hno
  refine kv (hk _ (.slice none 0 0) (ext_upd n3 e0) (by rw[he]; exact .inl ⟨rfl,_,_,rfl⟩) Sn.nil) ?_
  have:hasB b u=false:=by
   cases hh:hasB b u with
   | false=>rfl
   | true=>exact absurd (hasB_iff.1 hh) hno
  rw[he,this]; rfl
 ·have hyes:hasB b u=true:=by
   unfold hasB
   simpa using hy
  obtain⟨h1,h2⟩:=(mem_pos so u).1 (hasB_iff.1 hyes)
  have hlen:(keysB b).length=b.length:=by simp[keysB]
  have hp:pos (keysB b) u<b.length:=by omega
  have hu:b[pos (keysB b) u].1=u:=by simpa [keysB] using h2
  have he:entOf b u=b[pos (keysB b) u].2:=by
   have:=entOf_mem so hp
   rw[hu] at this; exact this
  obtain⟨eb,eo,c,i1,i2,sv,i3,i4,i5⟩:=x.2.1.at (k:=.i64) (i:=pos (keysB b) u) (by omega) (by simpa using hp)
  simp -implicitDefEqProofs only[Int.toNat_natCast,List.getElem_map] at i3 i4
  have i2:=cels_ext (eF.trans e0) i2
  rw[← he] at i3 i4
  subst i3
  unfold qcUZ
  simp -implicitDefEqProofs only[presC] at i2
  simp -implicitDefEqProofs[ld_at c1,cel_of c1,stm_at c1,ld_at c3,cel_of c3,stm_at c3,stm_upd,ld_same,cel_same,over,i1,ldV_n i2,i4.one.1,i4.one.2]
  refine kv (hk _ sv (ext_upd n3 e0) i4 i5) ?_
  rw[hyes]; rfl
theorem presence_ok (b:Book)(so:SrtK (keysB b))(u:ByteArray)(now:Int){F h:Heap}(eF:Ext F h){kw vw:Value}(x:BookR F kw vw b)(hl:b.length<1000000)(hs:(entOf b u).ss.length<1000000)
  (hk:∀ h',Ext h h'→K (.agg (presC (presB b u now)).toArray) h'):callM P qhrZ #[.agg #[kw,vw],.string u,.int .u64 now] h K:=by
 apply qphZ
 unfold qipZ
 rw[zcPres]
 refine nw_agg fun v1 h1 n1 e1 c1=>?_
 refine nw_intro fun v3 h3 n3 e3 c3=>?_
 have c1:=e3 _ _ c1
 have e0:=e1.trans e3
 have n3:=fresh_of e1 n3
 simp -implicitDefEqProofs[ld_at c1,cel_of c1,stm_at c1,stm_upd,ld_same,cel_same,over]
 refine get_ok b so u (eF.trans e0) x hl fun h5 sv e5 hsv _=>?_
 have c3:=e5 _ _ c3
 have e0:=e0.trans e5
 unfold qkXZ
 simp -implicitDefEqProofs only[exV_0,exV_1,ov_s,zcEnt]
 refine nw_intro fun v10 h6 n6 e6 c6=>?_
 have ne:=ne_fresh c3 n6
 have c3:=e6 _ _ c3
 have e1':=e0.trans e6
 have n10:=fresh_of e0 n6
 have os:=hsv.one
 simp -implicitDefEqProofs[ld_at c6,cel_of c6,stm_at c6,stm_upd,ld_same,cel_same,over,presC,os.1,os.2]
 refine aggOf_ok _ now (hsv.ext (R:=SessR) (@SessR.ext) (eF.trans (ext_upd n10 e1'))) hs fun h7 e7=>?_
 have c3:=e7 _ _ (by rw[upd_ne ne]; exact c3)
 simp -implicitDefEqProofs[ld_at c3,cel_of c3,stm_at c3,stm_upd,ld_same,cel_same,over,presC]
 exact kv (hk _ (ext_upd n3 ((ext_upd n10 e1').trans e7))) rfl
end Go.Proofs.YtcnphhhcknhhaaaGreat
namespace Go.Proofs.YtcnphhhcknhhaaaGreat
open Go Go.Den Go.MapKept
set_option linter.unusedSimpArgs false
set_option linter.unusedVariables false
set_option maxRecDepth 20000
theorem bsStr:bsI P qhZ=some (qaAZ,1,#[.string ⟨#[]⟩]):=by kernel_rfl
theorem unSlStr:P.underlying qhZ=some (.slice qaAZ):=by kernel_rfl
theorem apStr:apC P qaAZ=some (1,16,1):=by kernel_rfl
def strC1 (s:ByteArray):List Value:=[.string s]
def StrE (_:Heap)(c:List Value)(s:ByteArray):Prop:=c=strC1 s
theorem strE_of {h:Heap}{v:Value}{l:List ByteArray}(x:Sl 1 StrR h v l):Sl 1 StrE h v l:=by
 rcases x with h1 | ⟨b,o,cap,rfl,h1,h2,h3⟩
 ·exact .inl h1
 ·exact .inr ⟨b,o,cap,rfl,h1,h2,fun i hi=>let ⟨c,h4,h5⟩:=h3 i hi; ⟨c,h4,h5.1⟩⟩
theorem strR_of {h:Heap}{v:Value}{l:List ByteArray}(x:Sl 1 StrE h v l)(hs:∀ s∈l,s.size≤maxLen):Sl 1 StrR h v l:=by
 rcases x with h1 | ⟨b,o,cap,rfl,h1,h2,h3⟩
 ·exact .inl h1
 ·exact .inr ⟨b,o,cap,rfl,h1,h2,fun i hi=>let ⟨c,h4,h5⟩:=h3 i hi; ⟨c,h4,h5,hs _ (List.getElem_mem _)⟩⟩
theorem str_sizes {h:Heap}{v:Value}{l:List ByteArray}(x:Sl 1 StrR h v l):∀ s∈l,s.size≤maxLen:=by
 intro s hs
 obtain⟨i,hi,rfl⟩:=List.getElem_of_mem hs
 obtain⟨b,o,c,_,_,h3⟩:=x.at (k:=.i64) (i:=i) (by omega) (by omega)
 exact h3.2
variable {K:KTy}
theorem users_ok (x:OpD)(xw:OpW x){T:Tags}{h:Heap}(w:Wf T h){v:Value}(hv:Sl 1 StrR h v x.users)(hl:x.users.length<1000000)
  (hk:∀ v' h',Ext h h'→Sl 1 StrR (fz T h') v' (usersOf x)→K v' h'):callM P qdQZ #[.agg (opC x v).toArray] h K:=by
 apply qpqZ
 unfold qkGZ
 refine nw_agg fun v1 h1 n1 e1 c1=>?_
 simp -implicitDefEqProofs only[opC] at c1
 by_cases k4:x.kind=4
 ·simp -implicitDefEqProofs[ld_at c1,cel_of c1,stm_at c1,stm_upd,ld_same,cel_same,over,k4]
  refine bs_one bsStr rfl (by omega) fun b h2 n2 e2 c2=>?_
  refine hk _ h2 (e1.trans e2) ?_
  rw[usersOf,if_pos k4]
  refine .inr ⟨b,0,1,rfl,by simp,by unfold maxLen; omega,fun i hi=>⟨[.string x.user],?_,?_⟩⟩
  ·have:i=0:=by simpa using hi
   subst this
   have:=cels_of (fz_new w (fresh_of e1 n2) c2) (n:=1) (o:=0) (l:=[.string x.user]) (by simp) rfl
   simpa using this
  ·have:i=0:=by simpa using hi
   subst this
   exact⟨rfl,xw.s1⟩
 ·by_cases k5:x.kind=5
  ·unfold qhSZ qlzZ
   simp -implicitDefEqProofs[ld_at c1,cel_of c1,stm_at c1,stm_upd,ld_same,cel_same,over,k5]
   refine bs_none bsStr fun v2 h2 e2 r2 _ f2=>?_
   have c1:=e2 _ _ c1
   simp -implicitDefEqProofs[ld_at c1,cel_of c1,stm_at c1,stm_upd,ld_same,cel_same,over]
   refine copy_intro (enc:=strC1) (R:=StrE) unSlStr apStr (by omega) w (e1.trans e2) r2 (fun g hg=>fresh_of e1 (f2 g hg)) id (fun _ _=>rfl) (fun _=>rfl) (strE_of (hv.ext (@StrR.ext) (e1.trans e2))) (by simp[strC1]) (by unfold maxLen; omega) (by omega) fun v3 h3 e3 x3=>?_
   refine hk v3 h3 e3 ?_
   rw[usersOf,if_neg k4,if_pos k5]
   exact strR_of x3 (str_sizes hv)
  ·unfold qhSZ
   simp -implicitDefEqProofs[ld_at c1,cel_of c1,stm_at c1,stm_upd,ld_same,cel_same,over,k4,k5]
   refine hk _ _ e1 ?_
   rw[usersOf,if_neg k4,if_neg k5]
   exact .inl ⟨rfl,_,_,rfl⟩
theorem all_succ {α:Type}{p:α→Bool}{l:List α}{i:Nat}(h:i<l.length)(ha:(l.take i).all p=true)(hn:p l[i]=true):(l.take (i+1)).all p=true:=by
 rw[List.take_succ_eq_append_getElem h,List.all_append,ha]; simp[hn]
set_option maxHeartbeats 1000000 in
theorem modBad_ok (x : OpD) (xw : OpW x) {h : Heap} {v : Value} (hv : Sl 1 StrR h v x.users) (hl : x.users.length < 1000000)
    (hk : ∀ h', Ext h h' → K (.bool (badB x)) h') : callM P qdOZ #[.agg (opC x v).toArray] h K := by
  apply qpHZ
  unfold qlUZ
  refine nw_agg fun v1 h1 n1 e1 c1 => ?_
  simp -implicitDefEqProofs only [opC] at c1
  have hk1 := hk h1 e1
  rw [seqM_eq]
  unfold qnhZ
  by_cases k1 : x.kind = 1
  · unfold qnbZ
    simp -implicitDefEqProofs [ld_at c1, cel_of c1, stm_at c1, stm_upd, ld_same, cel_same, over, k1]
    refine hashRight_ok _ ?_
    unfold qnaZ
    simp +contextual -implicitDefEqProofs [ld_at c1, cel_of c1, stm_at c1, stm_upd, ld_same, cel_same, over]
    refine gM_call0 (a := .bool (decide (0 ≤ x.id ∧ x.id ≤ 255 ∧ 1 ≤ x.status ∧ x.status ≤ 9 ∧ 0 ≤ x.prio ∧ x.prio ≤ 9))) (fun hc K' hk' => sessRight_ok _ _ _ hk') ?_
    simp +contextual -implicitDefEqProofs
    refine kb hk1 ?_
    rw [badB, if_pos k1]
    cases nameB x.user <;> simp
  unfold qngZ
  simp -implicitDefEqProofs [ld_at c1, cel_of c1, stm_at c1, stm_upd, ld_same, cel_same, over, k1]
  rw [seqM_eq]
  unfold qndZ qncZ
  by_cases k2 : x.kind = 2 ∨ x.kind = 3
  · have hb : badB x = !(nameB x.user && decide (0 ≤ x.id ∧ x.id ≤ 255)) := by rw [badB, if_neg k1, if_pos k2]
    rw [hb] at hk1
    unfold qkFZ qnfZ
    rcases k2 with k2 | k2
    all_goals
      simp -implicitDefEqProofs [ld_at c1, cel_of c1, stm_at c1, stm_upd, ld_same, cel_same, over, k2]
      refine hashRight_ok _ ?_
      unfold qneZ
      simp +contextual -implicitDefEqProofs [ld_at c1, cel_of c1, stm_at c1, stm_upd, ld_same, cel_same, over]
      refine gM_call0 (a := .bool (decide (0 ≤ x.id ∧ x.id ≤ 255))) (fun hc K' hk' => within_ok _ _ _ hk') ?_
      simp +contextual -implicitDefEqProofs
      refine kb hk1 ?_
      cases nameB x.user <;> simp
  have k2' : ¬ x.kind = 2 := fun h => k2 (.inl h)
  have k3' : ¬ x.kind = 3 := fun h => k2 (.inr h)
  unfold qkFZ qmtZ
  simp -implicitDefEqProofs [k2', k3']
  rw [seqM_eq]
  unfold qmgZ qmfZ qmeZ
  by_cases k4 : x.kind = 4 ∨ x.kind = 6 ∨ x.kind = 7
  · have hb : badB x = !nameB x.user := by rw [badB, if_neg k1, if_neg k2, if_pos k4]
    rw [hb] at hk1
    unfold qjMZ qmhZ
    rcases k4 with k4 | k4 | k4
    all_goals
      simp -implicitDefEqProofs [ld_at c1, cel_of c1, stm_at c1, stm_upd, ld_same, cel_same, over, k4]
      refine hashRight_ok _ ?_
      simp -implicitDefEqProofs
      exact hk1
  have k4' : ¬ x.kind = 4 := fun h => k4 (.inl h)
  have k6' : ¬ x.kind = 6 := fun h => k4 (.inr (.inl h))
  have k7' : ¬ x.kind = 7 := fun h => k4 (.inr (.inr h))
  unfold qjMZ qmsZ
  simp -implicitDefEqProofs [k4', k6', k7']
  by_cases k5 : x.kind = 5
  · have hb : badB x = !(decide (1 ≤ x.users.length ∧ x.users.length ≤ 8) && x.users.all nameB) := by rw [badB, if_neg k1, if_neg k2, if_neg k4, if_pos k5]
    have hlen := hv.len
    have hk' : ∀ h', Ext h1 h' → K (.bool (!(decide (1 ≤ x.users.length ∧ x.users.length ≤ 8) && x.users.all nameB))) h' := fun h' e => by rw [← hb]; exact hk h' (e1.trans e)
    unfold qmoZ
    simp -implicitDefEqProofs [k5]
    rw [seqM_eq]
    unfold qmmZ
    simp -implicitDefEqProofs [ld_at c1, cel_of c1, stm_at c1, stm_upd, ld_same, cel_same, over, hlen]
    refine loop_on [1, 47, 48] (fun s h' => h' = h1 ∧ ∃ i : Nat, i ≤ x.users.length ∧ s 49 = .int .i64 i ∧ (x.users.take i).all nameB = true) (fun s _ => (x.users.length - num (s 49)).toNat) ⟨rfl, 0, by omega, by simp, by simp⟩ ?_
    rintro s h2 hf ⟨rfl, i, hi, s49, hall⟩
    have s1 : s 1 = ptr v1 := by simpa using hf 1 (by simp)
    have s47 : s 47 = v := by simpa using hf 47 (by simp)
    have s48 : s 48 = .int .i64 x.users.length := by simpa using hf 48 (by simp)
    unfold qmlZ
    simp -implicitDefEqProofs only [s48, s49, bin_lss, ov_s, cd_b]
    refine ⟨fun hc => ?_, fun hc => ?_⟩
    · have hlt : i < x.users.length := by have : ((i : Int) < x.users.length) := by simpa using hc
                                          omega
      obtain ⟨b, o, i1, i2⟩ := str_at hv (k := .i64) hlt
      have hw : IntKind.i64.wrap ((i : Int) + 1) = i + 1 := wrap64_id (by omega) (by omega)
      unfold qmkZ
      simp -implicitDefEqProofs only [s47, s49, i1, ov_s, ldV_c, i2 _ e1]
      refine hashRight_ok _ ?_
      unfold qmjZ qmiZ
      cases hn : nameB x.users[i] with
      | true =>
        simp -implicitDefEqProofs [s49, hw, s1, s47, s48]
        refine ⟨⟨i + 1, by omega, by simp, ?_⟩, by omega⟩
        simpa using all_succ hlt hall hn
      | false =>
        simp -implicitDefEqProofs
        refine kb (hk' _ (Ext.refl _)) ?_
        have : x.users.all nameB = false := by rw [List.all_eq_false]; exact ⟨_, List.getElem_mem hlt, by simp [hn]⟩
        simp -implicitDefEqProofs [this]
    · have : i = x.users.length := by have : ¬ ((i : Int) < x.users.length) := by simpa using hc
                                      omega
      subst this
      rw [List.take_length] at hall
      unfold qmnZ
      simp -implicitDefEqProofs [s1, ld_at c1, cel_of c1, stm_at c1, stm_upd, ld_same, cel_same, over, hlen]
      refine within_ok _ _ _ ?_
      simp -implicitDefEqProofs
      refine kb (hk' _ (Ext.refl _)) ?_
      have e : decide (1 ≤ x.users.length ∧ x.users.length ≤ 8) = decide ((1 : Int) ≤ x.users.length ∧ (x.users.length : Int) ≤ 8) := decide_eq_decide.2 (by omega)
      rw [hall, e]; simp
  · have hb : badB x = !decide (x.kind = 8 ∨ x.kind = 9) := by rw [badB, if_neg k1, if_neg k2, if_neg k4, if_neg k5]
    rw [hb] at hk1
    unfold qmrZ
    simp -implicitDefEqProofs [k5]
    rw [seqM_eq]
    unfold qmqZ qmpZ
    by_cases k8 : x.kind = 8
    · simp -implicitDefEqProofs [ld_at c1, cel_of c1, stm_at c1, stm_upd, ld_same, cel_same, over, k8]
      exact kb hk1 (by simp [k8])
    · by_cases k9 : x.kind = 9
      · simp -implicitDefEqProofs [ld_at c1, cel_of c1, stm_at c1, stm_upd, ld_same, cel_same, over, k9]
        exact kb hk1 (by simp [k9])
      · simp -implicitDefEqProofs [ld_at c1, cel_of c1, stm_at c1, stm_upd, ld_same, cel_same, over, k1, k2', k3', k4', k5, k6', k7', k8, k9]
        exact kb hk1 (by simp [k8, k9])
set_option maxHeartbeats 1000000 in
theorem short_ok (x : OpD) {h : Heap} {v : Value} (hv : Sl 1 StrR h v x.users) (hk : ∀ h', Ext h h' → K (.bool (shortB x)) h') : callM P qcFZ #[.agg (opC x v).toArray] h K := by
  apply qmOZ
  unfold qeSZ
  refine nw_agg fun v1 h1 n1 e1 c1 => ?_
  simp -implicitDefEqProofs only [opC] at c1
  have hlen := hv.len
  have hk1 := hk h1 e1
  by_cases h40 : x.user.size ≤ 40
  rotate_left
  · have : (40 : Int) < x.user.size := by omega
    simp -implicitDefEqProofs [ld_at c1, cel_of c1, stm_at c1, stm_upd, ld_same, cel_same, over, this]
    exact kb hk1 (by simp [shortB, h40])
  have h40' : ¬ (40 : Int) < x.user.size := by omega
  by_cases h20 : x.users.length ≤ 20
  rotate_left
  · have : (20 : Int) < x.users.length := by omega
    simp -implicitDefEqProofs [ld_at c1, cel_of c1, stm_at c1, stm_upd, ld_same, cel_same, over, h40', this, hlen]
    exact kb hk1 (by simp [shortB, h20])
  have h20' : ¬ (20 : Int) < x.users.length := by omega
  unfold qgXZ
  simp -implicitDefEqProofs [ld_at c1, cel_of c1, stm_at c1, stm_upd, ld_same, cel_same, over, h40', h20', hlen]
  rw [seqM_eq]
  unfold qgWZ
  refine loop_on [1] (fun s h' => h' = h1 ∧ ∃ i : Nat, i ≤ x.users.length ∧ s 3 = .int .i64 i ∧ (x.users.take i).all (fun s => decide (s.size ≤ 40)) = true) (fun s _ => (x.users.length - num (s 3)).toNat) ⟨rfl, 0, by omega, rfl, by simp⟩ ?_
  rintro s h2 hf ⟨rfl, i, hi, s3, hall⟩
  have s1 : s 1 = ptr v1 := by simpa using hf 1 (by simp)
  unfold qgVZ
  simp -implicitDefEqProofs only [s1, faV_p, ov_s, ldV_c, Nat.zero_add, cel_of c1, List.getElem?_toArray, List.getElem?_cons_succ, List.getElem?_cons_zero, hlen, s3, bin_lss, cd_b]
  refine ⟨fun hc => ?_, fun hc => ?_⟩
  · have hlt : i < x.users.length := by have : ((i : Int) < x.users.length) := by simpa using hc
                                        omega
    obtain ⟨b, o, i1, i2⟩ := str_at hv (k := .i64) hlt
    have hw : IntKind.i64.wrap ((i : Int) + 1) = i + 1 := wrap64_id (by omega) (by omega)
    unfold qgUZ qgSZ qgTZ
    by_cases hn : x.users[i].size ≤ 40
    · have hn' : ¬ (40 : Int) < x.users[i].size := by omega
      simp -implicitDefEqProofs [s1, s3, ld_at c1, cel_of c1, stm_at c1, stm_upd, ld_same, cel_same, over, i1, i2 _ e1, hn', hw]
      refine ⟨⟨i + 1, by omega, by simp, ?_⟩, by omega⟩
      simpa using all_succ (p := fun s : ByteArray => decide (s.size ≤ 40)) hlt hall (by simp [hn])
    · have hn' : (40 : Int) < x.users[i].size := by omega
      simp -implicitDefEqProofs [s1, s3, ld_at c1, cel_of c1, stm_at c1, stm_upd, ld_same, cel_same, over, i1, i2 _ e1, hn']
      refine kb hk1 ?_
      have : (x.users.all fun s => decide (s.size ≤ 40)) = false := by rw [List.all_eq_false]; exact ⟨_, List.getElem_mem hlt, by simp [hn]⟩
      simp -implicitDefEqProofs [shortB, this]
  · have : i = x.users.length := by have : ¬ ((i : Int) < x.users.length) := by simpa using hc
                                    omega
    subst this
    rw [List.take_length] at hall
    simp -implicitDefEqProofs
    refine kb hk1 ?_
    simp -implicitDefEqProofs [shortB, hall, h40, h20]
end Go.Proofs.YtcnphhhcknhhaaaGreat
namespace Go.Proofs.YtcnphhhcknhhaaaGreat
open Go Go.Den Go.MapKept
set_option linter.unusedSimpArgs false
set_option linter.unusedVariables false
set_option maxRecDepth 20000
theorem inS_s {users:List ByteArray}{n:Int}{i s:Nat}(h:i<users.length):inS (users.take (i+1)) n s=(inS (users.take i) n s || decide (stripeOf users[i] n=s)):=by
 unfold inS; rw[List.take_succ_eq_append_getElem h,List.any_append]; simp
def inC (users:List ByteArray)(n:Int):List Value:=(List.range 8).map fun s=>.bool (inS users n s)
theorem inC_len (users:List ByteArray)(n:Int):(inC users n).length=8:=by simp[inC]
theorem zc8:zc P ty_8_bool=some #[.bool false,.bool false,.bool false,.bool false,.bool false,.bool false,.bool false,.bool false]:=by kernel_rfl
theorem bsInt:bsI P qhHZ=some (qoZ,1,#[.int .i64 0]):=by kernel_rfl
theorem unSlInt:P.underlying qhHZ=some (.slice qoZ):=by kernel_rfl
theorem apInt:apC P qoZ=some (1,8,1):=by kernel_rfl
def NatR (_:Heap)(c:List Value)(n:Nat):Prop:=c=[.int .i64 n]
theorem NatR.ext {h h':Heap}{c:List Value}{x:Nat}(_:Ext h h')(r:NatR h c x):NatR h' c x:=r
def natC (n:Nat):List Value:=[.int .i64 n]
def ssTo (users:List ByteArray)(n:Int)(k:Nat):List Nat:=(List.range k).filter (inS users n)
theorem ssTo_s (users:List ByteArray)(n:Int)(k:Nat):ssTo users n (k+1)=ssTo users n k++if inS users n k then [k] else []:=by
 unfold ssTo
 rw[List.range_succ,List.filter_append]
 congr 1
 cases hh:inS users n k<;>simp[List.filter_cons,hh]
theorem ssTo_le (users:List ByteArray)(n:Int):∀ k,(ssTo users n k).length≤k
 | 0=>by simp[ssTo]
 | k+1=>by have:=ssTo_le users n k; rw[ssTo_s,List.length_append]; split<;>simp<;>omega
def StripesI (users:List ByteArray)(n:Int)(h:Heap)(v27 v9:Value)(h':Heap):Prop:=Ext h h'∧∃ k:Nat,k≤8∧v27 = .int .i64 k∧Row 1 qoZ h' v9 (ssTo users n k).length ((ssTo users n k).flatMap natC)∧∀ b,rowOf v9=some b→h b=none
variable {K:KTy}
theorem stripes_ok (users : List ByteArray) (n : Int) (hn : n ≤ 8) {T : Tags} {h : Heap} (w : Wf T h) {v : Value} (x : Sl 1 StrR h v users) (hl : users.length < 1000000)
    (hk : ∀ v' h', Ext h h' → Sl 1 NatR (fz T h') v' (stripesOf users n) → K v' h') : callM P qhMZ #[v, .int .i64 n] h K := by
  apply qpnZ
  unfold qjPZ
  rw [zc8]
  refine nw_intro fun p h1 n1 e1 c1 => ?_
  rw [seqM_eq]
  unfold qlmZ
  have hlen := x.len
  simp -implicitDefEqProofs [hlen]
  refine loop_on [1, 4, 5, 12, 13] (fun s h' => (∃ h0, Ext h h0 ∧ h0 p = none ∧ True) ∧ Keep (some p) h1 h' ∧ ∃ i : Nat, i ≤ users.length ∧ s 14 = .int .i64 i ∧ h' p = some (.cells (inC (users.take i) n).toArray ty_8_bool (0, 0))) (fun s _ => (users.length - num (s 14)).toNat) ⟨⟨h, Ext.refl _, n1, trivial⟩, fun _ _ e _ => e, 0, by omega, rfl, by rw [c1]; simp [inC, inS, List.range_succ]⟩ ?_
  rintro s h2 hf ⟨_, k2, i, hi, s14, hp⟩
  have s1 : s 1 = .int .i64 n := by simpa using hf 1 (by simp)
  have s4 : s 4 = .slice none 0 0 := by simpa using hf 4 (by simp)
  have s5 : s 5 = ptr p := by simpa using hf 5 (by simp)
  have s12 : s 12 = v := by simpa using hf 12 (by simp)
  have s13 : s 13 = .int .i64 users.length := by simpa using hf 13 (by simp)
  have e2 : Ext h h2 := e1.keep k2 (fun b e => by cases e; exact n1)
  unfold qllZ
  simp -implicitDefEqProofs only [s13, s14, bin_lss, ov_s, cd_b]
  refine ⟨fun hc => ?_, fun hc => ?_⟩
  · have hlt : i < users.length := by have : ((i : Int) < users.length) := by simpa using hc
                                      omega
    obtain ⟨b, o, i1, i2⟩ := str_at x (k := .i64) hlt
    have hw : IntKind.i64.wrap ((i : Int) + 1) = i + 1 := wrap64_id (by omega) (by omega)
    have hsz := str_sizes x _ (List.getElem_mem hlt)
    unfold qlkZ
    rw [seqM_eq]
    unfold qljZ
    simp -implicitDefEqProofs only [s12, s14, i1, ov_s, ldV_c, i2 _ e2, s1]
    refine stripe_ok _ _ (by omega) hsz ?_
    unfold qliZ
    have hrng : 0 ≤ stripeOf users[i] n ∧ stripeOf users[i] n < 8 := by
      by_cases hn1 : 1 ≤ n
      · have := stripeOf_rng users[i] hn1; omega
      · unfold stripeOf; rw [if_pos (by omega)]; omega
    obtain ⟨q, hq⟩ : ∃ q : Nat, stripeOf users[i] n = q := ⟨(stripeOf users[i] n).toNat, by omega⟩
    rw [hq] at hrng ⊢
    simp -implicitDefEqProofs [hrng.2]
    unfold qlhZ
    have hq8 : q < 8 := by omega
    simp -implicitDefEqProofs [s5, ia_arr hq8, stm_at hp, inC_len, show q + 1 ≤ 8 by omega, s14, hw, s1, s4, s12, s13]
    refine ⟨⟨⟨h, Ext.refl _, n1⟩, k2.trans keep_upd, i + 1, by omega, by simp, ?_⟩, by omega⟩
    rw [upd_same']
    congr 2
    unfold inC
    rw [over_map1 hq8]
    congr 1
    apply List.map_congr_left
    intro k _
    rw [inS_s hlt, hq]
    by_cases hkq : k = q
    · subst hkq; simp
    · have : ¬ ((q : Int) = k) := by omega
      simp -implicitDefEqProofs [hkq, this]
  · have : i = users.length := by have : ¬ ((i : Int) < users.length) := by simpa using hc
                                  omega
    subst this
    rw [List.take_length] at hp
    simp -implicitDefEqProofs [s1, s4, s5, s12, s13]
    unfold qlpZ
    rw [seqM_eq]
    unfold qloZ
    have hT : List.take 8 (inC users n) = inC users n := List.take_of_length_le (Nat.le_of_eq (inC_len users n))
    simp -implicitDefEqProofs [s5, ld_at hp, cel_of hp, stm_at hp, stm_upd, ld_same, cel_same, over, inC_len, hT]
    have hx : ∀ k : Nat, k < 8 → xaV (some (none, 8, 1)) (.agg (inC users n).toArray) (.int .i64 k) = some (.bool (inS users n k)) := fun k hk => by
      have : (0 : Int) ≤ k ∧ (k : Int) < 8 := by omega
      simp -implicitDefEqProofs [xaV, this, fdV, inC, hk]
    refine loop_on [26] (fun s h' => StripesI users n h (s 27) (s 9) h') (fun s _ => (8 - num (s 27)).toNat)
      ⟨e2, 0, by omega, by simp, ⟨by simp [ssTo], .inl ⟨by simp, by simp [ssTo]⟩⟩, fun b hb => by simp [rowOf] at hb⟩ ?_
    rintro t h3 hft ⟨e3, k, hk8, t27, r9, f9⟩
    have t26 : t 26 = .agg (inC users n).toArray := by simpa using hft 26 (by simp)
    unfold qlnZ
    simp -implicitDefEqProofs only [t27, bin_lss, ov_s, cd_b]
    refine ⟨fun hc2 => ?_, fun hc2 => ?_⟩
    · have hlt : k < 8 := by have : ((k : Int) < 8) := by simpa using hc2
                             omega
      have hw : IntKind.i64.wrap ((k : Int) + 1) = k + 1 := wrap64_id (by omega) (by omega)
      unfold qkTZ
      rw [seqM_eq]
      unfold qkSZ
      simp -implicitDefEqProofs only [t26, t27, hx k hlt, ov_s, cd_b]
      refine ⟨fun hi => ?_, fun hi => ?_⟩
      · unfold qkRZ
        rw [t27]
        have hle := ssTo_le users n k
        refine app_one bsInt unSlInt apInt (by omega) (by simp) (by simp) r9 (by unfold maxLen; omega) (by omega) (by omega) fun a v9' h4 r9' k4 ha => ?_
        unfold qkQZ
        simp -implicitDefEqProofs [t27, t26, hw]
        refine ⟨⟨e3.keep k4 f9, k + 1, by omega, by simp, ?_, fun b hb => ?_⟩, by omega⟩
        · rw [ssTo_s, hi]
          simpa [natC] using r9'
        · rcases ha with ha | ⟨j, ha, hj⟩
          · exact f9 b (by rw [← ha]; exact hb)
          · rw [ha] at hb; simp only [Option.some.injEq] at hb; subst hb; exact fresh_of e3 hj
      · simp -implicitDefEqProofs [t27, t26, hw]
        refine ⟨⟨e3, k + 1, by omega, by simp, ?_, f9⟩, by omega⟩
        rw [ssTo_s, hi]
        simpa using r9
    · have : k = 8 := by have : ¬ ((k : Int) < 8) := by simpa using hc2
                         omega
      subst this
      simp -implicitDefEqProofs
      have := r9.fz w f9
      exact hk _ h3 e3 (Row.slE (enc := natC) (R := NatR) (fun _ => rfl) (fun _ => rfl) this)
end Go.Proofs.YtcnphhhcknhhaaaGreat
namespace Go.Den
open Go
set_option linter.unusedVariables false
set_option linter.unusedSimpArgs false
theorem RP.next_lt {p:RP}{ph:Int}(h:p.at_+1<p.k):p.next ph={ p with at_:=p.at_+1 }:=if_pos h
theorem RP.next_ge {p:RP}{ph:Int}(h:¬ p.at_+1<p.k):p.next ph={ p with ph:=ph,at_:=0 }:=if_neg h
structure TrB (c:Cfg)(ss:List Nat)(us:List ByteArray)(p:RP)(H:Hall):Prop where
 ss:p.ss=ss
 err:p.err=0
 ep:∀ j,p.ep j=0
 hc:H.c=c
 cl:H.t.closed=false
 v0:∀ s,(H.ss s).v=0
 us:p.users=us
 va:p.vals=[]
def E0 (c:Cfg):Bool:=decide (evn c.epochs≤0)
inductive Tr (c:Cfg) (ss:List Nat) (us:List ByteArray) (n:Nat) (p:RP) (H:Hall):Prop
 | a (b:TrB c ss us p H) (w:∀ s,(H.ss s).who=0) (h:n<ss.length) (ph:p.ph=0) (at_:p.at_=n) (va:p.valid=true) (sp:p.spent=(decide (0<n) && E0 c))
 | b (b:TrB c ss us p H) (w:∀ s,(H.ss s).who=0) (h:ss.length≤n∧n<2*ss.length) (ph:p.ph=1) (at_:p.at_=n-ss.length) (va:p.valid=true) (sp:p.spent=E0 c)
 | c (b:TrB c ss us p H) (w:∀ s,(H.ss s).who=0) (h:n=2*ss.length) (ph:p.ph=2) (at_:p.at_=0) (va:p.valid=true) (sp:p.spent=E0 c)
 | d (b:TrB c ss us p H) (w:∀ s,(H.ss s).who=0) (h:2*ss.length<n∧n≤3*ss.length) (ph:p.ph=3) (at_:p.at_=n-2*ss.length-1) (va:p.valid=(decide (n=2*ss.length+1) || !E0 c)) (sp:p.spent=E0 c) (tc:p.t.closed=false) (lo:p.looked=(2*ss.length:Nat))
 | e (h:n=3*ss.length+1) (he:E0 c=false) (ph:p.ph=8) (pl:p.placed=(2*ss.length:Nat)) (er:p.err=0) (vl:p.vals.length=us.length)
 | f (b:TrB c ss us p H) (w:∀ j,p.at_≤j→j<ss.length→(H.ss (ss.getD j 0)).who=0) (h:3*ss.length+1≤n∧n<4*ss.length+1) (he:E0 c=true) (ph:p.ph=4) (at_:p.at_=n-3*ss.length-1)
 | g (b:TrB c ss us p H) (h:n=4*ss.length+1) (he:E0 c=true) (ph:p.ph=5) (at_:p.at_=0)
 | i (b:TrB c ss us p H) (h:4*ss.length+2≤n∧n<5*ss.length+2) (he:E0 c=true) (ph:p.ph=6) (at_:p.at_=n-4*ss.length-2) (tc:p.t.closed=false) (lo:p.looked=(4*ss.length+1:Nat)) (pl:p.placed=(4*ss.length+1:Nat))
 | j (b:TrB c ss us p H) (h:5*ss.length+2≤n∧n<6*ss.length+2) (he:E0 c=true) (ph:p.ph=7) (at_:p.at_=n-5*ss.length-2) (tc:p.t.closed=false) (lo:p.looked=(4*ss.length+1:Nat)) (pl:p.placed=(4*ss.length+1:Nat))
 | k (h:n=6*ss.length+2) (he:E0 c=true) (ph:p.ph=8) (pl:p.placed=(4*ss.length+1:Nat)) (er:p.err=0)
def Nof (c:Cfg)(ss:List Nat):Nat:=if E0 c then 6*ss.length+2 else 3*ss.length+1
theorem Tr.ph8 {c:Cfg}{ss:List Nat}{us:List ByteArray}{n:Nat}{p:RP}{H:Hall}(t:Tr c ss us n p H)(hk:0<ss.length):(p.ph=8↔n=Nof c ss)∧n≤Nof c ss:=by
 unfold Nof
 cases t with
 | a b w h ph at_ va sp=>cases hE:E0 c<;>simp[ph]<;>omega
 | b b w h ph at_ va sp=>cases hE:E0 c<;>simp[ph]<;>omega
 | c b w h ph at_ va sp=>cases hE:E0 c<;>simp[ph]<;>omega
 | d b w h ph at_ va sp tc lo=>cases hE:E0 c<;>simp[ph]<;>omega
 | e h he ph pl er vl=>simp[ph,he]; omega
 | f b w h he ph at_=>simp[ph,he]; omega
 | g b h he ph at_=>simp[ph,he]; omega
 | i b h he ph at_ tc lo pl=>simp[ph,he]; omega
 | j b h he ph at_ tc lo pl=>simp[ph,he]; omega
 | k h he ph pl er=>simp[ph,he]; omega
theorem TrB.lock {c:Cfg}{ss:List Nat}{us:List ByteArray}{p p':RP}{H:Hall}(b:TrB c ss us p H)(who:Int)(s:Nat)(h1:p'.ss=p.ss)(h2:p'.err=p.err)(h3:p'.ep=p.ep)(h4:p'.users=p.users)(h5:p'.vals=p.vals):TrB c ss us p' (H.lock who s):=by
 refine⟨h1.trans b.ss,h2.trans b.err,fun j=>by rw[h3]; exact b.ep j,?_,?_,fun t=>?_,h4.trans b.us,h5.trans b.va⟩
 ·unfold Hall.lock; split<;>exact b.hc
 ·unfold Hall.lock; split<;>exact b.cl
 ·unfold Hall.lock; split
  ·simp only[Hall.put,sput,Hall.did]; split
   ·rename_i h; exact b.v0 s
   ·exact b.v0 t
  ·exact b.v0 t
theorem TrB.unlock {c:Cfg}{ss:List Nat}{us:List ByteArray}{p p':RP}{H:Hall}(b:TrB c ss us p H)(who:Int)(s:Nat)(h1:p'.ss=p.ss)(h2:p'.err=p.err)(h3:p'.ep=p.ep)(h4:p'.users=p.users)(h5:p'.vals=p.vals):TrB c ss us p' (H.unlock who s):=by
 refine⟨h1.trans b.ss,h2.trans b.err,fun j=>by rw[h3]; exact b.ep j,?_,?_,fun t=>?_,h4.trans b.us,h5.trans b.va⟩
 ·unfold Hall.unlock; split<;>exact b.hc
 ·unfold Hall.unlock; split<;>exact b.cl
 ·unfold Hall.unlock; split
  ·simp only[Hall.put,sput,Hall.did]; split
   ·rename_i h; exact b.v0 s
   ·exact b.v0 t
  ·exact b.v0 t
theorem lock_who {H:Hall}{who:Int}{s t:Nat}(h:t≠s):((H.lock who s).ss t).who=(H.ss t).who:=by
 unfold Hall.lock; split
 ·simp[Hall.put,sput,Hall.did,h]
 ·rfl
theorem Tr.next {c:Cfg}{ss:List Nat}{us:List ByteArray}{n:Nat}{p:RP}{H:Hall}(t:Tr c ss us n p H)(hk:0<ss.length)(nd:ss.Nodup)(hn:n<Nof c ss)(h0:0≤c.epochs):Tr c ss us (n+1) (p.step H n).1 (p.step H n).2:=by
 have hne:ss≠[]:=fun h=>by rw[h] at hk; simp at hk
 have hstep:∀ (b:TrB c ss us p H),p.enabled H=true→p.step H n=p.go H n:=fun b he=>by simp[RP.step,he,b.ss,hne]
 have hep:validB 0 0 c.epochs=!E0 c:=by
  have:(decide (0<evn c.epochs))=!E0 c:=by
   unfold E0; rw[← decide_not]; exact decide_eq_decide.2 (by omega)
  simp[validB,this]
 have did:∀ (b:TrB c ss us p H) (p':RP) (who kind pl:Int),p'.ss=p.ss→p'.err=p.err→(∀ j,p'.ep j=0)→p'.users=p.users→p'.vals=p.vals→TrB c ss us p' (H.did who kind pl):=fun b p' who kind pl h1 h2 h3 h4 h5=>⟨h1.trans b.ss,h2.trans b.err,h3,b.hc,b.cl,b.v0,h4.trans b.us,h5.trans b.va⟩
 cases t with
 | a b w h ph at_ va sp =>
  rw[hstep b (by simp[RP.enabled,ph])]
  have hk':p.k=ss.length:=by simp[RP.k,b.ss]
  have hsp:(p.spent || decide (evn H.c.epochs≤(H.ss p.s).v))=E0 c:=by
   rw[b.hc,b.v0,sp]
   show ((decide (0<n) && E0 c) || E0 c)=E0 c
   cases E0 c<;>simp
  have hgo:p.go H n=(RP.next { p with ep:=epset p.ep p.at_ (H.ss p.s).v,spent:=p.spent || decide (evn H.c.epochs≤(H.ss p.s).v) } 1,H.epoch p.who p.s):=by simp[RP.go,ph]
  rw[hgo,hsp,b.v0]
  have he:∀ j,epset p.ep p.at_ 0 j=0:=fun j=>by unfold epset; split; rfl; exact b.ep j
  by_cases hl:n+1<ss.length
  ·have:RP.next { p with ep:=epset p.ep p.at_ 0,spent:=E0 c } 1={ p with ep:=epset p.ep p.at_ 0,spent:=E0 c,at_:=n+1 }:=by
    refine (RP.next_lt ?_).trans ?_
    ·show p.at_+1<p.k; omega
    ·simp[at_]
   rw[this]
   exact .a (did b _ _ _ _ rfl rfl he rfl rfl) w hl ph rfl va (by simp)
  ·have:RP.next { p with ep:=epset p.ep p.at_ 0,spent:=E0 c } 1={ p with ep:=epset p.ep p.at_ 0,spent:=E0 c,ph:=1,at_:=0 }:=by
    refine (RP.next_ge ?_).trans rfl
    show ¬ p.at_+1<p.k; omega
   rw[this]
   exact .b (did b _ _ _ _ rfl rfl he rfl rfl) w (by omega) rfl (by simp; omega) va rfl
 | b b w h ph at_ va sp =>
  rw[hstep b (by simp[RP.enabled,ph])]
  have hk':p.k=ss.length:=by simp[RP.k,b.ss]
  have hgo:p.go H n=(RP.next { p with seen:=seenset p.seen p.s (H.ss p.s).snap } 2,H.snap p.who p.s):=by simp[RP.go,ph]
  rw[hgo]
  by_cases hl:n+1<2*ss.length
  ·have:RP.next { p with seen:=seenset p.seen p.s (H.ss p.s).snap } 2={ p with seen:=seenset p.seen p.s (H.ss p.s).snap,at_:=p.at_+1 }:=by
    refine (RP.next_lt ?_).trans rfl
    show p.at_+1<p.k; omega
   rw[this]
   exact .b (did b _ _ _ _ rfl rfl b.ep rfl rfl) w (by omega) ph (by simp; omega) va sp
  ·have:RP.next { p with seen:=seenset p.seen p.s (H.ss p.s).snap } 2={ p with seen:=seenset p.seen p.s (H.ss p.s).snap,ph:=2,at_:=0 }:=by
    refine (RP.next_ge ?_).trans rfl
    show ¬ p.at_+1<p.k; omega
   rw[this]
   exact .c (did b _ _ _ _ rfl rfl b.ep rfl rfl) w (by omega) rfl rfl va sp
 | c b w h ph at_ va sp =>
  rw[hstep b (by simp[RP.enabled,ph])]
  have hgo:p.go H n=({ p with t:=H.t,looked:=n,ph:=3 },H.look p.who):=by simp[RP.go,ph]
  rw[hgo]
  exact .d (did b _ _ _ _ rfl rfl b.ep rfl rfl) w (by omega) rfl (by simp; omega) (by simp[va,h]) sp b.cl (by simp[h])
 | d b w h ph at_ va sp tc lo =>
  rw[hstep b (by simp[RP.enabled,ph])]
  have hk':p.k=ss.length:=by simp[RP.k,b.ss]
  obtain⟨q,hq⟩:∃ q:RP,q={ p with valid:=p.valid && validB (p.ep p.at_) (H.ss p.s).v H.c.epochs }:=⟨_,rfl⟩
  have hgo:p.go H n=(if q.last then (q.next 8).judge else q.next 8,H.epoch p.who p.s):=by simp[RP.go,ph,hq]
  have hqv:q.valid=!E0 c:=by
   rw[hq]
   show (p.valid && validB (p.ep p.at_) (H.ss p.s).v H.c.epochs)=!E0 c
   rw[b.ep,b.v0,b.hc,hep,va]
   cases E0 c<;>simp
  have q1:q.ss=p.ss∧q.err=p.err∧q.ep=p.ep∧q.at_=p.at_∧q.k=p.k∧q.t=p.t∧q.looked=p.looked∧q.spent=p.spent∧q.ph=p.ph∧q.users=p.users∧q.vals=p.vals:=by rw[hq]; exact⟨rfl,rfl,rfl,rfl,rfl,rfl,rfl,rfl,rfl,rfl,rfl⟩
  obtain⟨x1,x2,x3,x4,x5,x6,x7,x8,x9,x10,x11⟩:=q1
  rw[hgo]
  clear hgo hq
  by_cases hl:n+1≤3*ss.length
  ·have hlast:q.last=false:=by simp[RP.last,x4,x5,hk',at_]; omega
   rw[hlast]
   have:q.next 8={ q with at_:=q.at_+1 }:=RP.next_lt (by omega)
   simp only[Bool.false_eq_true,if_false,this]
   refine .d (did b _ _ _ _ x1 x2 (fun j=>by show q.ep j=0; rw[x3]; exact b.ep j) x10 x11) w (by omega) (x9.trans ph) (by show q.at_+1=_; omega) ?_ (x8.trans sp) (by show q.t.closed=false; rw[x6]; exact tc) (x7.trans lo)
   show q.valid=_
   rw[hqv]
   have h2:¬ n=2*ss.length:=by omega
   simp[h2]
  ·have hlast:q.last=true:=by simp[RP.last,x4,x5,hk',at_]; omega
   rw[hlast]
   have:q.next 8={ q with ph:=8,at_:=0 }:=RP.next_ge (by omega)
   simp only[if_true,this]
   cases hE:E0 c with
   | false =>
    have hj:RP.judge { q with ph:=8,at_:=0 }={ RP.answer { q with ph:=8,at_:=0 } with ph:=8 }:=by simp[RP.judge,hqv,hE]
    rw[hj]
    have ha:RP.answer { q with ph:=8,at_:=0 }={ q with ph:=8,at_:=0,placed:=q.looked,vals:=q.vals++q.users.map (RP.tell { q with ph:=8,at_:=0 }) }:=by simp[RP.answer,x6,tc]
    rw[ha]
    exact .e (by omega) hE rfl (x7.trans lo) (x2.trans b.err) (by simp[x11,b.va,x10,b.us])
   | true =>
    have hj:RP.judge { q with ph:=8,at_:=0 }={ q with ph:=4,at_:=0 }:=by simp[RP.judge,hqv,hE,x6,tc,x8,sp]
    rw[hj]
    exact .f (did b _ _ _ _ x1 x2 (fun j=>by show q.ep j=0; rw[x3]; exact b.ep j) x10 x11) (fun j _ _=>w _) (by omega) hE rfl (by simp; omega)
 | e h he ph pl er vl=>unfold Nof at hn; rw[he] at hn; simp at hn; omega
 | f b w h he ph at_ =>
  have hk':p.k=ss.length:=by simp[RP.k,b.ss]
  have hat:p.at_<ss.length:=by omega
  have hs:p.s=ss.getD p.at_ 0:=by simp[RP.s,b.ss]
  rw[hstep b (by simp[RP.enabled,ph,hs]; exact w _ (Nat.le_refl _) hat)]
  have hgo:p.go H n=(p.next 5,H.lock p.who p.s):=by simp[RP.go,ph]
  rw[hgo]
  by_cases hl:p.at_+1<ss.length
  ·have:p.next 5={ p with at_:=p.at_+1 }:=RP.next_lt (by omega)
   rw[this]
   refine .f (b.lock _ _ rfl rfl rfl rfl rfl) (fun j h1 h2=>?_) (by omega) he ph (by simp; omega)
   have h1':p.at_+1≤j:=h1
   rw[lock_who,w j (by omega) h2]
   rw[hs]
   intro e
   rw[List.getD_eq_getElem?_getD,List.getD_eq_getElem?_getD,List.getElem?_eq_getElem h2,List.getElem?_eq_getElem hat] at e
   exact List.pairwise_iff_getElem.1 nd p.at_ j hat h2 (by omega) (show ss[p.at_]=ss[j] from e.symm)
  ·have:p.next 5={ p with ph:=5,at_:=0 }:=RP.next_ge (by omega)
   rw[this]
   exact .g (b.lock _ _ rfl rfl rfl rfl rfl) (by omega) he rfl rfl
 | g b h he ph at_ =>
  rw[hstep b (by simp[RP.enabled,ph])]
  have hgo:p.go H n=({ p with t:=H.t,looked:=n,ph:=6,placed:=n },H.look p.who):=by simp[RP.go,ph]
  rw[hgo]
  exact .i (did b _ _ _ _ rfl rfl b.ep rfl rfl) (by omega) he rfl (by simp; omega) b.cl (by simp[h]) (by simp[h])
 | i b h he ph at_ tc lo pl =>
  rw[hstep b (by simp[RP.enabled,ph])]
  have hk':p.k=ss.length:=by simp[RP.k,b.ss]
  have hgo:p.go H n=(RP.next { p with seen:=seenset p.seen p.s (H.ss p.s).book } 7,H.read p.who p.s):=by simp[RP.go,ph]
  rw[hgo]
  by_cases hl:p.at_+1<ss.length
  ·have:RP.next { p with seen:=seenset p.seen p.s (H.ss p.s).book } 7={ p with seen:=seenset p.seen p.s (H.ss p.s).book,at_:=p.at_+1 }:=by
    refine (RP.next_lt ?_).trans rfl
    show p.at_+1<p.k; omega
   rw[this]
   exact .i (did b _ _ _ _ rfl rfl b.ep rfl rfl) (by omega) he ph (by simp; omega) tc lo pl
  ·have:RP.next { p with seen:=seenset p.seen p.s (H.ss p.s).book } 7={ p with seen:=seenset p.seen p.s (H.ss p.s).book,ph:=7,at_:=0 }:=by
    refine (RP.next_ge ?_).trans rfl
    show ¬ p.at_+1<p.k; omega
   rw[this]
   exact .j (did b _ _ _ _ rfl rfl b.ep rfl rfl) (by omega) he rfl (by simp; omega) tc lo pl
 | j b h he ph at_ tc lo pl =>
  rw[hstep b (by simp[RP.enabled,ph])]
  have hk':p.k=ss.length:=by simp[RP.k,b.ss]
  have hgo:p.go H n=(if p.last then (p.next 8).answer else p.next 8,H.unlock p.who p.s):=by simp[RP.go,ph]
  rw[hgo]
  by_cases hl:p.at_+1<ss.length
  ·have hlast:p.last=false:=by simp[RP.last,hk',hl]
   have:p.next 8={ p with at_:=p.at_+1 }:=RP.next_lt (by omega)
   rw[hlast]
   simp only[Bool.false_eq_true,if_false,this]
   exact .j (b.unlock _ _ rfl rfl rfl rfl rfl) (by omega) he ph (by simp; omega) tc lo pl
  ·have hlast:p.last=true:=by simp[RP.last,hk',hl]
   have:p.next 8={ p with ph:=8,at_:=0 }:=RP.next_ge (by omega)
   rw[hlast]
   simp only[if_true,this]
   have ha:RP.answer { p with ph:=8,at_:=0 }={ p with ph:=8,at_:=0,placed:=p.looked,vals:=p.vals++p.users.map (RP.tell { p with ph:=8,at_:=0 }) }:=by simp[RP.answer,tc]
   rw[ha]
   exact .k (by omega) he rfl lo b.err
 | k h he ph pl er=>unfold Nof at hn; rw[he] at hn; simp at hn; omega
end Go.Den
namespace Go.Den
open Go
set_option linter.unusedVariables false
set_option linter.unusedSimpArgs false
structure RG (r:RP):Prop where
 us:r.users.length≤1000
 of:r.of≤1000
 k8:r.k≤8
 tr:0≤r.tries∧r.tries≤4
 at_:r.at_<1000000
 sn:∀ i b,r.seen i=some b→BkG b
structure HG (H:Hall):Prop where
 n8:H.n≤8
 ac:H.acts.length<900000
 sn:∀ s,s<H.n→BkG (H.ss s).snap∧BkG (H.ss s).book
 uv:∀ s,s<H.n→U64 (H.ss s).v∧U64 (H.ss s).bound
 wh:∀ s,s<H.n→0≤(H.ss s).who∧(H.ss s).who≤1000
 cw:CfgW H.c
 c8:H.c.stripes≤8
theorem HG.ac' {H:Hall}(x:HG H):H.acts.length<1000000:=by have:=x.ac; omega
structure RS (r:RP)(H:Hall):Prop where
 at_:r.ph≠8→r.ss≠[]→r.at_<r.k
 ss:∀ s∈r.ss,s<H.n
 vn:r.ph≠8→r.vals=[]
 ph:0≤r.ph∧r.ph≤8
 e0:r.ss=[]→r.ph=0∨r.ph=8
 ep:∀ i,i<r.k→U64 (r.ep i)
 wr:-1000≤r.who∧r.who≤900
theorem RP.s_lt {r:RP}(h:r.at_<r.k):r.s=r.ss[r.at_]'h:=by
 show r.ss.getD r.at_ 0=_
 rw[List.getD_eq_getElem?_getD,List.getElem?_eq_getElem h]; rfl
theorem HG.did {H:Hall}(x:HG H)(w k p:Int)(h:H.acts.length+1<900000):HG (H.did w k p):=⟨x.n8,by simp[Hall.did]; omega,x.sn,x.uv,x.wh,x.cw,x.c8⟩
theorem HG.put {H:Hall}(x:HG H){s:Nat}{y:Strp}(h1:BkG y.snap∧BkG y.book)(h2:U64 y.v∧U64 y.bound)(h3:0≤y.who∧y.who≤1000):HG (H.put s y) :=
 ⟨x.n8,x.ac,fun t ht=>by simp only[Hall.put,sput]; split; exact h1; exact x.sn t ht,fun t ht=>by simp only[Hall.put,sput]; split; exact h2; exact x.uv t ht,fun t ht=>by simp only[Hall.put,sput]; split; exact h3; exact x.wh t ht,x.cw,x.c8⟩
theorem HG.lock {H:Hall}(x:HG H){w:Int}{s:Nat}(hs:s<H.n)(hw:w≤900)(h:H.acts.length+1<900000):HG (H.lock w s):=by
 unfold Hall.lock
 split
 ·rename_i hc
  have hc':0≤w∧(H.ss s).who=0:=by simpa [canTake] using hc
  exact (x.did _ _ _ h).put (x.sn s hs) (x.uv s hs) (by simp; omega)
 ·exact x
theorem HG.unlock {H:Hall}(x:HG H){w:Int}{s:Nat}(hs:s<H.n)(h:H.acts.length+1<900000):HG (H.unlock w s):=by
 unfold Hall.unlock
 split
 ·exact (x.did _ _ _ h).put (x.sn s hs) (x.uv s hs) (by simp)
 ·exact x
theorem lock_n (H:Hall)(w:Int)(s:Nat):(H.lock w s).n=H.n∧(H.lock w s).c=H.c∧(H.lock w s).acts.length≤H.acts.length+1:=by
 unfold Hall.lock; split
 ·exact⟨rfl,rfl,by simp[Hall.put,Hall.did]⟩
 ·exact⟨rfl,rfl,by omega⟩
theorem unlock_n (H:Hall)(w:Int)(s:Nat):(H.unlock w s).n=H.n∧(H.unlock w s).c=H.c∧(H.unlock w s).acts.length≤H.acts.length+1:=by
 unfold Hall.unlock; split
 ·exact⟨rfl,rfl,by simp[Hall.put,Hall.did]⟩
 ·exact⟨rfl,rfl,by omega⟩
structure RK (n:Nat)(r:RP):Prop where
 rg:RG r
 at_:r.ph≠8→r.ss≠[]→r.at_<r.k
 ss:∀ s∈r.ss,s<n
 vn:r.ph≠8→r.vals=[]
 ph:0≤r.ph∧r.ph≤8
 e0:r.ss=[]→r.ph=0∨r.ph=8
 ep:∀ i,i<r.k→U64 (r.ep i)
 wr:-1000≤r.who∧r.who≤900
theorem RK.rs {r:RP}{H:Hall}(x:RK H.n r):RS r H:=⟨x.at_,x.ss,x.vn,x.ph,x.e0,x.ep,x.wr⟩
theorem RK.next {n:Nat}{r:RP}(x:RK n r)(h8:r.ph≠8)(h0:r.ss≠[]){ph:Int}(hp:0≤ph∧ph≤8):RK n (r.next ph):=by
 have hk:0<r.k:=by unfold RP.k; exact List.length_pos_iff.2 h0
 have g:=x.rg
 have k8:=g.k8
 by_cases hl:r.at_+1<r.k
 ·rw[RP.next_lt hl]
  exact⟨⟨g.us,g.of,g.k8,g.tr,by simp; omega,g.sn⟩,fun _ _=>hl,x.ss,fun _=>x.vn h8,x.ph,fun h=>absurd h h0,x.ep,x.wr⟩
 ·rw[RP.next_ge hl]
  exact⟨⟨g.us,g.of,g.k8,g.tr,by simp,g.sn⟩,fun _ _=>hk,x.ss,fun _=>x.vn h8,hp,fun h=>absurd h h0,x.ep,x.wr⟩
theorem RK.begin {n:Nat}{r:RP}(x:RK n r)(hv:r.vals=[]):RK n r.begin:=by
 have g:=x.rg
 exact⟨⟨g.us,g.of,g.k8,g.tr,by simp[RP.begin],fun i b h=>by simp[RP.begin] at h⟩,fun _ h0=>by show 0<r.k; unfold RP.k; exact List.length_pos_iff.2 h0,x.ss,fun _=>hv,by simp[RP.begin],fun _=>.inl rfl,fun i _=>by simp[RP.begin,U64],x.wr⟩
theorem RK.answer {n:Nat}{r:RP}(x:RK n r)(h0:r.ss≠[]){ph:Int}(hp:ph=8):RK n { r.answer with ph:=ph }:=by
 have g:=x.rg
 subst hp
 unfold RP.answer
 split
 ·exact⟨⟨g.us,g.of,g.k8,g.tr,g.at_,g.sn⟩,fun h=>absurd rfl h,x.ss,fun h=>absurd rfl h,by simp,fun h=>absurd h h0,x.ep,x.wr⟩
 ·exact⟨⟨g.us,g.of,g.k8,g.tr,g.at_,g.sn⟩,fun h=>absurd rfl h,x.ss,fun h=>absurd rfl h,by simp,fun h=>absurd h h0,x.ep,x.wr⟩
theorem answer_ph (r:RP):r.answer.ph=r.ph:=by unfold RP.answer; split<;>rfl
theorem RK.judge {n:Nat}{r:RP}(x:RK n r)(h0:r.ss≠[])(hv:r.vals=[])(hat:r.at_<r.k):RK n r.judge:=by
 have g:=x.rg
 unfold RP.judge
 split
 ·exact x.answer h0 rfl
 ·split
  ·exact⟨⟨g.us,g.of,g.k8,g.tr,g.at_,g.sn⟩,fun _ _=>hat,x.ss,fun _=>hv,by simp,fun h=>absurd h h0,x.ep,x.wr⟩
  ·rename_i h1 h2
   have ht:¬ r.tries=0:=by intro h; simp[h] at h2
   have:=g.tr
   refine RK.begin (r:={ r with tries:=r.tries-1 }) ⟨⟨g.us,g.of,g.k8,by simp; omega,g.at_,g.sn⟩,x.at_,x.ss,x.vn,x.ph,x.e0,x.ep,x.wr⟩ hv
theorem RK.step {r:RP}{H:Hall}(x:RK H.n r)(g:HG H)(n:Int)(ha:H.acts.length+1<900000) :
  RK H.n (r.step H n).1∧HG (r.step H n).2∧(r.step H n).2.n=H.n∧(r.step H n).2.c=H.c∧(r.step H n).2.acts.length≤H.acts.length+1:=by
 have rg:=x.rg
 unfold RP.step
 split
 ·exact⟨x,g,rfl,rfl,Nat.le_succ _⟩
 rename_i hen
 have hen:r.enabled H=true:=by simpa using hen
 have h8:¬ r.ph=8:=fun h=>by simp[RP.enabled,h] at hen
 split
 ·rename_i h0
  exact⟨⟨⟨rg.us,rg.of,rg.k8,rg.tr,rg.at_,rg.sn⟩,fun h=>absurd rfl h,x.ss,fun _=>rfl,by simp,fun _=>.inr rfl,x.ep,x.wr⟩,g,rfl,rfl,Nat.le_succ _⟩
 rename_i h0
 have hat:=x.at_ h8 h0
 have hs:r.s<H.n:=by rw[RP.s_lt hat]; exact x.ss _ (List.getElem_mem _)
 have hv:=x.vn h8
 have hw:=x.wr
 have did:∀ k p:Int,HG (H.did r.who k p)∧(H.did r.who k p).n=H.n∧(H.did r.who k p).c=H.c∧(H.did r.who k p).acts.length≤H.acts.length+1:=fun k p=>⟨g.did _ _ _ ha,rfl,rfl,by simp[Hall.did]⟩
 unfold RP.go
 split
 ·refine⟨RK.next (r:={ r with ep:=epset r.ep r.at_ (H.ss r.s).v,spent:=r.spent || decide (evn H.c.epochs≤(H.ss r.s).v) }) ⟨⟨rg.us,rg.of,rg.k8,rg.tr,rg.at_,rg.sn⟩,x.at_,x.ss,x.vn,x.ph,x.e0,fun i hi=>?_,x.wr⟩ h8 h0 (by omega),did _ _⟩
  simp only[epset]; split
  ·exact (g.uv _ hs).1
  ·exact x.ep i hi
 split
 ·refine⟨RK.next (r:={ r with seen:=seenset r.seen r.s (H.ss r.s).snap }) ⟨⟨rg.us,rg.of,rg.k8,rg.tr,rg.at_,fun i b h=>?_⟩,x.at_,x.ss,x.vn,x.ph,x.e0,x.ep,x.wr⟩ h8 h0 (by omega),did _ _⟩
  simp only[seenset] at h; split at h
  ·cases h; exact (g.sn _ hs).1
  ·exact rg.sn i b h
 split
 ·exact⟨⟨⟨rg.us,rg.of,rg.k8,rg.tr,rg.at_,rg.sn⟩,fun _ _=>hat,x.ss,fun _=>hv,by simp,fun h=>absurd h h0,x.ep,x.wr⟩,did _ _⟩
 split
 ·exact⟨⟨⟨rg.us,rg.of,rg.k8,rg.tr,rg.at_,rg.sn⟩,fun _ _=>hat,x.ss,fun _=>hv,by simp,fun h=>absurd h h0,x.ep,x.wr⟩,did _ _⟩
 split
 ·have y:RK H.n { r with valid:=r.valid && validB (r.ep r.at_) (H.ss r.s).v H.c.epochs }:=⟨⟨rg.us,rg.of,rg.k8,rg.tr,rg.at_,rg.sn⟩,x.at_,x.ss,x.vn,x.ph,x.e0,x.ep,x.wr⟩
  refine⟨?_,did _ _⟩
  have yn:=y.next h8 h0 (ph:=8) (by omega)
  show RK H.n (if RP.last { r with valid:=r.valid && validB (r.ep r.at_) (H.ss r.s).v H.c.epochs } then RP.judge (RP.next { r with valid:=r.valid && validB (r.ep r.at_) (H.ss r.s).v H.c.epochs } 8) else RP.next { r with valid:=r.valid && validB (r.ep r.at_) (H.ss r.s).v H.c.epochs } 8)
  split
  ·rename_i hl
   have hl':(!decide (r.at_+1<r.k))=true:=hl
   have hge:¬ r.at_+1<r.k:=by simpa using hl'
   have e:=RP.next_ge (p:={ r with valid:=r.valid && validB (r.ep r.at_) (H.ss r.s).v H.c.epochs }) (ph:=8) hge
   refine yn.judge (by rw[e]; exact h0) (by rw[e]; exact hv) (by rw[e]; show 0<r.k; omega)
  ·exact yn
 split
 ·exact⟨x.next h8 h0 (by omega),g.lock hs hw.2 ha,lock_n _ _ _⟩
 split
 ·refine⟨RK.next (r:={ r with seen:=seenset r.seen r.s (H.ss r.s).book }) ⟨⟨rg.us,rg.of,rg.k8,rg.tr,rg.at_,fun i b h=>?_⟩,x.at_,x.ss,x.vn,x.ph,x.e0,x.ep,x.wr⟩ h8 h0 (by omega),did _ _⟩
  simp only[seenset] at h; split at h
  ·cases h; exact (g.sn _ hs).2
  ·exact rg.sn i b h
 ·refine⟨?_,g.unlock hs ha,unlock_n _ _ _⟩
  have yn:=x.next h8 h0 (ph:=8) (by omega)
  show RK H.n (if r.last then (r.next 8).answer else r.next 8)
  split
  ·rename_i hl
   have hl':(!decide (r.at_+1<r.k))=true:=hl
   have hge:¬ r.at_+1<r.k:=by simpa using hl'
   have e:=RP.next_ge (p:=r) (ph:=8) hge
   have:=yn.answer (by rw[e]; exact h0) rfl (ph:=8)
   have e8:(r.next 8).answer.ph=8:=by rw[answer_ph,e]
   have ee:∀ q:RP,q.ph=8→{ q with ph:=8 }=q:=fun q h=>by cases q; simp at h; subst h; rfl
   rw[ee _ e8] at this
   exact this
  ·exact yn
end Go.Den
namespace Go.Proofs.YtcnphhhcknhhaaaGreat
open Go Go.Den Go.MapKept
set_option linter.unusedSimpArgs false
set_option linter.unusedVariables false
set_option maxRecDepth 20000
def rpC (r:RP)(uv sv ev:Value)(mr:Nat)(vv:Value):List Value:=[.int .i64 r.who,uv,.int .i64 r.of,sv,.int .i64 r.ph,.int .i64 r.at_,.int .i64 r.tries,ev,.bool r.valid,.bool r.spent,.map (some mr),
 .int .u64 r.t.now,.int .u64 r.t.seq,.bool r.t.closed,.int .i64 r.looked,.int .i64 r.placed,.int .i64 r.err,vv,.slice none 0 0,.bool false]
def SeenR (F h:Heap)(mr:Nat)(s:Int→Option Book):Prop:=∃ f,MapR (.int .i64) h mr f∧∀ i:Int,match s i with
 | some b=>∃ a c,f (.int .i64 i)=some (.agg #[a,c])∧BookR F a c b
 | none=>f (.int .i64 i)=none
structure RPX (T:Tags)(h:Heap)(g:Tag)(p:Nat)(r:RP)(uv sv ev:Value)(mr:Nat)(vv:Value):Prop where
 hp:h p=some (.cells (rpC r uv sv ev mr vv).toArray qvZ (0,0))
 tp:T p=g++[0]
 us:Sl 1 StrR (fz T h) uv r.users
 ss:Sl 1 NatR (fz T h) sv r.ss
 ep:Rw T h (g++[1]) 1 qEZ ev r.k (seqF r.k fun i=>[.int .u64 (r.ep i)])
 mt:T mr=g++[2]
 sn:SeenR (fz T h) h mr r.seen
 vs:Sl 3 PresR (fz T h) vv r.vals
 vn:r.vals=[]→vv = .slice none 0 0
def RPR (T:Tags)(h:Heap)(g:Tag)(p:Nat)(r:RP):Prop:=∃ uv sv ev mr vv,RPX T h g p r uv sv ev mr vv
theorem SeenR.kp {U:Tag→Prop}{T T':Tags}{h h':Heap}{g:Tag}{mr:Nat}{s:Int→Option Book}(x:SeenR (fz T h) h mr s)(k:Kp U T h T' h')(ht:T mr=g)(u:¬ U g)(n:¬ U []):SeenR (fz T' h') h' mr s:=by
 obtain⟨f,m,hs⟩:=x
 obtain⟨o,ho⟩:=m.lt
 refine⟨f,m.of (by rw[(k.at ho ht u).1,ho]),fun i=>?_⟩
 have:=hs i
 cases hsi:s i with
 | none=>simpa [hsi] using this
 | some b=>simp only[hsi] at this ⊢; obtain⟨a,c,h1,h2⟩:=this; exact⟨a,c,h1,h2.ext (k.ext n)⟩
theorem RPX.kp {U:Tag→Prop}{T T':Tags}{h h':Heap}{g:Tag}{p:Nat}{r:RP}{uv sv ev:Value}{mr:Nat}{vv:Value}(x:RPX T h g p r uv sv ev mr vv)(k:Kp U T h T' h')(o:Off U g)(n:¬ U []):RPX T' h' g p r uv sv ev mr vv:=by
 obtain⟨f,m,_⟩:=x.sn
 obtain⟨om,hom⟩:=m.lt
 exact⟨(k.at x.hp x.tp (o.at _)).1,(k.at x.hp x.tp (o.at _)).2,x.us.ext (@StrR.ext) (k.ext n),x.ss.ext (@NatR.ext) (k.ext n),x.ep.kp k (o.at _),(k.at hom x.mt (o.at _)).2,x.sn.kp k x.mt (o.at _) n,
  x.vs.ext (@PresR.ext) (k.ext n),x.vn⟩
theorem RPR.kp {U:Tag→Prop}{T T':Tags}{h h':Heap}{g:Tag}{p:Nat}{r:RP}(x:RPR T h g p r)(k:Kp U T h T' h')(o:Off U g)(n:¬ U []):RPR T' h' g p r:=by
 obtain⟨uv,sv,ev,mr,vv,x⟩:=x
 exact⟨uv,sv,ev,mr,vv,x.kp k o n⟩
theorem RPX.st {T:Tags}{h:Heap}{g:Tag}{p:Nat}{r r':RP}{uv sv ev:Value}{mr:Nat}{vv vv':Value}(x:RPX T h g p r uv sv ev mr vv)(w:Wf T h){c:Array Value}(hc:c=(rpC r' uv sv ev mr vv').toArray)
  (h1:r'.users=r.users) (h2:r'.ss=r.ss) (h3:r'.ep=r.ep) (h4:r'.seen=r.seen) (h5:Sl 3 PresR (fz T h) vv' r'.vals) (h6:r'.vals=[]→vv' = .slice none 0 0) :
  Only (fun t=>t=g++[0]) T h T (upd h p (.cells c qvZ (0,0)))∧RPX T (upd h p (.cells c qvZ (0,0))) g p r' uv sv ev mr vv':=by
 have o1:Only (fun t=>t=g++[0]) T h T (upd h p (.cells c qvZ (0,0))):=Only.upd w x.hp x.tp
 have e:=o1.ext (by simp)
 have hk:r'.k=r.k:=by simp[RP.k,h2]
 refine⟨o1,by rw[upd_same',hc],x.tp,by rw[h1]; exact x.us.ext (@StrR.ext) e,by rw[h2]; exact x.ss.ext (@NatR.ext) e,by rw[hk,h3]; exact x.ep.kp o1.k (ne_tag (by simp)),x.mt,by rw[h4]; exact x.sn.kp o1.k x.mt (ne_tag (by simp)) (by simp),h5.ext (@PresR.ext) e,h6⟩
theorem mpSeen:mpC P qnZ=some (qoZ,.int .i64,.agg #[.slice none 0 0,.slice none 0 0]):=by kernel_rfl
theorem unSlU64:P.underlying qnBZ=some (.slice qEZ):=by kernel_rfl
theorem apU64:apC P qEZ=some (1,8,1):=by kernel_rfl
theorem zcU64:zc P qEZ=some #[.int .u64 0]:=by kernel_rfl
theorem rbegin_ok {T:Tags}{h:Heap}{g:Tag}{p:Nat}{r:RP}(w:Wf T h)(gg:Gd g){uv sv ev0 mv0 vv:Value}(hp:h p=some (.cells #[.int .i64 r.who,uv,.int .i64 r.of,sv,.int .i64 r.ph,.int .i64 r.at_,.int .i64 r.tries,ev0,.bool r.valid,.bool r.spent,mv0,
 .int .u64 r.t.now,.int .u64 r.t.seq,.bool r.t.closed,.int .i64 r.looked,.int .i64 r.placed,.int .i64 r.err,vv,.slice none 0 0,.bool false] qvZ (0,0))) (tp:T p=g++[0])
  (us:Sl 1 StrR (fz T h) uv r.users) (ss:Sl 1 NatR (fz T h) sv r.ss) (vs:Sl 3 PresR (fz T h) vv r.vals) (vn:r.vals=[]→vv = .slice none 0 0) (hk8:r.k≤8) {K:KTy}
  (hk:∀ T' h',Only (pre g) T h T' h'→RPR T' h' g p r.begin→K (.tuple #[]) h'):callM P qdAZ #[ptr p] h K:=by
 apply qoDZ
 unfold qgIZ
 have hlen:=ss.len
 simp -implicitDefEqProofs[ld_at hp,cel_of hp,stm_at hp,stm_upd,ld_same,cel_same,over,hlen]
 refine makeSlice_vv unSlU64 apU64 zcU64 (n:=r.ss.length) (by unfold RP.k at hk8; omega) (by unfold RP.k at hk8; omega) (by unfold RP.k at hk8; unfold maxLen; omega) fun eb h1 n1 e1 c1=>?_
 have o0:=fun o'=>Only.upd (U:=pre g) (o':=o') w hp (tp▸pre_app _ _)
 have hp0:=upd_same' h p (.cells #[.int .i64 r.who,uv,.int .i64 r.of,sv,.int .i64 0,.int .i64 0,.int .i64 r.tries,ev0,.bool r.valid,.bool r.spent,mv0,.int .u64 r.t.now,.int .u64 r.t.seq,.bool r.t.closed,.int .i64 r.looked,.int .i64 r.placed,.int .i64 r.err,vv,.slice none 0 0,.bool false] qvZ (0,0))
 have o0:=o0 (.cells #[.int .i64 r.who,uv,.int .i64 r.of,sv,.int .i64 0,.int .i64 0,.int .i64 r.tries,ev0,.bool r.valid,.bool r.spent,mv0,.int .u64 r.t.now,.int .u64 r.t.seq,.bool r.t.closed,.int .i64 r.looked,.int .i64 r.placed,.int .i64 r.err,vv,.slice none 0 0,.bool false] qvZ (0,0))
 generalize upd h p _=h0 at *
 have hp1:=e1 _ _ hp0
 have o1:Only (pre g) T h0 (tset T eb (g++[1])) h1:=Only.enew _ o0.wf e1 n1 c1
 have ne1:p≠eb:=ne_fresh hp0 n1
 have tp1:(tset T eb (g++[1])) p=g++[0]:=by rw[tset_ne ne1]; exact tp
 have te1:(tset T eb (g++[1])) eb=g++[1]:=tset_same _ _ _
 generalize tset T eb (g++[1])=T1 at *
 unfold qjwZ
 simp -implicitDefEqProofs[ld_at hp1,cel_of hp1,stm_at hp1,stm_upd,ld_same,cel_same,over]
 have o2:=Only.upd (U:=fun t=>t=g++[0]) (o':=.cells #[.int .i64 r.who,uv,.int .i64 r.of,sv,.int .i64 0,.int .i64 0,.int .i64 r.tries,.slice (some ⟨eb,0,none⟩) r.ss.length r.ss.length,.bool true,.bool false,mv0,.int .u64 r.t.now,.int .u64 r.t.seq,.bool r.t.closed,.int .i64 r.looked,.int .i64 r.placed,.int .i64 r.err,vv,.slice none 0 0,.bool false] qvZ (0,0)) o1.wf hp1 tp1
 have hp2:=upd_same' h1 p (.cells #[.int .i64 r.who,uv,.int .i64 r.of,sv,.int .i64 0,.int .i64 0,.int .i64 r.tries,.slice (some ⟨eb,0,none⟩) r.ss.length r.ss.length,.bool true,.bool false,mv0,.int .u64 r.t.now,.int .u64 r.t.seq,.bool r.t.closed,.int .i64 r.looked,.int .i64 r.placed,.int .i64 r.err,vv,.slice none 0 0,.bool false] qvZ (0,0))
 have c2:=o2.k.at c1 te1 (ne_tag (by simp))
 generalize upd h1 p _=h2 at *
 refine makeMap_vv mpSeen fun mr h3 n3 e3 m3=>?_
 obtain⟨om,hom⟩:=m3.lt
 have o3:Only (fun t=>t=g++[0]) T1 h2 (tset T1 mr (g++[2])) h3:=Only.enew _ o2.wf e3 n3 hom
 have hp3:=e3 _ _ hp2
 have ne2:p≠mr:=ne_fresh hp2 n3
 have ne3:eb≠mr:=ne_fresh c2.1 n3
 have tp3:(tset T1 mr (g++[2])) p=g++[0]:=by rw[tset_ne ne2]; exact tp1
 have te3:(tset T1 mr (g++[2])) eb=g++[1]:=by rw[tset_ne ne3]; exact te1
 have tm3:(tset T1 mr (g++[2])) mr=g++[2]:=tset_same _ _ _
 generalize tset T1 mr (g++[2])=T3 at *
 simp -implicitDefEqProofs[ld_at hp3,cel_of hp3,stm_at hp3,stm_upd,ld_same,cel_same,over]
 have o4:=Only.upd (U:=fun t=>t=g++[0]) (o':=.cells #[.int .i64 r.who,uv,.int .i64 r.of,sv,.int .i64 0,.int .i64 0,.int .i64 r.tries,.slice (some ⟨eb,0,none⟩) r.ss.length r.ss.length,.bool true,.bool false,.map (some mr),.int .u64 r.t.now,.int .u64 r.t.seq,.bool r.t.closed,.int .i64 r.looked,.int .i64 r.placed,.int .i64 r.err,vv,.slice none 0 0,.bool false] qvZ (0,0)) o3.wf hp3 tp3
 have oall:Only (pre g) T h T3 _:=(((o0.trans o1).up o2 fun t=>eq_pre).up o3 fun t=>eq_pre).up o4 fun t=>eq_pre
 have e:=oall.ext gg.nil
 refine hk T3 _ oall ⟨uv,sv,_,mr,vv,upd_same' _ _ _,tp3,us.ext (@StrR.ext) e,ss.ext (@NatR.ext) e,?_,tm3,?_,vs.ext (@PresR.ext) e,vn⟩
 ·have c4:=(o4.k.at (e3 _ _ c2.1) te3 (ne_tag (by simp))).1
  exact⟨made_row (by unfold RP.k at hk8; unfold maxLen; omega) c4,fun b hb=>by simp[rowOf] at hb; subst hb; exact te3⟩
 ·refine⟨fun _=>none,m3.of (by rw[hom]; exact (o4.k.at hom tm3 (ne_tag (by simp))).1),fun i=>?_⟩
  simp -implicitDefEqProofs[RP.begin]
theorem RPX.cp {T:Tags}{h:Heap}{g:Tag}{p:Nat}{r:RP}{uv sv ev:Value}{mr:Nat}{vv:Value}(x:RPX T h g p r uv sv ev mr vv):h p=some (.cells #[.int .i64 r.who,uv,.int .i64 r.of,sv,.int .i64 r.ph,.int .i64 r.at_,.int .i64 r.tries,ev,.bool r.valid,.bool r.spent,.map (some mr),
 .int .u64 r.t.now,.int .u64 r.t.seq,.bool r.t.closed,.int .i64 r.looked,.int .i64 r.placed,.int .i64 r.err,vv,.slice none 0 0,.bool false] qvZ (0,0)):=x.hp
variable {K:KTy}
theorem RPX.fin {T:Tags}{h:Heap}{g:Tag}{p:Nat}{r:RP}{uv sv ev:Value}{mr:Nat}{vv:Value}(x:RPX T h g p r uv sv ev mr vv)(w:Wf T h){r':RP}{vv' v:Value}{c:Array Value}
  (hk:∀ h',Only (pre g) T h T h'→RPR T h' g p r'→K v h') (hc:c=(rpC r' uv sv ev mr vv').toArray)
  (h1:r'.users=r.users) (h2:r'.ss=r.ss) (h3:r'.ep=r.ep) (h4:r'.seen=r.seen) (h5:Sl 3 PresR (fz T h) vv' r'.vals) (h6:r'.vals=[]→vv' = .slice none 0 0):K v (upd h p (.cells c qvZ (0,0))):=by
 obtain⟨o1,x1⟩:=x.st w hc h1 h2 h3 h4 h5 h6
 exact hk _ (o1.mono fun t=>eq_pre) ⟨uv,sv,ev,mr,vv',x1⟩
theorem rnext_ok (ph:Int){T:Tags}{h:Heap}{g:Tag}{p:Nat}{r:RP}(w:Wf T h)(gg:Gd g)(x:RPR T h g p r)(hat:r.at_<1000000)
  (hk:∀ h',Only (pre g) T h T h'→RPR T h' g p (r.next ph)→K (.bool r.last) h'):callM P qtZ #[ptr p,.int .i64 ph] h K:=by
 apply qoZZ
 unfold qhEZ
 obtain⟨uv,sv,ev,mr,vv,x⟩:=x
 have cp:=x.cp
 have hlen:=x.ss.len
 have hw:IntKind.i64.wrap ((r.at_:Int)+1)=(r.at_+1:Nat):=by rw[wrap64_id (by omega) (by omega)]; omega
 simp -implicitDefEqProofs only[ncV_p,ov_s,faV_p,ldV_c,Nat.zero_add,cel_of cp,List.getElem?_toArray,List.getElem?_cons_succ,List.getElem?_cons_zero,bin_add,hw]
 by_cases hl:r.at_+1<r.k
 ·have hl':((r.at_+1:Nat):Int)<r.ss.length:=by unfold RP.k at hl; omega
  simp -implicitDefEqProofs[ld_at cp,cel_of cp,stm_at cp,stm_upd,ld_same,cel_same,over,hlen,hl',-Int.natCast_add]
  have e:r.next ph={ r with at_:=r.at_+1 }:=by simp[RP.next,hl]
  have e2:r.last=false:=by simp[RP.last,hl]
  rw[e,e2] at hk
  exact x.fin w hk rfl rfl rfl rfl rfl x.vs x.vn
 ·have hl':¬ ((r.at_+1:Nat):Int)<r.ss.length:=by unfold RP.k at hl; omega
  unfold qkAZ
  simp -implicitDefEqProofs[ld_at cp,cel_of cp,stm_at cp,stm_upd,ld_same,cel_same,over,hlen,hl',-Int.natCast_add]
  have e:r.next ph={ r with ph:=ph,at_:=0 }:=by simp[RP.next,hl]
  have e2:r.last=true:=by simp[RP.last,hl]
  rw[e,e2] at hk
  exact x.fin w hk rfl rfl rfl rfl rfl x.vs x.vn
theorem rdone_ok {T:Tags}{h:Heap}{g:Tag}{p:Nat}{r:RP}(x:RPR T h g p r)(hk:K (.bool (decide (r.ph=8))) h):callM P qbqZ #[ptr p] h K:=by
 apply qoVZ
 unfold qhzZ
 obtain⟨uv,sv,ev,mr,vv,x⟩:=x
 have cp:=x.cp
 simp -implicitDefEqProofs[ld_at cp,cel_of cp,stm_at cp,stm_upd,ld_same,cel_same,over]
 exact hk
theorem rplaced_ok {T:Tags}{h:Heap}{g:Tag}{p:Nat}{r:RP}(x:RPR T h g p r)(hk:K (.int .i64 r.placed) h):callM P qfmZ #[ptr p] h K:=by
 apply qnTZ
 unfold qgfZ
 obtain⟨uv,sv,ev,mr,vv,x⟩:=x
 have cp:=x.cp
 simp -implicitDefEqProofs[ld_at cp,cel_of cp,stm_at cp,stm_upd,ld_same,cel_same,over]
 exact hk
theorem nat_at {F:Heap}{v:Value}{l:List Nat}(x:Sl 1 NatR F v l){i:Nat}(hi:i<l.length){k:IntKind}:∃ b p,iaV (some (none,1)) v (.int k i)=some (.pointer (some ⟨b,p,none⟩))∧∀ h',Ext F h'→cel h' b p=some (.int .i64 l[i]):=by
 obtain⟨b,p,c,h1,h2,h3⟩:=x.at (k:=k) (i:=i) (by omega) (by omega)
 refine⟨b,p,h1,fun h' e=>?_⟩
 have hc:c=[.int .i64 l[i]]:=h3
 subst hc
 have:=(cels_get (cels_ext e h2)).2 0 (by simp)
 simpa using this
theorem rwaits_ok {T:Tags}{h:Heap}{g:Tag}{p:Nat}{r:RP}(x:RPR T h g p r)(hat:r.ph=4→r.at_<r.k)(hk:K (.int .i64 r.waits) h):callM P qcgZ #[ptr p] h K:=by
 apply qoyZ
 unfold qgDZ qjpZ
 obtain⟨uv,sv,ev,mr,vv,x⟩:=x
 have cp:=x.cp
 by_cases h4:r.ph=4
 ·have hat:=hat h4
  obtain⟨b,o,i1,i2⟩:=nat_at x.ss (k:=.i64) hat
  simp -implicitDefEqProofs[ld_at cp,cel_of cp,stm_at cp,stm_upd,ld_same,cel_same,over,h4,i1,i2 _ (fz_ext _ _)]
  refine kv hk ?_
  unfold RP.k at hat
  simp -implicitDefEqProofs[RP.waits,h4,RP.s,List.getD_eq_getElem?_getD,hat]
 ·simp -implicitDefEqProofs[ld_at cp,cel_of cp,stm_at cp,stm_upd,ld_same,cel_same,over,h4]
  exact kv hk (by simp[RP.waits,h4])
theorem renabled_ok {T:Tags}{h:Heap}{g gh:Tag}{p hp:Nat}{r:RP}{H:Hall}(x:RPR T h g p r)(y:HallR T h gh hp H)(hat:r.ph=4→r.at_<r.k)(hss:∀ s∈r.ss,s<H.n)
  (hk:∀ h',Ext h h'→K (.bool (r.enabled H)) h'):callM P qePZ #[ptr p,ptr hp] h K:=by
 apply qnwZ
 unfold qfzZ
 have x0:=x
 obtain⟨uv,sv,ev,mr,vv,x⟩:=x
 have cp:=x.cp
 by_cases h8:r.ph=8
 ·simp -implicitDefEqProofs[ld_at cp,cel_of cp,stm_at cp,stm_upd,ld_same,cel_same,over,h8]
  exact kb (hk h (Ext.refl h)) (by simp[RP.enabled,h8])
 ·simp -implicitDefEqProofs[ld_at cp,cel_of cp,stm_at cp,stm_upd,ld_same,cel_same,over,h8]
  refine rwaits_ok x0 hat ?_
  by_cases h4:r.ph=4
  ·have hat:=hat h4
   have e:r.waits=r.s:=by simp[RP.waits,h4]
   have hs:r.s<H.n:=by
    unfold RP.k at hat
    have:r.s=r.ss[r.at_]:=by simp[RP.s,List.getD_eq_getElem?_getD,hat]
    rw[this]; exact hss _ (List.getElem_mem hat)
   have hneg:¬ ((r.s:Int)<0):=by omega
   rw[e]
   simp -implicitDefEqProofs[hneg]
   refine rwaits_ok x0 (fun _=>hat) ?_
   rw[e]
   refine free_ok y hs fun h' e'=>?_
   exact kb (hk h' e') (by simp[RP.enabled,h4])
  ·have e:r.waits = -1:=by simp[RP.waits,h4]
   rw[e]
   simp -implicitDefEqProofs
   exact kb (hk h (Ext.refl h)) (by simp[RP.enabled,h4,h8])
end Go.Proofs.YtcnphhhcknhhaaaGreat
namespace Go.Proofs.YtcnphhhcknhhaaaGreat
open Go Go.Den Go.MapKept
set_option linter.unusedSimpArgs false
set_option linter.unusedVariables false
set_option maxRecDepth 20000
theorem bsPres:bsI P qaZZ=some (qmZ,3,#[.int .i64 0,.int .i64 0,.int .i64 0]):=by kernel_rfl
theorem unSlPres:P.underlying qaZZ=some (.slice qmZ):=by kernel_rfl
theorem apPres:apC P qmZ=some (3,24,3):=by kernel_rfl
theorem bdReply (a:Int):bdV (binf P quZ) [(0,.int .i64 a)]=some (.agg #[.int .i64 a,.slice none 0 0,.slice none 0 0,.bool false]):=by kernel_rfl
theorem bdReply0:bdV (binf P quZ) []=some (.agg #[.int .i64 0,.slice none 0 0,.slice none 0 0,.bool false]):=by kernel_rfl
theorem zcReply:zc P quZ=some #[.int .i64 0,.slice none 0 0,.slice none 0 0,.bool false]:=by kernel_rfl
def U03 (g t:Tag):Prop:=t=g++[0]∨t=g++[3]
theorem U03.pre {g t:Tag}(h:U03 g t):Den.pre g t:=by rcases h with rfl | rfl<;>exact pre_app _ _
theorem U03.nil (g:Tag):¬ U03 g []:=by rintro (h | h)<;>simp at h
theorem U03.n1 (g:Tag):¬ U03 g (g++[1]):=by rintro (h | h)<;>exact ne_tag (by simp) h
theorem U03.n2 (g:Tag):¬ U03 g (g++[2]):=by rintro (h | h)<;>exact ne_tag (by simp) h
def AnsI (T:Tags)(h:Heap)(g:Tag)(p:Nat)(r:RP)(uv sv ev:Value)(mr:Nat)(v25:Value)(h':Heap):Prop :=
 ∃ (T':Tags) (vv':Value) (i:Nat),Only (U03 g) T h T' h'∧T' p=g++[0]∧h' p=some (.cells (rpC { r with placed:=r.looked } uv sv ev mr vv').toArray qvZ (0,0)) ∧
  Rw T' h' (g++[3]) 3 qmZ vv' i (((r.users.take i).map r.tell).flatMap presC)∧(∀ b,rowOf vv'=some b→h b=none)∧(i=0→vv' = .slice none 0 0)∧i≤r.users.length∧v25 = .int .i64 i
variable {K:KTy}
theorem ranswer_ok {T : Tags} {h : Heap} {g : Tag} {p : Nat} {r : RP} (w : Wf T h) (gg : Gd g) (x : RPR T h g p r) (hv : r.vals = []) (hu : r.users.length ≤ 1000) (hof : r.of ≤ 1000) (hb : ∀ i b, r.seen i = some b → BkG b)
    (hk : ∀ T' h', Only (pre g) T h T' h' → RPR T' h' g p r.answer → K (.tuple #[]) h') : callM P qdeZ #[ptr p] h K := by
  apply qodZ
  unfold qgiZ
  obtain ⟨uv, sv, ev, mr, vv, x⟩ := x
  have cp := x.cp
  have hvv := x.vn hv
  subst hvv
  cases hc : r.t.closed with
  | true =>
    unfold qicZ
    simp -implicitDefEqProofs [ld_at cp, cel_of cp, stm_at cp, stm_upd, ld_same, cel_same, over, hc, bdReply]
    have e : r.answer = { r with placed := r.looked, err := 5, vals := [] } := by simp [RP.answer, hc]
    rw [e] at hk
    exact x.fin w (fun h' => hk T h') (by simp [rpC, hc]) rfl rfl rfl rfl (.inl ⟨rfl, _, _, rfl⟩) (fun _ => rfl)
  | false =>
    have hlen := x.us.len
    unfold qihZ
    simp -implicitDefEqProofs [ld_at cp, cel_of cp, stm_at cp, stm_upd, ld_same, cel_same, over, hc, hlen]
    have e : r.answer = { r with placed := r.looked, vals := r.users.map r.tell } := by simp [RP.answer, hc, hv]
    have o1 := fun o' => Only.upd (U := U03 g) (o' := o') w x.hp (.inl x.tp)
    refine loop_on [0, 23, 24] (fun s h' => AnsI T h g p r uv sv ev mr (s 25) h') (fun s _ => (r.users.length - num (s 25)).toNat)
      ⟨T, .slice none 0 0, 0, o1 _, x.tp, by rw [upd_same']; simp [rpC, hc], Rw.nil _ _ _ _ _, fun b hb => by simp [rowOf] at hb, fun _ => rfl, by omega, rfl⟩ ?_
    rintro s h1 hf ⟨T1, vv1, i, o1, tp1, hp1, r1, f1, z1, hi, s25⟩
    have s0 : s 0 = ptr p := by simpa using hf 0 (by simp)
    have s23 : s 23 = uv := by simpa using hf 23 (by simp)
    have s24 : s 24 = .int .i64 r.users.length := by simpa using hf 24 (by simp)
    unfold qigZ
    simp -implicitDefEqProofs only [s24, s25, bin_lss, ov_s, cd_b]
    refine ⟨fun hc => ?_, fun hc => ?_⟩
    · have hlt : i < r.users.length := by have : ((i : Int) < r.users.length) := by simpa using hc
                                          omega
      have e1 := o1.ext (U03.nil g)
      obtain ⟨b, o, i1, i2⟩ := str_at x.us (k := .i64) hlt
      have hsz := str_sizes x.us _ (List.getElem_mem hlt)
      have hw : IntKind.i64.wrap ((i : Int) + 1) = i + 1 := wrap64_id (by omega) (by omega)
      have sn1 := x.sn.kp o1.k x.mt (U03.n2 g) (U03.nil g)
      obtain ⟨f, m1, sn1⟩ := sn1
      have cp1 := hp1
      simp -implicitDefEqProofs only [rpC] at cp1
      unfold qifZ
      simp -implicitDefEqProofs [s0, s23, s25, i1, i2 _ (e1.trans (fz_ext _ _)), ld_at cp1, cel_of cp1, stm_at cp1, stm_upd, ld_same, cel_same, over]
      refine stripe_ok _ _ hof hsz ?_
      unfold qieZ
      simp -implicitDefEqProofs only [ldV_c, cel_of cp1, List.getElem?_toArray, List.getElem?_cons_succ, List.getElem?_cons_zero, true_and]
      refine lookup_lk mpSeen (k := .int .i64 (stripeOf r.users[i] r.of)) rfl m1 ?_
      have hpr : ∃ a c, lkA (.agg #[.slice none 0 0, .slice none 0 0]) false (f (.int .i64 (stripeOf r.users[i] r.of))) = .agg #[a, c] ∧ BookR (fz T1 h1) a c ((r.seen (stripeOf r.users[i] r.of)).getD []) ∧ BkG ((r.seen (stripeOf r.users[i] r.of)).getD []) := by
        have := sn1 (stripeOf r.users[i] r.of)
        cases hs : r.seen (stripeOf r.users[i] r.of) with
        | none => simp only [hs] at this; exact ⟨_, _, by rw [this]; rfl, BookR.nil _, BkG.nil⟩
        | some b => simp only [hs] at this; obtain ⟨a, c, q1, q2⟩ := this; exact ⟨a, c, by rw [q1]; rfl, q2, hb _ _ hs⟩
      obtain ⟨a, c, q1, q2, q3⟩ := hpr
      rw [q1]
      refine presence_ok _ q3.so _ _ (fz_ext _ _) q2 q3.len (q3.ss _) fun h2 e2 => ?_
      have hp2 := e2 _ _ hp1
      have cp2 := e2 _ _ cp1
      unfold qidZ
      simp -implicitDefEqProofs [ld_at cp2, cel_of cp2, stm_at cp2, stm_upd, ld_same, cel_same, over]
      refine bs_one bsPres (by simp [presC]) (by omega) fun pb h3 n3 e3 c3 => ?_
      have cp3 := e3 _ _ cp2
      simp -implicitDefEqProofs [ld_at cp3, cel_of cp3, stm_at cp3, stm_upd, ld_same, cel_same, over]
      have o3 : Only non T1 h1 T1 h3 := Only.of_ext o1.wf (e2.trans e3)
      refine Rw.app0 (m := 1) (news := _) unSlPres apPres (by omega) o3.wf (r1.kp o3.k (not_non _)) (cels_one c3 (by simp [presC])) (by simp [presC]) (by unfold maxLen; omega) (by omega) fun vv2 T2 h4 o4 r4 ha => ?_
      have b4 := o4.k.at (e3 _ _ hp2) tp1 (ne_tag (by simp))
      have cp4 := b4.1
      simp -implicitDefEqProofs only [rpC] at cp4
      have ho := r4.one
      simp -implicitDefEqProofs [s0, s23, s24, s25, ld_at cp4, cel_of cp4, stm_at cp4, stm_upd, ld_same, cel_same, over, ho.1, ho.2, hw]
      refine ⟨?_, by omega⟩
      have o5 := fun o' => Only.upd (U := fun t => t = g ++ [0]) (o' := o') o4.wf b4.1 b4.2
      refine ⟨T2, vv2, i + 1, ((o1.up o3 non_up).up o4 fun t e => .inr e).up (o5 _) fun t e => .inl e, b4.2, by rw [upd_same']; simp [rpC], ?_, fun b hb => ?_, fun h => by omega, by omega, by simp⟩
      · have := r4.kp (o5 (.cells (rpC { r with placed := r.looked } uv sv ev mr vv2).toArray qvZ (0, 0))).k (ne_tag (by simp))
        rw [List.take_succ_eq_append_getElem hlt, List.map_append, List.flatMap_append]
        simpa [rpC, RP.tell] using this
      · rcases ha with ha | ⟨j, ha, hj⟩
        · exact f1 b (by rw [← ha]; exact hb)
        · rw [ha] at hb; simp only [Option.some.injEq] at hb; subst hb
          exact o1.fresh (fresh_of (e2.trans e3) hj)
    · have : i = r.users.length := by have : ¬ ((i : Int) < r.users.length) := by simpa using hc
                                      omega
      subst this
      simp -implicitDefEqProofs
      rw [List.take_length] at r1
      rw [e] at hk
      have of := o1.freeze (g ++ [3])
      refine hk _ h1 (of.mono fun t => U03.pre) ⟨uv, sv, ev, mr, vv1, hp1, ?_, x.us.ext (@StrR.ext) (of.ext (U03.nil g)), x.ss.ext (@NatR.ext) (of.ext (U03.nil g)), x.ep.kp of.k (U03.n1 g), ?_, x.sn.kp of.k x.mt (U03.n2 g) (U03.nil g), ?_, fun h => z1 (by simpa using h)⟩
      · exact (of.tg p _ x.hp).trans x.tp
      · obtain ⟨f, m, _⟩ := x.sn
        obtain ⟨om, hom⟩ := m.lt
        exact (of.tg mr _ hom).trans x.mt
      · have : Row 3 qmZ (fz (fun b => if h b = none ∧ T1 b = g ++ [3] then [] else T1 b) h1) vv1 r.users.length ((r.users.map r.tell).flatMap presC) := r1.1.of_at fun b hb => by
          obtain ⟨o, ho⟩ := r1.1.lt b hb
          rw [fz_at ho (by simp [f1 b hb, r1.2 b hb]), ho]
        have hl : r.users.length = (r.users.map r.tell).length := by simp
        rw [hl] at this
        exact Row.slE (enc := presC) (R := PresR) (fun _ => rfl) (fun _ => rfl) this
end Go.Proofs.YtcnphhhcknhhaaaGreat
namespace Go.Proofs.YtcnphhhcknhhaaaGreat
open Go Go.Den Go.MapKept
set_option linter.unusedSimpArgs false
set_option linter.unusedVariables false
set_option maxRecDepth 20000
variable {K:KTy}
theorem rjudge_ok {T:Tags}{h:Heap}{g:Tag}{p:Nat}{r:RP}(w:Wf T h)(gg:Gd g)(x:RPR T h g p r)(rg:RG r)(hv:r.vals=[])
  (hk:∀ T' h',Only (pre g) T h T' h'→RPR T' h' g p r.judge→K (.tuple #[]) h'):callM P qdBZ #[ptr p] h K:=by
 apply qoEZ
 unfold qgJZ
 have x0:=x
 obtain⟨uv,sv,ev,mr,vv,x⟩:=x
 have cp:=x.cp
 simp +contextual -implicitDefEqProofs[ld_at cp,cel_of cp,stm_at cp,stm_upd,ld_same,cel_same,over]
 cases hcv:(r.t.closed || r.valid) with
 | true =>
  unfold qjxZ
  refine⟨fun _=>?_,fun h1 h2=>by simp[h1,h2] at hcv⟩
  refine ranswer_ok w gg x0 hv rg.us rg.of rg.sn fun T1 h1 o1 x1=>?_
  obtain⟨uv1,sv1,ev1,mr1,vv1,x1⟩:=x1
  have cp1:=x1.cp
  simp -implicitDefEqProofs[ld_at cp1,cel_of cp1,stm_at cp1,stm_upd,ld_same,cel_same,over]
  have e:r.judge={ r.answer with ph:=8 }:=by simp[RP.judge,hcv]
  rw[e] at hk
  exact x1.fin o1.wf (fun h' o=>hk T1 h' (o1.trans o)) rfl rfl rfl rfl rfl x1.vs x1.vn
 | false =>
  have hcv':r.t.closed=false∧r.valid=false:=by simpa using hcv
  unfold qjzZ
  refine⟨fun hh=>by rcases hh with hh | hh<;>simp[hcv'.1,hcv'.2] at hh,fun _ _=>?_⟩
  simp +contextual -implicitDefEqProofs[ld_at cp,cel_of cp,stm_at cp,stm_upd,ld_same,cel_same,over]
  cases hst:(r.spent || decide (r.tries=0)) with
  | true =>
   have e:r.judge={ r with ph:=4 }:=by simp only[RP.judge,hcv,hst]; simp
   rw[e] at hk
   refine⟨fun _=>?_,fun h1 h2=>?_⟩
   ·exact x.fin w (fun h' o=>hk T h' o) rfl rfl rfl rfl rfl x.vs x.vn
   ·simp -implicitDefEqProofs[h1,h2] at hst
  | false =>
   have e:r.judge=RP.begin { r with tries:=r.tries-1 }:=by simp only[RP.judge,hcv,hst]; simp
   rw[e] at hk
   unfold qjyZ
   have ht:=rg.tr
   have hst':r.spent=false∧¬ r.tries=0:=by simpa using hst
   have hw:IntKind.i64.wrap (r.tries-1)=r.tries-1:=wrap64_id (by omega) (by omega)
   refine⟨fun hh=>by rcases hh with hh | hh<;>simp[hst'.1,hst'.2] at hh,fun _ _=>?_⟩
   simp -implicitDefEqProofs[ld_at cp,cel_of cp,stm_at cp,stm_upd,ld_same,cel_same,over,hw]
   have o1:=fun o'=>Only.upd (U:=pre g) (o':=o') w x.hp (x.tp▸pre_app _ _)
   have e1:=fun o'=>(o1 o').ext gg.nil
   refine rbegin_ok (r:={ r with tries:=r.tries-1 }) (o1 _).wf gg (upd_same' _ _ _) x.tp (x.us.ext (@StrR.ext) (e1 _)) (x.ss.ext (@NatR.ext) (e1 _)) (x.vs.ext (@PresR.ext) (e1 _)) x.vn rg.k8 fun T2 h2 o2 x2=>?_
   exact hk T2 h2 ((o1 _).trans o2) x2
theorem rreply_ok {T:Tags}{h:Heap}{g:Tag}{p:Nat}{r:RP}(w:Wf T h)(gg:Gd g)(x:RPR T h g p r)
  (hk:∀ h' vv,Ext h h'→(r.ph=8→Sl 3 PresR (fz T h') vv r.vals)→(¬ r.ph=8→vv = .slice none 0 0)→K (.agg #[.int .i64 (if r.ph=8 then r.err else 0),vv,.slice none 0 0,.bool false]) h'):callM P qfLZ #[ptr p] h K:=by
 apply qozZ
 unfold qgEZ
 rw[zcReply]
 refine nw_intro fun v1 h1 n1 e1 c1=>?_
 have x1:=x.kp (Only.of_ext (U:=non) w e1).k (Off.non _) (not_non _)
 refine rdone_ok x1 ?_
 obtain⟨uv,sv,ev,mr,vv,x2⟩:=x1
 have cp:=x2.cp
 have ho:=x2.vs.one
 unfold qjrZ
 by_cases h8:r.ph=8
 ·unfold qjqZ
  simp -implicitDefEqProofs[h8,ld_at cp,cel_of cp,stm_at cp,ld_at c1,cel_of c1,stm_at c1,stm_upd,ld_same,cel_same,over,ho.1,ho.2]
  refine kv (hk _ vv (ext_upd n1 e1) (fun _=>?_) (fun h=>absurd h8 h)) (by simp[h8])
  obtain⟨uv,sv,ev,mr',vv',x0⟩:=x
  have hcc:=(e1 _ _ x0.hp)
  rw[x2.hp] at hcc
  have:vv=vv':=by simp[rpC] at hcc; exact hcc.2.2.2.2
  subst this
  exact x0.vs.ext (@PresR.ext) (fz_of_ext (ext_upd n1 e1))
 ·simp -implicitDefEqProofs[h8,ld_at c1,cel_of c1,stm_at c1,stm_upd,ld_same,cel_same,over,bdReply0]
  exact kv (hk _ (.slice none 0 0) (ext_upd n1 e1) (fun h=>absurd h h8) (fun _=>rfl)) (by simp[h8])
end Go.Proofs.YtcnphhhcknhhaaaGreat
namespace Go.Proofs.YtcnphhhcknhhaaaGreat
open Go Go.Den Go.MapKept
set_option linter.unusedSimpArgs false
set_option linter.unusedVariables false
set_option maxRecDepth 20000
theorem RPX.ste {T:Tags}{h:Heap}{g:Tag}{p:Nat}{r:RP}{uv sv ev:Value}{mr:Nat}{vv:Value}(x:RPX T h g p r uv sv ev mr vv)(w:Wf T h){i b:Nat}(hi:i<r.k)(hb:rowOf ev=some b){v:Int}{K:Heap→Prop}
  (hk:∀ h',Only (fun t=>t=g++[1]) T h T h'→RPX T h' g p { r with ep:=epset r.ep i v } uv sv ev mr vv→K h'):stM (some 1) (.pointer (some ⟨b,i,none⟩)) (.int .u64 v) h K:=by
 have tb:=x.ep.2 b hb
 refine row1_st (F:=fun i=>.int .u64 (r.ep i)) x.ep.1 hb hi (by simp) (by simp) fun h' hk' hrow=>?_
 obtain⟨ob,hob⟩:=x.ep.1.lt b hb
 obtain⟨ob',hob'⟩:=hrow.lt b hb
 have e:h'=upd h b ob':=upd_of hk' hob'
 have o1:Only (fun t=>t=g++[1]) T h T h':=by rw[e]; exact Only.upd w hob tb
 have e1:=o1.ext (by simp)
 obtain⟨f,m,_⟩:=x.sn
 refine hk h' o1 ⟨(o1.k.at x.hp x.tp (ne_tag (by simp))).1,x.tp,x.us.ext (@StrR.ext) e1,x.ss.ext (@NatR.ext) e1,⟨?_,x.ep.2⟩,x.mt,x.sn.kp o1.k x.mt (ne_tag (by simp)) (by simp),x.vs.ext (@PresR.ext) e1,x.vn⟩
 refine row1_congr hrow fun k _=>?_
 simp -implicitDefEqProofs only[epset]
 split<;>rfl
theorem RPX.up {T:Tags}{h:Heap}{g:Tag}{p:Nat}{r:RP}{uv sv ev:Value}{mr:Nat}{vv:Value}(x:RPX T h g p r uv sv ev mr vv)(w:Wf T h){s:Int}{a c:Value}{b:Book}(hb:BookR (fz T h) a c b){K:Heap→Prop}
  (hk:∀ h',Only (fun t=>t=g++[2]) T h T h'→RPX T h' g p { r with seen:=seenset r.seen s b } uv sv ev mr vv→K h') :
  uM P (Instr.mapUpdate qnZ (.map (some mr)) (.int .i64 s) (.agg #[a,c])) h K:=by
 obtain⟨f,m,hs⟩:=x.sn
 refine mapUpdate_u mpSeen (k:=.int .i64 s) rfl m fun h' hk' m'=>?_
 obtain⟨om,hom⟩:=m.lt
 obtain⟨om',hom'⟩:=m'.lt
 have e:h'=upd h mr om':=upd_of hk' hom'
 have o1:Only (fun t=>t=g++[2]) T h T h':=by rw[e]; exact Only.upd w hom x.mt
 have e1:=o1.ext (by simp)
 refine hk h' o1 ⟨(o1.k.at x.hp x.tp (ne_tag (by simp))).1,x.tp,x.us.ext (@StrR.ext) e1,x.ss.ext (@NatR.ext) e1,x.ep.kp o1.k (ne_tag (by simp)),x.mt,⟨_,m',fun i=>?_⟩,x.vs.ext (@PresR.ext) e1,x.vn⟩
 simp -implicitDefEqProofs only[seenset]
 by_cases his:i=s
 ·subst his
  simp -implicitDefEqProofs only[if_true]
  exact⟨a,c,mset_same _ _ _,hb.ext e1⟩
 ·simp -implicitDefEqProofs only[if_neg his]
  have hne:(Value.int .i64 i)≠.int .i64 s:=fun h=>his (by simpa using h)
  have:=hs i
  cases hsi:r.seen i with
  | none=>simp only[hsi] at this ⊢; rw[mset_ne _ _ _ hne]; exact this
  | some b'=>simp only[hsi] at this ⊢; obtain⟨q1,q2,q3,q4⟩:=this; exact⟨q1,q2,by rw[mset_ne _ _ _ hne]; exact q3,q4.ext e1⟩
variable {K:KTy}
theorem rstep_ok (n:Int){T:Tags}{h:Heap}{g gh:Tag}{p q:Nat}{r:RP}{H:Hall}(w:Wf T h)(gg:Gd g)(ggh:Gd gh)(d1:Off (pre gh) g)(d2:Off (pre g) gh)(x:RPR T h g p r)(y:HallR T h gh q H)(rg:RG r)(hg:HG H)(rs:RS r H)
  (hk:∀ T' h',Only (two (pre gh) (pre g)) T h T' h'→HallR T' h' gh q (r.step H n).2→RPR T' h' g p (r.step H n).1→K (.tuple #[]) h'):callM P qaxZ #[ptr p,ptr q,.int .i64 n] h K:=by
 apply qoWZ
 unfold qhAZ
 refine renabled_ok x y (fun h4=>?_) rs.ss fun h1 e1=>?_
 ·refine rs.at_ (by omega) fun he=>?_
  have:=rs.e0 he; omega
 have o1:Only non T h T h1:=Only.of_ext w e1
 have y1:=y.up o1 (Off.non _) (not_non _)
 have x1:=x.kp o1.k (Off.non _) (not_non _)
 have w1:=o1.wf
 unfold qkkZ
 cases hen:r.enabled H with
 | false =>
  have e:r.step H n=(r,H):=by simp[RP.step,hen]
  rw[e] at hk
  simp -implicitDefEqProofs
  exact hk T h1 (o1.mono non_up) y1 x1
 | true =>
  have h8:¬ r.ph=8:=fun h=>by simp[RP.enabled,h] at hen
  simp -implicitDefEqProofs
  obtain⟨uv,sv,ev,mr,vv,x2⟩:=x1
  have cp:=x2.cp
  have hlen:=x2.ss.len
  unfold qkjZ
  by_cases hs0:r.ss=[]
  ·unfold qkdZ
   have hl0:r.ss.length=0:=by simp[hs0]
   simp -implicitDefEqProofs[ld_at cp,cel_of cp,stm_at cp,stm_upd,ld_same,cel_same,over,hlen,hl0,bdReply]
   have e:r.step H n=({ r with err:=1,vals:=[],placed:=n,ph:=8 },H):=by simp[RP.step,hen,hs0]
   rw[e] at hk
   exact x2.fin w1 (fun h' o=>hk T h' ((o1.mono non_up).up o two_r) (y1.up o d2 gg.nil)) rfl rfl rfl rfl rfl (.inl ⟨rfl,_,_,rfl⟩) (fun _=>rfl)
  have hl0:¬ ((r.ss.length:Int)=0):=by
   intro h0
   exact hs0 (List.eq_nil_of_length_eq_zero (by omega))
  have hat:=rs.at_ h8 hs0
  have hsl:=RP.s_lt hat
  have hsn:r.s<H.n:=by rw[hsl]; exact rs.ss _ (List.getElem_mem _)
  have hvals:=rs.vn h8
  have hep':=rs.ep
  have estep:r.step H n=r.go H n:=by simp[RP.step,hen,hs0]
  rw[estep] at hk
  obtain⟨sb,so,i1,i2⟩:=nat_at x2.ss (k:=.i64) hat
  rw[← hsl] at i2
  unfold qkiZ
  simp -implicitDefEqProofs[ld_at cp,cel_of cp,stm_at cp,stm_upd,ld_same,cel_same,over,hlen,hl0,hs0,i1,i2 _ (fz_ext _ _)]
  have x1:RPR T h1 g p r:=⟨uv,sv,ev,mr,vv,x2⟩
  by_cases p0:r.ph=0
  ·unfold qkfZ
   simp -implicitDefEqProofs[p0,ld_at cp,cel_of cp,stm_at cp,stm_upd,ld_same,cel_same,over]
   refine epoch_ok r.who w1 ggh y1 hsn hg.n8 hg.ac' fun T3 h3 o3 y3=>?_
   have x3:=x2.kp o3.k d1 ggh.nil
   have cp3:=x3.cp
   obtain⟨eb,q1,q2,q3⟩:=row1_at (F:=fun i=>.int .u64 (r.ep i)) (k:=.i64) x3.ep.1 hat
   unfold qkeZ
   simp -implicitDefEqProofs[ld_at cp3,cel_of cp3,stm_at cp3,stm_upd,ld_same,cel_same,over,q2]
   refine x3.ste o3.wf hat q1 fun h4 o4 x4=>?_
   have cp4:=x4.cp
   have y4:=y3.up o4 (fun t ht e=>d2 t ht (e▸pre_app _ _)) (by simp)
   have oo:Only (two (pre gh) (pre g)) T h T3 h4:=(((o1.mono non_up).up o3 two_l).up o4 fun t e=>two_r _ (e▸pre_app _ _))
   have hgo:r.go H n=(RP.next { r with ep:=epset r.ep r.at_ (H.ss r.s).v,spent:=r.spent || decide (evn H.c.epochs≤(H.ss r.s).v) } 1,H.epoch r.who r.s):=by simp[RP.go,p0]
   rw[hgo] at hk
   cases hsp:r.spent with
   | true =>
    simp -implicitDefEqProofs[hsp,ld_at cp4,cel_of cp4,stm_at cp4,stm_upd,ld_same,cel_same,over]
    refine x4.fin o4.wf (v:=.tuple #[]) (r':={ r with ep:=epset r.ep r.at_ (H.ss r.s).v,spent:=true }) (K:=fun _ h'=>callM P qtZ #[ptr p,.int .i64 1] h' fun _ h''=>K (.tuple #[]) h'') (fun h5 o5 x5=>?_) (by simp[rpC,p0]) rfl rfl rfl rfl x4.vs x4.vn
    refine rnext_ok 1 o5.wf gg x5 rg.at_ fun h6 o6 x6=>?_
    simp -implicitDefEqProofs only[hsp,Bool.true_or] at hk
    exact hk T3 h6 ((oo.up o5 two_r).up o6 two_r) ((y4.up o5 d2 gg.nil).up o6 d2 gg.nil) x6
   | false =>
    obtain⟨eb,q1,q2,q3⟩:=row1_at (F:=fun i=>.int .u64 (epset r.ep r.at_ (H.ss r.s).v i)) (k:=.i64) x4.ep.1 hat
    simp -implicitDefEqProofs[hsp,ld_at cp4,cel_of cp4,stm_at cp4,stm_upd,ld_same,cel_same,over,q2,q3]
    refine config_ok y4 fun h5 e5=>?_
    have o5:Only non T3 h4 T3 h5:=Only.of_ext o4.wf e5
    have x5:=x4.kp o5.k (Off.non _) (not_non _)
    have y5:=y4.up o5 (Off.non _) (not_non _)
    have cp5:=x5.cp
    have q3':=cel_ext e5 q3
    have hep:(H.epoch r.who r.s).c=H.c:=rfl
    simp -implicitDefEqProofs only[hep,cfgC]
    simp -implicitDefEqProofs[ld_at cp5,cel_of cp5,stm_at cp5,stm_upd,ld_same,cel_same,over,q3',fdV,bin_andNot1 _ _ hg.cw.u1]
    refine x5.fin o5.wf (v:=.tuple #[]) (r':={ r with ep:=epset r.ep r.at_ (H.ss r.s).v,spent:=decide (evn H.c.epochs≤(H.ss r.s).v) }) (K:=fun _ h'=>callM P qtZ #[ptr p,.int .i64 1] h' fun _ h''=>K (.tuple #[]) h'') (fun h6 o6 x6=>?_) (by simp[rpC,p0,epset]) rfl rfl rfl rfl x5.vs x5.vn
    refine rnext_ok 1 o6.wf gg x6 rg.at_ fun h7 o7 x7=>?_
    simp -implicitDefEqProofs only[hsp,Bool.false_or] at hk
    exact hk T3 h7 (((oo.up o5 non_up).up o6 two_r).up o7 two_r) ((y5.up o6 d2 gg.nil).up o7 d2 gg.nil) x7
  by_cases p1:r.ph=1
  ·unfold qfWZ qkhZ
   simp -implicitDefEqProofs[p1,ld_at cp,cel_of cp,stm_at cp,stm_upd,ld_same,cel_same,over]
   refine snap_ok r.who w1 ggh y1 hsn hg.n8 hg.ac' fun T3 h3 a c o3 y3 bk=>?_
   have x3:=x2.kp o3.k d1 ggh.nil
   have cp3:=x3.cp
   unfold qkgZ
   simp -implicitDefEqProofs[ld_at cp3,cel_of cp3,stm_at cp3,stm_upd,ld_same,cel_same,over]
   refine x3.up o3.wf (s:=r.s) bk fun h4 o4 x4=>?_
   have y4:=y3.up o4 (fun t ht e=>d2 t ht (e▸pre_app _ _)) (by simp)
   have oo:Only (two (pre gh) (pre g)) T h T3 h4:=(((o1.mono non_up).up o3 two_l).up o4 fun t e=>two_r _ (e▸pre_app _ _))
   have hgo:r.go H n=(RP.next { r with seen:=seenset r.seen r.s (H.ss r.s).snap } 2,H.snap r.who r.s):=by simp[RP.go,p1]
   rw[hgo] at hk
   refine rnext_ok 2 o4.wf gg ⟨uv,sv,ev,mr,vv,x4⟩ rg.at_ fun h5 o5 x5=>?_
   exact hk T3 h5 (oo.up o5 two_r) (y4.up o5 d2 gg.nil) x5
  unfold qfWZ qjoZ
  simp -implicitDefEqProofs[p0,p1]
  rw[seqM_eq]
  unfold qiUZ qiSZ qiTZ
  have wp:∀ k:Int,0≤k∧k≤8→IntKind.i64.wrap (k+1)=k+1:=fun k hk=>wrap64_id (by omega) (by omega)
  by_cases p2:r.ph=2
  ·unfold qdgZ qfuZ
   simp -implicitDefEqProofs[p2,ld_at cp,cel_of cp,stm_at cp,stm_upd,ld_same,cel_same,over]
   refine look_ok r.who w1 ggh y1 hg.ac' fun T3 h3 o3 y3=>?_
   have x3:=x2.kp o3.k d1 ggh.nil
   have cp3:=x3.cp
   have w3:IntKind.i64.wrap 3=3:=rfl
   have hgo:r.go H n=({ r with t:=H.t,looked:=n,ph:=3 },H.look r.who):=by simp[RP.go,p2]
   rw[hgo] at hk
   unfold qftZ qiWZ
   simp -implicitDefEqProofs[ld_at cp3,cel_of cp3,stm_at cp3,stm_upd,ld_same,cel_same,over,p2,w3,tmC]
   exact x3.fin o3.wf (fun h' o=>hk T3 h' (((o1.mono non_up).up o3 two_l).up o two_r) (y3.up o d2 gg.nil)) (by simp[rpC]) rfl rfl rfl rfl x3.vs x3.vn
  by_cases p5:r.ph=5
  ·unfold qdgZ qfuZ
   simp -implicitDefEqProofs[p5,ld_at cp,cel_of cp,stm_at cp,stm_upd,ld_same,cel_same,over]
   refine look_ok r.who w1 ggh y1 hg.ac' fun T3 h3 o3 y3=>?_
   have x3:=x2.kp o3.k d1 ggh.nil
   have cp3:=x3.cp
   have w3:IntKind.i64.wrap 6=6:=rfl
   have hgo:r.go H n=({ r with t:=H.t,looked:=n,ph:=6,placed:=n },H.look r.who):=by simp[RP.go,p5]
   rw[hgo] at hk
   unfold qftZ qiVZ
   simp -implicitDefEqProofs[ld_at cp3,cel_of cp3,stm_at cp3,stm_upd,ld_same,cel_same,over,p5,w3,tmC]
   exact x3.fin o3.wf (fun h' o=>hk T3 h' (((o1.mono non_up).up o3 two_l).up o two_r) (y3.up o d2 gg.nil)) (by simp[rpC]) rfl rfl rfl rfl x3.vs x3.vn
  unfold qdgZ qjnZ
  simp -implicitDefEqProofs[p2,p5]
  by_cases p3:r.ph=3
  ·unfold qiYZ
   simp -implicitDefEqProofs[p3,ld_at cp,cel_of cp,stm_at cp,stm_upd,ld_same,cel_same,over]
   refine epoch_ok r.who w1 ggh y1 hsn hg.n8 hg.ac' fun T3 h3 o3 y3=>?_
   have x3:=x2.kp o3.k d1 ggh.nil
   have cp3:=x3.cp
   have oo:Only (two (pre gh) (pre g)) T h T3 h3:=(o1.mono non_up).up o3 two_l
   have hgo:r.go H n=(let q:RP:={ r with valid:=r.valid && validB (r.ep r.at_) (H.ss r.s).v H.c.epochs }
    (if q.last then (q.next 8).judge else q.next 8,H.epoch r.who r.s)):=by simp[RP.go,p3]
   rw[hgo] at hk
   have w1':(1:Int)≠0:=by decide
   have tail:∀ (T5:Tags) (h5:Heap) (b:Bool),b=(r.valid && validB (r.ep r.at_) (H.ss r.s).v H.c.epochs)→Only (two (pre gh) (pre g)) T h T5 h5→HallR T5 h5 gh q (H.epoch r.who r.s)→RPR T5 h5 g p { r with valid:=b }→∀ (B:Heap→Prop) (K0:KTy),
     (∀ h6,K0 (.bool true) h6=callM P qdBZ #[ptr p] h6 fun _ h7=>K (.tuple #[]) h7)→(∀ h6,K0 (.bool false) h6=K (.tuple #[]) h6)→callM P qtZ #[ptr p,.int .i64 8] h5 K0:=by
    intro T5 h5 b hb o5 y5 x5 B K0 hk1 hk2
    refine rnext_ok 8 o5.wf gg x5 rg.at_ fun h6 o6 x6=>?_
    have y6:=y5.up o6 d2 gg.nil
    simp -implicitDefEqProofs only[← hb] at hk
    cases hl:RP.last { r with valid:=b } with
    | false =>
     rw[hk2]
     simp -implicitDefEqProofs only[hl] at hk
     exact hk T5 h6 (o5.up o6 two_r) y6 x6
    | true =>
     rw[hk1]
     simp -implicitDefEqProofs only[hl,if_true] at hk
     have hq:(RP.next { r with valid:=b } 8).vals=[]∧(RP.next { r with valid:=b } 8).users=r.users∧(RP.next { r with valid:=b } 8).of=r.of∧(RP.next { r with valid:=b } 8).seen=r.seen∧(RP.next { r with valid:=b } 8).k=r.k∧(RP.next { r with valid:=b } 8).tries=r.tries∧(RP.next { r with valid:=b } 8).at_<1000000:=by
      have:=rg.at_
      have:=rg.k8
      unfold RP.next RP.k at *
      split
      ·exact⟨hvals,rfl,rfl,rfl,rfl,rfl,by simp at *; omega⟩
      ·exact⟨hvals,rfl,rfl,rfl,rfl,rfl,by simp⟩
     obtain⟨k1,k2,k3,k4,k5,k6,k7⟩:=hq
     refine rjudge_ok o6.wf gg x6 ⟨by rw[k2]; exact rg.us,by rw[k3]; exact rg.of,by rw[k5]; exact rg.k8,by rw[k6]; exact rg.tr,k7,by rw[k4]; exact rg.sn⟩ k1 fun T7 h7 o7 x7=>?_
     exact hk T7 h7 ((o5.up o6 two_r).up o7 two_r) (y6.up o7 d2 gg.nil) x7
   unfold qiXZ
   cases hvd:r.valid with
   | false =>
    simp -implicitDefEqProofs[ld_at cp3,cel_of cp3,stm_at cp3,stm_upd,ld_same,cel_same,over,hvd]
    refine x3.fin o3.wf (v:=.tuple #[]) (r':={ r with valid:=false }) (K:=fun _ h'=>callM P qtZ #[ptr p,.int .i64 8] h' _) (fun h5 o5 x5=>?_) (by simp[rpC,p3]) rfl rfl rfl rfl x3.vs x3.vn
    refine tail T3 h5 false (by simp[hvd]) (oo.up o5 two_r) (y3.up o5 d2 gg.nil) x5 (fun _=>True) _ (fun h6=>?_) (fun h6=>?_)
    ·unfold qbKZ qfwZ qfvZ
     simp -implicitDefEqProofs
    ·unfold qbKZ qfxZ
     simp -implicitDefEqProofs
   | true =>
    obtain⟨eb,q1,q2,q3⟩:=row1_at (F:=fun i=>.int .u64 (r.ep i)) (k:=.i64) x3.ep.1 hat
    simp -implicitDefEqProofs[ld_at cp3,cel_of cp3,stm_at cp3,stm_upd,ld_same,cel_same,over,hvd,q2,q3]
    refine config_ok y3 fun h5 e5=>?_
    have o5:Only non T3 h3 T3 h5:=Only.of_ext o3.wf e5
    have x5:=x3.kp o5.k (Off.non _) (not_non _)
    have y5:=y3.up o5 (Off.non _) (not_non _)
    have cp5:=x5.cp
    have q3':=cel_ext e5 q3
    have hep:(H.epoch r.who r.s).c=H.c:=rfl
    simp -implicitDefEqProofs only[hep,cfgC]
    simp -implicitDefEqProofs[ld_at cp5,cel_of cp5,stm_at cp5,stm_upd,ld_same,cel_same,over,q3',fdV]
    refine valid_ok _ _ _ (hep' r.at_ hat) hg.cw.u1 ?_
    simp -implicitDefEqProofs[ld_at cp5,cel_of cp5,stm_at cp5,stm_upd,ld_same,cel_same,over,hvd]
    refine x5.fin o5.wf (v:=.tuple #[]) (r':={ r with valid:=validB (r.ep r.at_) (H.ss r.s).v H.c.epochs }) (K:=fun _ h'=>callM P qtZ #[ptr p,.int .i64 8] h' _) (fun h6 o6 x6=>?_) (by simp[rpC,p3]) rfl rfl rfl rfl x5.vs x5.vn
    refine tail T3 h6 _ (by simp[hvd]) ((oo.up o5 non_up).up o6 two_r) (y5.up o6 d2 gg.nil) x6 (fun _=>True) _ (fun h6=>?_) (fun h6=>?_)
    ·unfold qbKZ qfwZ qfvZ
     simp -implicitDefEqProofs
    ·unfold qbKZ qfxZ
     simp -implicitDefEqProofs
  by_cases p4:r.ph=4
  ·unfold qfyZ qjbZ
   simp -implicitDefEqProofs[p3,p4,ld_at cp,cel_of cp,stm_at cp,stm_upd,ld_same,cel_same,over]
   refine lock_ok r.who w1 ggh y1 hsn hg.n8 hg.ac' ⟨rs.wr.1,by have:=rs.wr.2; omega⟩ fun T3 h3 o3 y3=>?_
   have x3:=x2.kp o3.k d1 ggh.nil
   unfold qjaZ
   simp -implicitDefEqProofs
   refine rnext_ok 5 o3.wf gg ⟨uv,sv,ev,mr,vv,x3⟩ rg.at_ fun h4 o4 x4=>?_
   have hgo:r.go H n=(r.next 5,H.lock r.who r.s):=by simp[RP.go,p4]
   rw[hgo] at hk
   unfold qiZZ
   simp -implicitDefEqProofs
   exact hk T3 h4 (((o1.mono non_up).up o3 two_l).up o4 two_r) (y3.up o4 d2 gg.nil) x4
  unfold qfyZ qjmZ
  simp -implicitDefEqProofs[p3,p4]
  by_cases p6:r.ph=6
  ·unfold qjeZ
   simp -implicitDefEqProofs[p6,ld_at cp,cel_of cp,stm_at cp,stm_upd,ld_same,cel_same,over]
   refine read_ok r.who w1 ggh y1 hsn hg.n8 hg.ac' fun T3 h3 a c o3 y3 bk=>?_
   have x3:=x2.kp o3.k d1 ggh.nil
   have cp3:=x3.cp
   unfold qjdZ
   simp -implicitDefEqProofs[ld_at cp3,cel_of cp3,stm_at cp3,stm_upd,ld_same,cel_same,over]
   refine x3.up o3.wf (s:=r.s) bk fun h4 o4 x4=>?_
   have y4:=y3.up o4 (fun t ht e=>d2 t ht (e▸pre_app _ _)) (by simp)
   have oo:Only (two (pre gh) (pre g)) T h T3 h4:=(((o1.mono non_up).up o3 two_l).up o4 fun t e=>two_r _ (e▸pre_app _ _))
   have hgo:r.go H n=(RP.next { r with seen:=seenset r.seen r.s (H.ss r.s).book } 7,H.read r.who r.s):=by simp[RP.go,p6]
   rw[hgo] at hk
   refine rnext_ok 7 o4.wf gg ⟨uv,sv,ev,mr,vv,x4⟩ rg.at_ fun h5 o5 x5=>?_
   unfold qjcZ
   simp -implicitDefEqProofs
   exact hk T3 h5 (oo.up o5 two_r) (y4.up o5 d2 gg.nil) x5
  have p7:r.ph=7:=by have:=rs.ph; omega
  unfold qjlZ qjkZ
  simp -implicitDefEqProofs[p6,p7,ld_at cp,cel_of cp,stm_at cp,stm_upd,ld_same,cel_same,over]
  have hwh:=hg.wh r.s hsn
  refine unlock_ok r.who w1 ggh y1 hsn hg.n8 hg.ac' (by omega) fun T3 h3 o3 y3=>?_
  have x3:=x2.kp o3.k d1 ggh.nil
  have hgo:r.go H n=(if r.last then (r.next 8).answer else r.next 8,H.unlock r.who r.s):=by simp[RP.go,p7]
  rw[hgo] at hk
  unfold qjjZ
  simp -implicitDefEqProofs
  refine rnext_ok 8 o3.wf gg ⟨uv,sv,ev,mr,vv,x3⟩ rg.at_ fun h4 o4 x4=>?_
  have y4:=y3.up o4 d2 gg.nil
  have oo:Only (two (pre gh) (pre g)) T h T3 h4:=((o1.mono non_up).up o3 two_l).up o4 two_r
  unfold qjiZ
  cases hl:r.last with
  | false =>
   unfold qjhZ
   simp -implicitDefEqProofs only[hl] at hk
   simp -implicitDefEqProofs
   exact hk T3 h4 oo y4 x4
  | true =>
   simp -implicitDefEqProofs only[hl,if_true] at hk
   unfold qjgZ
   simp -implicitDefEqProofs
   have hq:(r.next 8).vals=[]∧(r.next 8).users=r.users∧(r.next 8).of=r.of∧(r.next 8).seen=r.seen:=by unfold RP.next; split<;>exact⟨hvals,rfl,rfl,rfl⟩
   refine ranswer_ok o4.wf gg x4 hq.1 (by rw[hq.2.1]; exact rg.us) (by rw[hq.2.2.1]; exact rg.of) (by rw[hq.2.2.2]; exact rg.sn) fun T5 h5 o5 x5=>?_
   unfold qjfZ
   simp -implicitDefEqProofs
   exact hk T5 h5 (oo.up o5 two_r) (y4.up o5 d2 gg.nil) x5
end Go.Proofs.YtcnphhhcknhhaaaGreat
namespace Go.Proofs.YtcnphhhcknhhaaaGreat
open Go Go.Den Go.MapKept
set_option linter.unusedSimpArgs false
set_option linter.unusedVariables false
set_option maxRecDepth 20000
theorem bdProc (a b c d:Int)(s:Option Addr)(n m:Nat):bdV (binf P qvZ) [(0,.int .i64 a),(1,.slice s n m),(2,.int .i64 b),(13,.int .i64 c),(6,.int .i64 d)] =
 some (.agg #[.int .i64 a,.slice s n m,.int .i64 b,.slice none 0 0,.int .i64 0,.int .i64 0,.int .i64 d,.slice none 0 0,.bool false,.bool false,.map none,.int .u64 0,.int .u64 0,.bool false,.int .i64 0,.int .i64 c,.int .i64 0,.slice none 0 0,.slice none 0 0,.bool false]):=by kernel_rfl
theorem Sl.isSl {α:Type}{sz:Nat}{R:Heap→List Value→α→Prop}{h:Heap}{v:Value}{xs:List α}(x:Sl sz R h v xs):∃ s n m,v = .slice s n m:=by
 rcases x with ⟨_,a,c,rfl⟩ | ⟨b,o,cap,rfl,_⟩<;>exact⟨_,_,_,rfl⟩
theorem usersOf_le (x:OpD)(h:badB x=false):(usersOf x).length≤8:=by
 unfold badB at h
 unfold usersOf
 split
 ·simp -implicitDefEqProofs
 ·split
  ·rename_i h4 h5
   simp -implicitDefEqProofs[h5] at h
   omega
  ·simp -implicitDefEqProofs
variable {K:KTy}
theorem rnew_ok (who:Int)(x:OpD)(xw:OpW x){T:Tags}{h:Heap}{g gh:Tag}{q:Nat}{H:Hall}(w:Wf T h)(gg:Gd g)(ggh:Gd gh)(d2:Off (pre g) gh)(y:HallR T h gh q H){v:Value}(hv:Sl 1 StrR (fz T h) v x.users)(hl:x.users.length<1000000)(c8:H.c.stripes≤8)
  (hk:∀ T' h' p,Only (pre g) T h T' h'→RPR T' h' g p (rp0 H who x)→K (ptr p) h'):callM P qgQZ #[ptr q,.int .i64 who,.agg (opC x v).toArray] h K:=by
 apply qpPZ
 unfold qmSZ
 refine nw_agg fun v1 h1 n1 e1 c1=>?_
 simp -implicitDefEqProofs only[ld_at c1,opC]
 have oC:Value.agg #[.int .i64 x.kind,.string x.user,.int .i64 x.id,.int .i64 x.status,.int .i64 x.prio,.int .u64 x.ttl,v] = .agg (opC x v).toArray:=rfl
 simp -implicitDefEqProofs[oC]
 have o1:Only non T h T h1:=Only.of_ext w e1
 have eF:=fz_ext T h
 refine users_ok x xw o1.wf (hv.ext (@StrR.ext) (eF.trans e1)) hl fun uv h2 e2 us=>?_
 have o2:Only non T h1 T h2:=Only.of_ext o1.wf e2
 have y2:=(y.up o1 (Off.non _) (not_non _)).up o2 (Off.non _) (not_non _)
 unfold qnSZ
 refine config_ok y2 fun h3 e3=>?_
 have o3:Only non T h2 T h3:=Only.of_ext o2.wf e3
 have y3:=y2.up o3 (Off.non _) (not_non _)
 unfold qnRZ
 simp -implicitDefEqProofs[fdV,cfgC]
 refine config_ok y3 fun h4 e4=>?_
 have o4:Only non T h3 T h4:=Only.of_ext o3.wf e4
 have y4:=y3.up o4 (Off.non _) (not_non _)
 have us:=us.ext (@StrR.ext) (fz_of_ext (e3.trans e4))
 unfold qnQZ
 obtain⟨sa,sn,sm,rfl⟩:=Sl.isSl us
 simp -implicitDefEqProofs[fdV,cfgC,bdProc]
 refine nw_tag o4.wf (g++[0]) fun p T5 h5 n5 o5 t5 c5=>?_
 have cop:=o5.k.at (t:=[]) (e4 _ _ (e3 _ _ (e2 _ _ c1))) (w v1 n1) (not_non _)
 have us:=us.ext (@StrR.ext) (o5.ext (not_non _))
 have y5:=y4.up o5 (Off.non _) (not_non _)
 rw[seqM_eq]
 unfold qnOZ
 have cc:=cop.1
 simp -implicitDefEqProofs only[ld_at cc,opC]
 simp -implicitDefEqProofs[oC]
 have oh5:Only non T h T5 h5:=(((o1.trans o2).trans o3).trans o4).trans o5
 refine modBad_ok x xw (hv.ext (@StrR.ext) ((oh5.ext (not_non _)).trans (fz_ext _ _))) hl fun h6 e6=>?_
 have o6:Only non T5 h5 T5 h6:=Only.of_ext o5.wf e6
 have c6:=e6 _ _ c5
 have y6:=y5.up o6 (Off.non _) (not_non _)
 have us:=us.ext (@StrR.ext) (fz_of_ext e6)
 have tail:∀ (h7:Heap) (uv:Value) (us:List ByteArray),Only (pre g) T h T5 h7→h7 p=some (.cells #[.int .i64 who,uv,.int .i64 H.c.stripes,.slice none 0 0,.int .i64 0,.int .i64 0,.int .i64 H.c.retries,.slice none 0 0,.bool false,.bool false,.map none,.int .u64 0,.int .u64 0,.bool false,.int .i64 0,.int .i64 (-1),.int .i64 0,.slice none 0 0,.slice none 0 0,.bool false] qvZ (0,0)) →
   Sl 1 StrR (fz T5 h7) uv us→us=(if badB x then [] else usersOf x)→∀ s:Env,s 0=ptr q→s 7=ptr p→qlbZ s h7 K []:=by
  intro h7 uv us o7 c7 su hus s s0 s7
  have y7:=y.up o7 d2 gg.nil
  unfold qlbZ
  simp -implicitDefEqProofs[s0,s7,ld_at c7,cel_of c7,stm_at c7,stm_upd,ld_same,cel_same,over]
  refine config_ok y7 fun h8 e8=>?_
  have o8:Only non T5 h7 T5 h8:=Only.of_ext o7.wf e8
  have c8':=e8 _ _ c7
  have su:=su.ext (@StrR.ext) (fz_of_ext e8)
  have hle:us.length≤8:=by
   rw[hus]
   cases hb:badB x with
   | true=>simp
   | false=>simpa using usersOf_le x hb
  unfold qnPZ
  simp -implicitDefEqProofs[ld_at c8',cel_of c8',stm_at c8',stm_upd,ld_same,cel_same,over,fdV,cfgC]
  refine stripes_ok us _ c8 o8.wf (su.ext (@StrR.ext) (fz_ext _ _)) (by omega) fun sv h9 e9 ss=>?_
  have o9:Only non T5 h8 T5 h9:=Only.of_ext o8.wf e9
  have c9:=e9 _ _ c8'
  have su:=su.ext (@StrR.ext) (fz_of_ext e9)
  have os:=ss.one
  unfold qnpZ
  simp -implicitDefEqProofs[s7,ld_at c9,cel_of c9,stm_at c9,stm_upd,ld_same,cel_same,over,os.1,os.2]
  have o10:=fun o'=>Only.upd (U:=pre g) (o':=o') o9.wf c9 (t5▸pre_app _ _)
  have e10:=fun o'=>(o10 o').ext gg.nil
  have hss:(stripesOf us H.c.stripes).length≤8:=by unfold stripesOf; exact ssTo_le us H.c.stripes 8
  refine rbegin_ok (r:=⟨who,us,H.c.stripes,stripesOf us H.c.stripes,0,0,H.c.retries,fun _=>0,false,false,fun _=>none,⟨0,0,false⟩,0,-1,0,[]⟩) (o10 _).wf gg (upd_same' _ _ _) t5 (su.ext (@StrR.ext) (e10 _)) (ss.ext (@NatR.ext) (e10 _)) (.inl ⟨rfl,_,_,rfl⟩) (fun _=>rfl) hss fun T11 h11 o11 x11=>?_
  unfold qnoZ
  simp -implicitDefEqProofs[s7]
  refine hk T11 h11 p ((((o7.up o8 non_up).up o9 non_up).trans (o10 _)).trans o11) ?_
  have:rp0 H who x=RP.begin ⟨who,us,H.c.stripes,stripesOf us H.c.stripes,0,0,H.c.retries,fun _=>0,false,false,fun _=>none,⟨0,0,false⟩,0,-1,0,[]⟩:=by rw[hus]; rfl
  rw[this]; exact x11
 have o06:Only (pre g) T h T5 h6:=(oh5.mono non_up).up o6 non_up
 unfold qnNZ qnLZ qnMZ
 cases hb:badB x with
 | true =>
  simp -implicitDefEqProofs[ld_at c6,cel_of c6,stm_at c6,stm_upd,ld_same,cel_same,over]
  have o7:=fun o'=>Only.upd (U:=pre g) (o':=o') o6.wf c6 (t5▸pre_app _ _)
  refine tail _ (.slice none 0 0) [] (o06.trans (o7 _)) (upd_same' _ _ _) (.inl ⟨rfl,_,_,rfl⟩) (by simp[hb]) _ (by simp) (by simp)
 | false =>
  simp -implicitDefEqProofs
  exact tail h6 _ _ o06 c6 us (by simp[hb]) _ (by simp) (by simp)
end Go.Proofs.YtcnphhhcknhhaaaGreat
