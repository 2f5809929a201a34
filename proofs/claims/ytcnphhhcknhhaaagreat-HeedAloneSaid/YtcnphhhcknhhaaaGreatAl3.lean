/- Words, plain data and contracts of the Go functions that this claim reaches. No condition beyond the hypotheses that each theorem states. -/
import Derived.Test.YtcnphhhcknhhaaaGreatAl2
set_option linter.unusedSimpArgs false
set_option linter.unusedVariables false
namespace Go.Proofs.YtcnphhhcknhhaaaGreat
open Go Go.Den
set_option maxRecDepth 100000
set_option linter.unusedVariables false
def qbdZ (x0 x1:Value) (h:Heap) (K:Value → Heap → Prop):Prop:=nwM (some x0.cells) qaZ h fun v1 h2=>ov (faV (some 0) v1) fun v3=>ov (ldV (some none) v3 h2) fun v4=>callM P qKZ #[v4,x1] h2 fun v5 h6=>ov (exV v5 0) fun v7=>ov (exV v5 1) fun v8=>K (.tuple #[v7,v8]) h6
variable {K:Value → Heap → Prop}
theorem qjSZ {x0 x1:Value} {h:Heap} (hd:qbdZ x0 x1 h K):callM P qDZ #[x0,x1] h K :=
 call_of good mixed (fn:=Tryz.f269) (args:=[x0,x1]) Tryz.func269 rfl (by kernel_rfl) (of_decide_eq_true rfl) (B:=qbdZ x0 x1 h K) (by kernel_rfl) hd
def qqAZ (x0 x1:Value) (h:Heap) (K:Value → Heap → Prop):Prop:=nwM (some x0.cells) qhZ h fun v1 h2=>nwM (some x1.cells) qamZ h2 fun v3 h4=>ov ((some (.func (Fn.func qlxZ) #[] #[v1,v3]):Option Value)) fun v5=>K v5 h4
theorem qviZ {x0 x1:Value} {h:Heap} (hd:qqAZ x0 x1 h K):callM P qsHZ #[x0,x1] h K :=
 call_of good mixed (fn:=Tryz.f270) (args:=[x0,x1]) Tryz.func270 rfl (by kernel_rfl) (of_decide_eq_true rfl) (B:=qqAZ x0 x1 h K) (by kernel_rfl) hd
def qppZ (x0 x1:Value) (h:Heap) (K:Value → Heap → Prop):Prop:=nwM (some x0.cells) qfZ h fun v1 h2=>nwM (some x1.cells) qfZ h2 fun v3 h4=>ov (faV (some 2) v1) fun v5=>ov (ldV (some none) v5 h4) fun v6=>ov (faV (some 2) v3) fun v7=>ov (ldV (some none) v7 h4) fun v8=>ov (binV BinOp.gtr 2 false v6 v8) fun v9=>gM (isB v9 false) (fun k12=>ov (faV (some 2) v1) fun v13=>k12 v13 h4) h4 fun v10 h11=>gM (isB v9 false) (fun k16=>ov (ldV (some none) v10 h11) fun v17=>k16 v17 h11) h11 fun v14 h15=>gM (isB v9 false) (fun k20=>ov (faV (some 2) v3) fun v21=>k20 v21 h15) h15 fun v18 h19=>gM (isB v9 false) (fun k24=>ov (ldV (some none) v18 h19) fun v25=>k24 v25 h19) h19 fun v22 h23=>gM (isB v9 false) (fun k28=>ov (binV BinOp.eql 2 false v14 v22) fun v29=>k28 v29 h23) h23 fun v26 h27=>gM (isB v9 false) (fun k32=>k32 v26 h27) h27 fun v30 h31=>gM (isB v30 true) (fun k35=>ov (faV (some 0) v1) fun v36=>k35 v36 h31) h31 fun v33 h34=>gM (isB v30 true) (fun k39=>ov (ldV (some none) v33 h34) fun v40=>k39 v40 h34) h34 fun v37 h38=>gM (isB v30 true) (fun k43=>ov (faV (some 0) v3) fun v44=>k43 v44 h38) h38 fun v41 h42=>gM (isB v30 true) (fun k47=>ov (ldV (some none) v41 h42) fun v48=>k47 v48 h42) h42 fun v45 h46=>gM (isB v30 true) (fun k51=>ov (binV BinOp.lss 2 false v37 v45) fun v52=>k51 v52 h46) h46 fun v49 h50=>gM (isB v9 false) (fun k55=>ov (pkV v30 v49 (Value.bool false)) fun v56=>k55 v56 h50) h50 fun v53 h54=>ov (pkV v9 (Value.bool true) v53) fun v57=>K v57 h54
theorem quQZ {x0 x1:Value} {h:Heap} (hd:qppZ x0 x1 h K):callM P qnTZ #[x0,x1] h K :=
 call_of good mixed (fn:=Tryz.f271) (args:=[x0,x1]) Tryz.func271 rfl (by kernel_rfl) (of_decide_eq_true rfl) (B:=qppZ x0 x1 h K) (by kernel_rfl) hd
def qqiZ (v10:Value) (h17:Heap) (v15 x1:Value) (q18:Post) (x0 x2 x3 v1 v3 v5 v6 v8 v9 v13 v21 v22 v23 v24:Value):Prop:=ov (faV (some 1) v10) fun v25=>ov (ldV (some (some 3)) v25 h17) fun v26=>ov (ldV (some (some 3)) v15 h17) fun v27=>ov (bdV (binf P qHZ) [(0,x1),(1,v26),(2,v27)]) fun v28=>bsM (bsI P qxZ) 1 [(0,v28)] h17 fun v29 h30=>q18 .normal [] (puts (envOf [x0,x1,x2,x3]) [(4,v1),(8,v3),(9,(Value.slice none 0 0)),(15,v5),(16,x1),(17,v6),(14,v6),(18,v8),(19,v9),(10,v10),(11,v9),(20,x2),(21,x3),(22,v13),(12,v15),(13,(Value.slice none 0 0)),(23,v21),(24,v22),(25,v23),(26,v24),(27,x1),(28,v25),(29,v26),(30,v27),(31,v28),(32,v29),(13,v29)]) h30
def qqjZ (q18:Post) (x0 x1 x2 x3 v1 v3 v5 v6 v8 v9 v10 v13 v15 v21 v22 v23 v24:Value) (h17:Heap):Prop:=q18 .normal [] (puts (envOf [x0,x1,x2,x3]) [(4,v1),(8,v3),(9,(Value.slice none 0 0)),(15,v5),(16,x1),(17,v6),(14,v6),(18,v8),(19,v9),(10,v10),(11,v9),(20,x2),(21,x3),(22,v13),(12,v15),(13,(Value.slice none 0 0)),(23,v21),(24,v22),(25,v23),(26,v24)]) h17
def qqkZ (v15:Value) (h17:Heap) (v10 x1:Value) (q18:Post) (x0 x2 x3 v1 v3 v5 v6 v8 v9 v13:Value):Prop:=ov (ldV (some (some 3)) v15 h17) fun v21=>ov (faV (some 1) v10) fun v22=>ov (ldV (some (some 3)) v22 h17) fun v23=>pvM P (do eqGuard BinOp.neq qqZ (Operand.tmp 23) (Operand.tmp 25) v21 v23; binOp BinOp.neq qqZ v21 v23) fun v24=>cdM v24 (qqiZ v10 h17 v15 x1 q18 x0 x2 x3 v1 v3 v5 v6 v8 v9 v13 v21 v22 v23 v24) (qqjZ q18 x0 x1 x2 x3 v1 v3 v5 v6 v8 v9 v10 v13 v15 v21 v22 v23 v24 h17)
def qqlZ (s19:Env) (v34:Value) (h35:Heap) (K:Value → Heap → Prop) (m:List Nat) (v31 v32 v33:Value):Prop:=stM (some 2) (s19 8) v34 h35 fun h36=>(retM P [.cell 8 70,.tmp 9] K) .ret m (puts s19 [(33,(s19 2)),(34,v31),(35,v32),(36,v33),(37,(s19 1)),(38,v34),(39,(s19 13)),(9,(s19 13))]) h36
def qqmZ (s19:Env) (h20:Heap) (K:Value → Heap → Prop) (m:List Nat) (v31 v32:Value):Prop:=ov (ldV (some (some 2)) (s19 4) h20) fun v33=>callM P qatZ #[v33,(s19 1)] h20 fun v34 h35=>qqlZ s19 v34 h35 K m v31 v32 v33
def qpLZ (s19:Env) (v41:Value) (h42:Heap) (K:Value → Heap → Prop) (m:List Nat) (v31 v32 v38 v39 v40:Value):Prop:=stM (some 2) (s19 8) v41 h42 fun h43=>(retM P [.cell 8 70,.tmp 9] K) .ret m (puts s19 [(33,(s19 2)),(34,v31),(35,v32),(40,v38),(41,(s19 1)),(42,(s19 2)),(43,v39),(44,v40),(45,v41),(46,(s19 13)),(9,(s19 13))]) h43
def qqnZ (s19:Env) (h20:Heap) (K:Value → Heap → Prop) (m:List Nat) (v31 v32:Value):Prop:=ov (ldV (some (some 2)) (s19 4) h20) fun v38=>ov (ldV (some (some 3)) (s19 12) h20) fun v39=>ov (bdV (binf P qrZ) [(0,(s19 2)),(1,v39)]) fun v40=>callM P qaQZ #[v38,(s19 1),v40] h20 fun v41 h42=>qpLZ s19 v41 h42 K m v31 v32 v38 v39 v40
def qmgZ (s19:Env) (h20:Heap) (K:Value → Heap → Prop) (m:List Nat):Prop:=ov (lnV 7 (s19 2)) fun v31=>ov (binV BinOp.eql 2 true v31 (Value.int IntKind.i64 0)) fun v32=>cdM v32 (qqmZ s19 h20 K m v31 v32) (qqnZ s19 h20 K m v31 v32)
def qqoZ (h14:Heap) (v13 v10 x1 x0 x2 x3 v1 v3 v5 v6 v8 v9:Value) (K:Value → Heap → Prop):Prop:=nwM (zc P qqZ) qqZ h14 fun v15 h16=>stM (some 3) v15 v13 h16 fun h17=>seqM (fun q18=>qqkZ v15 h17 v10 x1 q18 x0 x2 x3 v1 v3 v5 v6 v8 v9 v13) (fun m s19 h20=>qmgZ s19 h20 K m) (retM P [.cell 8 70,.tmp 9] K)
def qqpZ (v6:Value) (h7:Heap) (x2 x3 x1 x0 v1 v3 v5:Value) (K:Value → Heap → Prop):Prop:=ov (exV v6 0) fun v8=>ov (exV v6 1) fun v9=>nwM (zc P qrZ) qrZ h7 fun v10 h11=>stM (some 4) v10 v8 h11 fun h12=>callM P qfmZ #[x2,x3] h12 fun v13 h14=>qqoZ h14 v13 v10 x1 x0 x2 x3 v1 v3 v5 v6 v8 v9 K
def qpqZ (x0 x1 x2 x3:Value) (h:Heap) (K:Value → Heap → Prop):Prop:=nwM (some x0.cells) qaZ h fun v1 h2=>nwM (zc P qaZ) qaZ h2 fun v3 h4=>ov (ldV (some (some 2)) v1 h4) fun v5=>callM P qEZ #[v5,x1] h4 fun v6 h7=>qqpZ v6 h7 x2 x3 x1 x0 v1 v3 v5 K
theorem quRZ {x0 x1 x2 x3:Value} {h:Heap} (hd:qpqZ x0 x1 x2 x3 h K):callM P qiFZ #[x0,x1,x2,x3] h K :=
 call_of good mixed (fn:=Tryz.f273) (args:=[x0,x1,x2,x3]) Tryz.func273 rfl (by kernel_rfl) (of_decide_eq_true rfl) (B:=qpqZ x0 x1 x2 x3 h K) (by kernel_rfl) hd
def qrpZ (v1 v3:Value) (h4:Heap) (K:Value → Heap → Prop):Prop:=ov ((some (.func (Fn.func qaBZ) #[] #[v1]):Option Value)) fun v5=>callM P qMZ #[v3,v5] h4 fun v6 h7=>K v6 h7
def qpMZ (x0 x1:Value) (h:Heap) (K:Value → Heap → Prop):Prop:=nwM (some x1.cells) qamZ h fun v1 h2=>callM P qwZ #[x0] h2 fun v3 h4=>qrpZ v1 v3 h4 K
theorem qvbZ {x0 x1:Value} {h:Heap} (hd:qpMZ x0 x1 h K):callM P qjVZ #[x0,x1] h K :=
 call_of good mixed (fn:=Tryz.f274) (args:=[x0,x1]) Tryz.func274 rfl (by kernel_rfl) (of_decide_eq_true rfl) (B:=qpMZ x0 x1 h K) (by kernel_rfl) hd
def qgbZ (x0:Value) (h2:Heap) (v1:Value) (K:Value → Heap → Prop):Prop:=ov (ncV x0) fun v14=>ov (faV (some 1) v14) fun v15=>ov (ldV (some none) v15 h2) fun v16=>ov (ldV (some (some 8)) v1 h2) fun v17=>bsM (bsI P qlZ) 1 [(0,v17)] h2 fun v18 h19=>ldV (some none) v15 h19=some v16∧vvM P (Builtin.append_ #[qlZ,qlZ] qlZ #[v16,v18]) h19 fun v20 h21=>ov (ncV x0) fun v22=>ov (faV (some 1) v22) fun v23=>stM (some 1) v23 v20 h21 fun h24=>K (Value.bool true) h24
def qdSZ (x0 x1:Value) (h:Heap) (K:Value → Heap → Prop):Prop:=nwM (some x1.cells) qvZ h fun v1 h2=>ov (ncV x0) fun v3=>ov (faV (some 1) v3) fun v4=>ov (ldV (some none) v4 h2) fun v5=>ov (lnV 7 v5) fun v6=>ov (ncV x0) fun v7=>ov (faV (some 0) v7) fun v8=>ov (ldV (some none) v8 h2) fun v9=>ov (binV BinOp.geq 2 false v6 v9) fun v10=>cdM v10 (ov (ncV x0) fun v11=>ov (faV (some 2) v11) fun v12=>stM (some 1) v12 (Value.bool true) h2 fun h13=>K (Value.bool false) h13) (qgbZ x0 h2 v1 K)
theorem qpAZ {x0 x1:Value} {h:Heap} (hd:qdSZ x0 x1 h K):callM P qdEZ #[x0,x1] h K :=
 call_of good mixed (fn:=Tryz.f275) (args:=[x0,x1]) Tryz.func275 rfl (by kernel_rfl) (of_decide_eq_true rfl) (B:=qdSZ x0 x1 h K) (by kernel_rfl) hd
def qdIZ (v22 v26 v3:Value) (h27:Heap) (K:Value → Heap → Prop):Prop:=ov (bdV (binf P qbZ) [(0,v22),(1,v26)]) fun v28=>stM (some 2) v3 v28 h27 fun h29=>ov (ldV (some (some 2)) v3 h29) fun v30=>K v30 h29
def qdJZ (v17:Value) (h21:Heap) (v18 v20 v8 v16 v19 v3:Value) (K:Value → Heap → Prop):Prop:=ldV (some none) v17 h21=some v18∧callM P qasZ #[v20,v8,v16] h21 fun v22 h23=>ldV (some none) v17 h23=some v18∧callM P qmZ #[v18] h23 fun v24 h25=>callM P qbLZ #[v24,v8,v19] h25 fun v26 h27=>qdIZ v22 v26 v3 h27 K
def qdKZ (v1:Value) (h7:Heap) (v8 v3:Value) (K:Value → Heap → Prop):Prop:=ov (faV (some 0) v1) fun v14=>ov (ldV (some none) v14 h7) fun v15=>ov (binV BinOp.add 2 true v8 (Value.int IntKind.i64 1)) fun v16=>ov (faV (some 1) v1) fun v17=>ov (ldV (some none) v17 h7) fun v18=>ov (binV BinOp.add 2 true v8 (Value.int IntKind.i64 1)) fun v19=>callM P qoZ #[v15] h7 fun v20 h21=>qdJZ v17 h21 v18 v20 v8 v16 v19 v3 K
def qdLZ (v6 v1:Value) (h7:Heap) (v3:Value) (K:Value → Heap → Prop):Prop:=ov (exV v6 0) fun v8=>ov (exV v6 1) fun v9=>ov (unV UnOp.not v9) fun v10=>cdM v10 (ov (ldV (some (some 2)) v1 h7) fun v11=>stM (some 2) v3 v11 h7 fun h12=>ov (ldV (some (some 2)) v3 h12) fun v13=>K v13 h12) (qdKZ v1 h7 v8 v3 K)
def qbrZ (x0 x1:Value) (h:Heap) (K:Value → Heap → Prop):Prop:=nwM (some x0.cells) qbZ h fun v1 h2=>nwM (zc P qbZ) qbZ h2 fun v3 h4=>ov (ldV (some (some 2)) v1 h4) fun v5=>callM P qJZ #[v5,x1] h4 fun v6 h7=>qdLZ v6 v1 h7 v3 K
theorem qktZ {x0 x1:Value} {h:Heap} (hd:qbrZ x0 x1 h K):callM P qbcZ #[x0,x1] h K :=
 call_of good mixed (fn:=Tryz.f276) (args:=[x0,x1]) Tryz.func276 rfl (by kernel_rfl) (of_decide_eq_true rfl) (B:=qbrZ x0 x1 h K) (by kernel_rfl) hd
def qeCZ (v16:Value) (h21:Heap) (v17 v20:Value) (q13:Post) (x0 x1 x2 v1 v3 v5 v6 v8 v9 v18 v19:Value):Prop:=ldV (some none) v16 h21=some v17∧ov (bdV (binf P qbZ) [(0,v17),(1,v20)]) fun v22=>nwM (zc P qbZ) qbZ h21 fun v23 h24=>ldV (some none) v16 h24=some v17∧stM (some 2) v23 v22 h24 fun h25=>q13 .normal [] (puts (envOf [x0,x1,x2]) [(3,v1),(6,v3),(11,v5),(12,x1),(13,v6),(10,v6),(14,v8),(15,v9),(7,v8),(8,v9),(16,v9),(17,v16),(18,v17),(19,v18),(20,v19),(21,v20),(22,v22),(9,v23)]) h25
def qeDZ (v19:Value) (h7:Heap) (v16 v17:Value) (q13:Post) (x0 x1 x2 v1 v3 v5 v6 v8 v9 v18:Value):Prop:=callM P qmZ #[v19] h7 fun v20 h21=>qeCZ v16 h21 v17 v20 q13 x0 x1 x2 v1 v3 v5 v6 v8 v9 v18 v19
def qeEZ (h7:Heap) (v16 v17 v18 v19:Value) (q13:Post) (x0 x1 x2 v1 v3 v5 v6 v8 v9:Value):Prop:=nwM (zc P qbZ) qbZ h7 fun v26 h27=>ldV (some none) v16 h27=some v17∧ldV (some none) v18 h27=some v19∧callM P qmZ #[v19] h27 fun v28 h29=>ldV (some none) v16 h29=some v17∧ov (bdV (binf P qbZ) [(0,v17),(1,v28)]) fun v30=>stM (some 2) v26 v30 h29 fun h31=>q13 .normal [] (puts (envOf [x0,x1,x2]) [(3,v1),(6,v3),(11,v5),(12,x1),(13,v6),(10,v6),(14,v8),(15,v9),(7,v8),(8,v9),(16,v9),(17,v16),(18,v17),(19,v18),(20,v19),(9,v26),(21,v28),(22,v30)]) h31
def qeFZ (v1:Value) (h7:Heap) (q13:Post) (x0 x1 x2 v3 v5 v6 v8 v9:Value):Prop:=ov (faV (some 0) v1) fun v16=>ov (ldV (some none) v16 h7) fun v17=>ov (faV (some 1) v1) fun v18=>ov (ldV (some none) v18 h7) fun v19=>(qeDZ v19 h7 v16 v17 q13 x0 x1 x2 v1 v3 v5 v6 v8 v9 v18)∧(qeEZ h7 v16 v17 v18 v19 q13 x0 x1 x2 v1 v3 v5 v6 v8 v9)
def qbxZ (s14:Env) (h15:Heap) (q10:Post) (m:List Nat):Prop:=ov (faV (some 1) (s14 9)) fun v32=>ov (ldV (some none) v32 h15) fun v33=>ov (iaV (some (none,1)) v33 (s14 7)) fun v34=>stM (some 1) v34 (s14 2) h15 fun h35=>ov (ldV (some (some 2)) (s14 9) h35) fun v36=>stM (some 2) (s14 6) v36 h35 fun h37=>q10 .ret m (puts s14 [(23,v32),(24,v33),(25,(s14 7)),(26,(s14 2)),(27,v34),(28,v36)]) h37
def qeGZ (v1:Value) (h7:Heap) (x0 x1 x2 v3 v5 v6 v8 v9:Value) (q10:Post):Prop:=seqM (fun q13=>qeFZ v1 h7 q13 x0 x1 x2 v3 v5 v6 v8 v9) (fun m s14 h15=>qbxZ s14 h15 q10 m) q10
def qeHZ (v9 v1:Value) (h7:Heap) (x0 x1 x2 v3 v5 v6 v8:Value) (q10:Post):Prop:=cdM v9 (qeGZ v1 h7 x0 x1 x2 v3 v5 v6 v8 v9 q10) (q10 .normal [] (puts (envOf [x0,x1,x2]) [(3,v1),(6,v3),(11,v5),(12,x1),(13,v6),(10,v6),(14,v8),(15,v9),(7,v8),(8,v9),(16,v9)]) h7)
def qeaZ (v49 v55:Value) (s11:Env) (h56:Heap) (q38:Post) (m:List Nat) (v41 v42 v43 v44 v45 v47 v51 v53:Value):Prop:=ov (bdV (binf P qbZ) [(0,v49),(1,v55)]) fun v57=>stM (some 2) (s11 6) v57 h56 fun h58=>q38 .normal m (puts s11 [(29,v41),(30,v42),(32,(s11 7)),(33,(s11 1)),(36,v43),(37,v44),(39,(s11 7)),(40,(s11 2)),(31,v45),(34,v47),(35,v49),(38,v51),(41,v53),(42,v55),(43,v57)]) h58
def qebZ (s11:Env) (h52:Heap) (v51 v49:Value) (q38:Post) (m:List Nat) (v41 v42 v43 v44 v45 v47:Value):Prop:=bsM (bsI P qnZ) 1 [(0,(s11 2))] h52 fun v53 h54=>callM P qpZ #[v51,(s11 7),v53] h54 fun v55 h56=>qeaZ v49 v55 s11 h56 q38 m v41 v42 v43 v44 v45 v47 v51 v53
def qecZ (v49 v63:Value) (s11:Env) (h64:Heap) (q38:Post) (m:List Nat) (v41 v42 v43 v44 v45 v47 v59 v61:Value):Prop:=ov (bdV (binf P qbZ) [(0,v49),(1,v63)]) fun v65=>stM (some 2) (s11 6) v65 h64 fun h66=>q38 .normal m (puts s11 [(29,v41),(30,v42),(32,(s11 7)),(33,(s11 1)),(36,v43),(37,v44),(39,(s11 7)),(40,(s11 2)),(31,v45),(34,v47),(35,v49),(41,v59),(38,v61),(42,v63),(43,v65)]) h66
def qedZ (v43:Value) (h50:Heap) (v44:Value) (s11:Env) (v49:Value) (q38:Post) (m:List Nat) (v41 v42 v45 v47:Value):Prop:=ldV (some none) v43 h50=some v44∧(callM P qmZ #[v44] h50 fun v51 h52=>qebZ s11 h52 v51 v49 q38 m v41 v42 v43 v44 v45 v47)∧(bsM (bsI P qnZ) 1 [(0,(s11 2))] h50 fun v59 h60=>ldV (some none) v43 h60=some v44∧callM P qmZ #[v44] h60 fun v61 h62=>callM P qpZ #[v61,(s11 7),v59] h62 fun v63 h64=>qecZ v49 v63 s11 h64 q38 m v41 v42 v43 v44 v45 v47 v59 v61)
def qeeZ (v69 v73:Value) (s11:Env) (h74:Heap) (q38:Post) (m:List Nat) (v41 v42 v43 v44 v45 v47 v67 v71:Value):Prop:=ov (bdV (binf P qbZ) [(0,v69),(1,v73)]) fun v75=>stM (some 2) (s11 6) v75 h74 fun h76=>q38 .normal m (puts s11 [(29,v41),(30,v42),(32,(s11 7)),(33,(s11 1)),(36,v43),(37,v44),(39,(s11 7)),(40,(s11 2)),(31,v45),(34,v47),(41,v67),(35,v69),(38,v71),(42,v73),(43,v75)]) h76
def qefZ (v81 v85:Value) (s11:Env) (h86:Heap) (q38:Post) (m:List Nat) (v41 v42 v43 v44 v45 v77 v79 v83:Value):Prop:=ov (bdV (binf P qbZ) [(0,v81),(1,v85)]) fun v87=>stM (some 2) (s11 6) v87 h86 fun h88=>q38 .normal m (puts s11 [(29,v41),(30,v42),(32,(s11 7)),(33,(s11 1)),(36,v43),(37,v44),(39,(s11 7)),(40,(s11 2)),(31,v45),(41,v77),(34,v79),(35,v81),(38,v83),(42,v85),(43,v87)]) h88
def qegZ (v43:Value) (h46:Heap) (v44:Value) (s11:Env) (v45:Value) (q38:Post) (m:List Nat) (v41 v42:Value):Prop:=ldV (some none) v43 h46=some v44∧(bsM (bsI P qiZ) 1 [(0,(s11 1))] h46 fun v47 h48=>ldV (some none) v43 h48=some v44∧(callM P qgZ #[v45,(s11 7),v47] h48 fun v49 h50=>qedZ v43 h50 v44 s11 v49 q38 m v41 v42 v45 v47)∧(bsM (bsI P qnZ) 1 [(0,(s11 2))] h48 fun v67 h68=>ldV (some none) v43 h68=some v44∧callM P qgZ #[v45,(s11 7),v47] h68 fun v69 h70=>ldV (some none) v43 h70=some v44∧callM P qmZ #[v44] h70 fun v71 h72=>callM P qpZ #[v71,(s11 7),v67] h72 fun v73 h74=>qeeZ v69 v73 s11 h74 q38 m v41 v42 v43 v44 v45 v47 v67 v71))∧(bsM (bsI P qnZ) 1 [(0,(s11 2))] h46 fun v77 h78=>ldV (some none) v43 h78=some v44∧bsM (bsI P qiZ) 1 [(0,(s11 1))] h78 fun v79 h80=>ldV (some none) v43 h80=some v44∧callM P qgZ #[v45,(s11 7),v79] h80 fun v81 h82=>ldV (some none) v43 h82=some v44∧callM P qmZ #[v44] h82 fun v83 h84=>callM P qpZ #[v83,(s11 7),v77] h84 fun v85 h86=>qefZ v81 v85 s11 h86 q38 m v41 v42 v43 v44 v45 v77 v79 v83)
def qehZ (v42:Value) (h12:Heap) (v43 v44:Value) (s11:Env) (q38:Post) (m:List Nat) (v41:Value):Prop:=callM P qoZ #[v42] h12 fun v45 h46=>qegZ v43 h46 v44 s11 v45 q38 m v41 v42
def qeiZ (v93 v99:Value) (s11:Env) (h100:Heap) (q38:Post) (m:List Nat) (v41 v42 v43 v44 v89 v91 v95 v97:Value):Prop:=ov (bdV (binf P qbZ) [(0,v93),(1,v99)]) fun v101=>stM (some 2) (s11 6) v101 h100 fun h102=>q38 .normal m (puts s11 [(29,v41),(30,v42),(32,(s11 7)),(33,(s11 1)),(36,v43),(37,v44),(39,(s11 7)),(40,(s11 2)),(34,v89),(31,v91),(35,v93),(38,v95),(41,v97),(42,v99),(43,v101)]) h102
def qejZ (s11:Env) (h96:Heap) (v95 v93:Value) (q38:Post) (m:List Nat) (v41 v42 v43 v44 v89 v91:Value):Prop:=bsM (bsI P qnZ) 1 [(0,(s11 2))] h96 fun v97 h98=>callM P qpZ #[v95,(s11 7),v97] h98 fun v99 h100=>qeiZ v93 v99 s11 h100 q38 m v41 v42 v43 v44 v89 v91 v95 v97
def qekZ (v93 v107:Value) (s11:Env) (h108:Heap) (q38:Post) (m:List Nat) (v41 v42 v43 v44 v89 v91 v103 v105:Value):Prop:=ov (bdV (binf P qbZ) [(0,v93),(1,v107)]) fun v109=>stM (some 2) (s11 6) v109 h108 fun h110=>q38 .normal m (puts s11 [(29,v41),(30,v42),(32,(s11 7)),(33,(s11 1)),(36,v43),(37,v44),(39,(s11 7)),(40,(s11 2)),(34,v89),(31,v91),(35,v93),(41,v103),(38,v105),(42,v107),(43,v109)]) h110
def qelZ (v43:Value) (h94:Heap) (v44:Value) (s11:Env) (v93:Value) (q38:Post) (m:List Nat) (v41 v42 v89 v91:Value):Prop:=ldV (some none) v43 h94=some v44∧(callM P qmZ #[v44] h94 fun v95 h96=>qejZ s11 h96 v95 v93 q38 m v41 v42 v43 v44 v89 v91)∧(bsM (bsI P qnZ) 1 [(0,(s11 2))] h94 fun v103 h104=>ldV (some none) v43 h104=some v44∧callM P qmZ #[v44] h104 fun v105 h106=>callM P qpZ #[v105,(s11 7),v103] h106 fun v107 h108=>qekZ v93 v107 s11 h108 q38 m v41 v42 v43 v44 v89 v91 v103 v105)
def qemZ (v113 v117:Value) (s11:Env) (h118:Heap) (q38:Post) (m:List Nat) (v41 v42 v43 v44 v89 v91 v111 v115:Value):Prop:=ov (bdV (binf P qbZ) [(0,v113),(1,v117)]) fun v119=>stM (some 2) (s11 6) v119 h118 fun h120=>q38 .normal m (puts s11 [(29,v41),(30,v42),(32,(s11 7)),(33,(s11 1)),(36,v43),(37,v44),(39,(s11 7)),(40,(s11 2)),(34,v89),(31,v91),(41,v111),(35,v113),(38,v115),(42,v117),(43,v119)]) h120
def qenZ (v43:Value) (h92:Heap) (v44 v91:Value) (s11:Env) (v89:Value) (q38:Post) (m:List Nat) (v41 v42:Value):Prop:=ldV (some none) v43 h92=some v44∧(callM P qgZ #[v91,(s11 7),v89] h92 fun v93 h94=>qelZ v43 h94 v44 s11 v93 q38 m v41 v42 v89 v91)∧(bsM (bsI P qnZ) 1 [(0,(s11 2))] h92 fun v111 h112=>ldV (some none) v43 h112=some v44∧callM P qgZ #[v91,(s11 7),v89] h112 fun v113 h114=>ldV (some none) v43 h114=some v44∧callM P qmZ #[v44] h114 fun v115 h116=>callM P qpZ #[v115,(s11 7),v111] h116 fun v117 h118=>qemZ v113 v117 s11 h118 q38 m v41 v42 v43 v44 v89 v91 v111 v115)
def qeoZ (v125 v129:Value) (s11:Env) (h130:Heap) (q38:Post) (m:List Nat) (v41 v42 v43 v44 v89 v121 v123 v127:Value):Prop:=ov (bdV (binf P qbZ) [(0,v125),(1,v129)]) fun v131=>stM (some 2) (s11 6) v131 h130 fun h132=>q38 .normal m (puts s11 [(29,v41),(30,v42),(32,(s11 7)),(33,(s11 1)),(36,v43),(37,v44),(39,(s11 7)),(40,(s11 2)),(34,v89),(41,v121),(31,v123),(35,v125),(38,v127),(42,v129),(43,v131)]) h132
def qepZ (s11:Env) (h12:Heap) (v41 v42 v43 v44:Value) (q38:Post) (m:List Nat):Prop:=bsM (bsI P qiZ) 1 [(0,(s11 1))] h12 fun v89 h90=>ldV (some none) v41 h90=some v42∧ldV (some none) v43 h90=some v44∧(callM P qoZ #[v42] h90 fun v91 h92=>qenZ v43 h92 v44 v91 s11 v89 q38 m v41 v42)∧(bsM (bsI P qnZ) 1 [(0,(s11 2))] h90 fun v121 h122=>ldV (some none) v41 h122=some v42∧ldV (some none) v43 h122=some v44∧callM P qoZ #[v42] h122 fun v123 h124=>ldV (some none) v43 h124=some v44∧callM P qgZ #[v123,(s11 7),v89] h124 fun v125 h126=>ldV (some none) v43 h126=some v44∧callM P qmZ #[v44] h126 fun v127 h128=>callM P qpZ #[v127,(s11 7),v121] h128 fun v129 h130=>qeoZ v125 v129 s11 h130 q38 m v41 v42 v43 v44 v89 v121 v123 v127)
def qeqZ (v139 v143:Value) (s11:Env) (h144:Heap) (q38:Post) (m:List Nat) (v41 v42 v43 v44 v133 v135 v137 v141:Value):Prop:=ov (bdV (binf P qbZ) [(0,v139),(1,v143)]) fun v145=>stM (some 2) (s11 6) v145 h144 fun h146=>q38 .normal m (puts s11 [(29,v41),(30,v42),(32,(s11 7)),(33,(s11 1)),(36,v43),(37,v44),(39,(s11 7)),(40,(s11 2)),(41,v133),(31,v135),(34,v137),(35,v139),(38,v141),(42,v143),(43,v145)]) h146
def qerZ (v43:Value) (h136:Heap) (v44:Value) (s11:Env) (v135 v133:Value) (q38:Post) (m:List Nat) (v41 v42:Value):Prop:=ldV (some none) v43 h136=some v44∧bsM (bsI P qiZ) 1 [(0,(s11 1))] h136 fun v137 h138=>ldV (some none) v43 h138=some v44∧callM P qgZ #[v135,(s11 7),v137] h138 fun v139 h140=>ldV (some none) v43 h140=some v44∧callM P qmZ #[v44] h140 fun v141 h142=>callM P qpZ #[v141,(s11 7),v133] h142 fun v143 h144=>qeqZ v139 v143 s11 h144 q38 m v41 v42 v43 v44 v133 v135 v137 v141
def qesZ (v151 v155:Value) (s11:Env) (h156:Heap) (q38:Post) (m:List Nat) (v41 v42 v43 v44 v133 v147 v149 v153:Value):Prop:=ov (bdV (binf P qbZ) [(0,v151),(1,v155)]) fun v157=>stM (some 2) (s11 6) v157 h156 fun h158=>q38 .normal m (puts s11 [(29,v41),(30,v42),(32,(s11 7)),(33,(s11 1)),(36,v43),(37,v44),(39,(s11 7)),(40,(s11 2)),(41,v133),(34,v147),(31,v149),(35,v151),(38,v153),(42,v155),(43,v157)]) h158
def qetZ (s11:Env) (h12:Heap) (v41 v42 v43 v44:Value) (q38:Post) (m:List Nat):Prop:=bsM (bsI P qnZ) 1 [(0,(s11 2))] h12 fun v133 h134=>ldV (some none) v41 h134=some v42∧ldV (some none) v43 h134=some v44∧(callM P qoZ #[v42] h134 fun v135 h136=>qerZ v43 h136 v44 s11 v135 v133 q38 m v41 v42)∧(bsM (bsI P qiZ) 1 [(0,(s11 1))] h134 fun v147 h148=>ldV (some none) v41 h148=some v42∧ldV (some none) v43 h148=some v44∧callM P qoZ #[v42] h148 fun v149 h150=>ldV (some none) v43 h150=some v44∧callM P qgZ #[v149,(s11 7),v147] h150 fun v151 h152=>ldV (some none) v43 h152=some v44∧callM P qmZ #[v44] h152 fun v153 h154=>callM P qpZ #[v153,(s11 7),v133] h154 fun v155 h156=>qesZ v151 v155 s11 h156 q38 m v41 v42 v43 v44 v133 v147 v149 v153)
def qbsZ (s11:Env) (h12:Heap) (q38:Post) (m:List Nat):Prop:=ov (faV (some 0) (s11 3)) fun v41=>ov (ldV (some none) v41 h12) fun v42=>ov (faV (some 1) (s11 3)) fun v43=>ov (ldV (some none) v43 h12) fun v44=>(qehZ v42 h12 v43 v44 s11 q38 m v41)∧(qepZ s11 h12 v41 v42 v43 v44 q38 m)∧(qetZ s11 h12 v41 v42 v43 v44 q38 m)
def qbyZ (s11:Env) (h12:Heap) (m:List Nat) (K:Value → Heap → Prop):Prop:=seqM (fun q38=>qbsZ s11 h12 q38 m) (fun m s39 h40=>(retM P [.cell 6 282] K) .ret m s39 h40) (retM P [.cell 6 282] K)
def qeIZ (v6 v1:Value) (h7:Heap) (x0 x1 x2 v3 v5:Value) (K:Value → Heap → Prop):Prop:=ov (exV v6 0) fun v8=>ov (exV v6 1) fun v9=>seqM (fun q10=>qeHZ v9 v1 h7 x0 x1 x2 v3 v5 v6 v8 q10) (fun m s11 h12=>qbyZ s11 h12 m K) (retM P [.cell 6 282] K)
def qcjZ (x0 x1 x2:Value) (h:Heap) (K:Value → Heap → Prop):Prop:=nwM (some x0.cells) qbZ h fun v1 h2=>nwM (zc P qbZ) qbZ h2 fun v3 h4=>ov (ldV (some (some 2)) v1 h4) fun v5=>callM P qJZ #[v5,x1] h4 fun v6 h7=>qeIZ v6 v1 h7 x0 x1 x2 v3 v5 K
theorem qmmZ {x0 x1 x2:Value} {h:Heap} (hd:qcjZ x0 x1 x2 h K):callM P qarZ #[x0,x1,x2] h K :=
 call_of good mixed (fn:=Tryz.f277) (args:=[x0,x1,x2]) Tryz.func277 rfl (by kernel_rfl) (of_decide_eq_true rfl) (B:=qcjZ x0 x1 x2 h K) (by kernel_rfl) hd
def qpzZ (v6:Value) (h7:Heap) (x2 v3:Value) (K:Value → Heap → Prop):Prop:=ov (exV v6 0) fun v8=>ov (exV v6 1) fun v9=>nwM (zc P qrZ) qrZ h7 fun v10 h11=>stM (some 4) v10 v8 h11 fun h12=>ov (faV (some 0) v10) fun v13=>ov (ldV (some none) v13 h12) fun v14=>callM P qfmZ #[v14,x2] h12 fun v15 h16=>stM (some 3) v3 v15 h16 fun h17=>ov (ldV (some (some 3)) v3 h17) fun v18=>K v18 h17
def qmhZ (x0 x1 x2:Value) (h:Heap) (K:Value → Heap → Prop):Prop:=nwM (some x0.cells) qaZ h fun v1 h2=>nwM (zc P qqZ) qqZ h2 fun v3 h4=>ov (ldV (some (some 2)) v1 h4) fun v5=>callM P qEZ #[v5,x1] h4 fun v6 h7=>qpzZ v6 h7 x2 v3 K
theorem quAZ {x0 x1 x2:Value} {h:Heap} (hd:qmhZ x0 x1 x2 h K):callM P qkcZ #[x0,x1,x2] h K :=
 call_of good mixed (fn:=Tryz.f278) (args:=[x0,x1,x2]) Tryz.func278 rfl (by kernel_rfl) (of_decide_eq_true rfl) (B:=qmhZ x0 x1 x2 h K) (by kernel_rfl) hd
def qtuZ (v1:Value) (h8:Heap) (v3 v9:Value) (q11:Post) (x0 x1 x2 v5 v6 v7 v10:Value):Prop:=ov (ldV (some (some 4)) v1 h8) fun v14=>ov (iaV (some (none,4)) v3 v9) fun v15=>stM (some 4) v15 v14 h8 fun h16=>q11 .normal [] (puts (envOf [x0,x1,x2]) [(4,v1),(6,(Value.slice none 0 0)),(7,(Value.int IntKind.i64 0)),(11,x0),(12,v3),(8,v3),(14,v3),(15,v5),(16,v6),(17,v7),(13,v7),(18,v9),(19,v10),(9,v9),(10,v10),(26,v10),(25,v10),(27,v3),(28,v9),(29,v14),(30,v15)]) h16
def qtvZ (q11:Post) (x0 x1 x2 v1 v3 v5 v6 v7 v9 v10 v17 v18:Value) (h8:Heap):Prop:=q11 .ret [] (puts (envOf [x0,x1,x2]) [(4,v1),(6,(Value.slice none 0 0)),(7,(Value.int IntKind.i64 0)),(11,x0),(12,v3),(8,v3),(14,v3),(15,v5),(16,v6),(17,v7),(13,v7),(18,v9),(19,v10),(9,v9),(10,v10),(26,v10),(25,v10),(32,v3),(33,v17),(34,x2),(35,v18),(31,v18),(36,v3),(6,v3),(7,(Value.int IntKind.i64 2))]) h8
def qtwZ (q11:Post) (x0 x1 x2 v1 v3 v5 v6 v7 v9 v10 v17 v18 v19 v20 v22:Value) (h23:Heap):Prop:=q11 .normal [] (puts (envOf [x0,x1,x2]) [(4,v1),(6,(Value.slice none 0 0)),(7,(Value.int IntKind.i64 0)),(11,x0),(12,v3),(8,v3),(14,v3),(15,v5),(16,v6),(17,v7),(13,v7),(18,v9),(19,v10),(9,v9),(10,v10),(26,v10),(25,v10),(32,v3),(33,v17),(34,x2),(35,v18),(31,v18),(20,v3),(21,v9),(22,v19),(23,v20),(24,v22),(8,v22)]) h23
def qtxZ (v1:Value) (h8:Heap) (v3 v9:Value) (q11:Post) (x0 x1 x2 v5 v6 v7 v10 v17 v18:Value):Prop:=ov (ldV (some (some 4)) v1 h8) fun v19=>bsM (bsI P qhZ) 1 [(0,v19)] h8 fun v20 h21=>callM P qafZ #[v3,v9,v20] h21 fun v22 h23=>qtwZ q11 x0 x1 x2 v1 v3 v5 v6 v7 v9 v10 v17 v18 v19 v20 v22 h23
def qtyZ (v3 x2:Value) (q11:Post) (x0 x1 v1 v5 v6 v7 v9 v10:Value) (h8:Heap):Prop:=ov (lnV 7 v3) fun v17=>ov (binV BinOp.geq 2 false v17 x2) fun v18=>cdM v18 (qtvZ q11 x0 x1 x2 v1 v3 v5 v6 v7 v9 v10 v17 v18 h8) (qtxZ v1 h8 v3 v9 q11 x0 x1 x2 v5 v6 v7 v10 v17 v18)
def qtzZ (v10 v1:Value) (h8:Heap) (v3 v9:Value) (q11:Post) (x0 x1 x2 v5 v6 v7:Value):Prop:=cdM v10 (qtuZ v1 h8 v3 v9 q11 x0 x1 x2 v5 v6 v7 v10) (qtyZ v3 x2 q11 x0 x1 v1 v5 v6 v7 v9 v10 h8)
def qtAZ (v7 v1:Value) (h8:Heap) (v3 x0 x1 x2 v5 v6:Value) (K:Value → Heap → Prop):Prop:=ov (exV v7 0) fun v9=>ov (exV v7 1) fun v10=>seqM (fun q11=>qtzZ v10 v1 h8 v3 v9 q11 x0 x1 x2 v5 v6 v7) (fun m s12 h13=>(retM P [.tmp 6,.tmp 7] K) .ret m (puts s12 [(37,(s12 8)),(6,(s12 8)),(7,(Value.int IntKind.i64 0))]) h13) (retM P [.tmp 6,.tmp 7] K)
def qtBZ (v1:Value) (h4:Heap) (v3 x0 x1 x2:Value) (K:Value → Heap → Prop):Prop:=ov (faV (some 0) v1) fun v5=>ov (ldV (some none) v5 h4) fun v6=>callM P qidZ #[v3,v6] h4 fun v7 h8=>qtAZ v7 v1 h8 v3 x0 x1 x2 v5 v6 K
def qrOZ (x0 x1 x2:Value) (h:Heap) (K:Value → Heap → Prop):Prop:=nwM (some x1.cells) qfZ h fun v1 h2=>callM P qwZ #[x0] h2 fun v3 h4=>qtBZ v1 h4 v3 x0 x1 x2 K
theorem qvrZ {x0 x1 x2:Value} {h:Heap} (hd:qrOZ x0 x1 x2 h K):callM P qqrZ #[x0,x1,x2] h K :=
 call_of good mixed (fn:=Tryz.f279) (args:=[x0,x1,x2]) Tryz.func279 rfl (by kernel_rfl) (of_decide_eq_true rfl) (B:=qrOZ x0 x1 x2 h K) (by kernel_rfl) hd
def qspZ (v1 v5 v11:Value) (h12:Heap) (K:Value → Heap → Prop):Prop:=ov (iaV (some (none,4)) v1 v5) fun v13=>ov (faV (some 3) v13) fun v14=>stM (some 1) v14 v11 h12 fun h15=>K (.tuple #[v1,(Value.int IntKind.i64 0)]) h15
def qsqZ (v1 v5:Value) (h4:Heap) (x2:Value) (K:Value → Heap → Prop):Prop:=ov (iaV (some (none,4)) v1 v5) fun v8=>ov (faV (some 3) v8) fun v9=>ov (ldV (some none) v9 h4) fun v10=>vvM P (Builtin.max_ #[qamZ,qamZ] qamZ #[v10,x2]) h4 fun v11 h12=>qspZ v1 v5 v11 h12 K
def qsrZ (v3:Value) (K:Value → Heap → Prop) (v1:Value) (h4:Heap) (x2:Value):Prop:=ov (exV v3 0) fun v5=>ov (exV v3 1) fun v6=>ov (unV UnOp.not v6) fun v7=>cdM v7 (K (.tuple #[v1,(Value.int IntKind.i64 3)]) h4) (qsqZ v1 v5 h4 x2 K)
def qssZ (v1 x1:Value) (h2:Heap) (K:Value → Heap → Prop) (x2:Value):Prop:=callM P qidZ #[v1,x1] h2 fun v3 h4=>qsrZ v3 K v1 h4 x2
def qqBZ (x0 x1 x2:Value) (h:Heap) (K:Value → Heap → Prop):Prop:=callM P qwZ #[x0] h fun v1 h2=>qssZ v1 x1 h2 K x2
theorem qvjZ {x0 x1 x2:Value} {h:Heap} (hd:qqBZ x0 x1 x2 h K):callM P qpEZ #[x0,x1,x2] h K :=
 call_of good mixed (fn:=Tryz.f280) (args:=[x0,x1,x2]) Tryz.func280 rfl (by kernel_rfl) (of_decide_eq_true rfl) (B:=qqBZ x0 x1 x2 h K) (by kernel_rfl) hd
def qrqZ (v5 v1:Value) (h4:Heap) (K:Value → Heap → Prop):Prop:=ov (binV BinOp.add 2 true v5 (Value.int IntKind.i64 1)) fun v8=>callM P qagZ #[v1,v5,v8] h4 fun v9 h10=>K (.tuple #[v9,(Value.int IntKind.i64 0)]) h10
def qrrZ (v3:Value) (K:Value → Heap → Prop) (v1:Value) (h4:Heap):Prop:=ov (exV v3 0) fun v5=>ov (exV v3 1) fun v6=>ov (unV UnOp.not v6) fun v7=>cdM v7 (K (.tuple #[v1,(Value.int IntKind.i64 3)]) h4) (qrqZ v5 v1 h4 K)
def qrsZ (v1 x1:Value) (h2:Heap) (K:Value → Heap → Prop):Prop:=callM P qidZ #[v1,x1] h2 fun v3 h4=>qrrZ v3 K v1 h4
def qpNZ (x0 x1:Value) (h:Heap) (K:Value → Heap → Prop):Prop:=callM P qwZ #[x0] h fun v1 h2=>qrsZ v1 x1 h2 K
theorem qvcZ {x0 x1:Value} {h:Heap} (hd:qpNZ x0 x1 h K):callM P qpgZ #[x0,x1] h K :=
 call_of good mixed (fn:=Tryz.f281) (args:=[x0,x1]) Tryz.func281 rfl (by kernel_rfl) (of_decide_eq_true rfl) (B:=qpNZ x0 x1 h K) (by kernel_rfl) hd
def qfFZ (v6 x0 v1:Value) (h7:Heap) (q3:Post):Prop:=rfM P gd v6 #[9] (rfA P qAZ 0) (rfB P qAZ 0) [] (puts (envOf [x0]) [(2,(Value.slice none 0 0)),(3,(Value.bool false)),(4,v1),(7,x0),(8,v6)]) h7 (blkM 0 q3)
def qfGZ (x0:Value) (h2:Heap) (v1:Value) (q3:Post):Prop:=callM P qgXZ #[x0] h2 fun v6 h7=>qfFZ v6 x0 v1 h7 q3
def qfHZ (s4:Env) (h5:Heap) (K:Value → Heap → Prop) (m:List Nat):Prop:=ov (ncV (s4 0)) fun v8=>ov (faV (some 2) v8) fun v9=>ov (ldV (some none) v9 h5) fun v10=>ov (ncV (s4 0)) fun v11=>ov (faV (some 1) v11) fun v12=>stM (some 1) v12 (Value.slice none 0 0) h5 fun h13=>ov (ncV (s4 0)) fun v14=>ov (faV (some 2) v14) fun v15=>stM (some 1) v15 (Value.bool false) h13 fun h16=>ov (ldV (some none) (s4 4) h16) fun v17=>(retM P [.tmp 2,.tmp 3] K) .ret m (puts s4 [(14,(s4 0)),(15,v8),(16,v9),(17,v10),(6,v10),(18,(s4 0)),(19,(s4 0)),(20,v11),(21,v12),(22,v14),(23,v15),(24,v17),(25,v10),(2,v17),(3,v10)]) h16
def qcTZ (x0:Value) (h:Heap) (K:Value → Heap → Prop):Prop:=nwM (zc P qlZ) qlZ h fun v1 h2=>seqM (fun q3=>qfGZ x0 h2 v1 q3) (fun m s4 h5=>qfHZ s4 h5 K m) (retM P [.tmp 2,.tmp 3] K)
theorem qpdZ {x0:Value} {h:Heap} (hd:qcTZ x0 h K):callM P qAZ #[x0] h K :=
 call_of good mixed (fn:=Tryz.f285) (args:=[x0]) Tryz.func285 rfl (by kernel_rfl) (of_decide_eq_true rfl) (B:=qcTZ x0 h K) (by kernel_rfl) hd
def qftZ (m:List Nat) (s:Env) (h:Heap) (Q:Post):Prop:=nwM (zc P qvZ) qvZ h fun v1 h2=>stM (some 8) v1 (s 9) h2 fun h3=>Q .normal m (puts s [(5,v1)]) h3
theorem qmiZ {m:List Nat} {s:Env} {h:Heap} {Q:Post}:den P gd (rfA P qAZ 0) m s h Q=qftZ m s h Q:=by kernel_rfl
def qfuZ (m:List Nat) (s:Env) (h:Heap) (Q:Post):Prop:=ov (ldV (some none) (s 4) h) fun v1=>ov (ldV (some (some 8)) (s 5) h) fun v2=>bsM (bsI P qlZ) 1 [(0,v2)] h fun v3 h4=>vvM P (Builtin.append_ #[qlZ,qlZ] qlZ #[v1,v3]) h4 fun v5 h6=>stM (some 1) (s 4) v5 h6 fun h7=>Q .normal m (puts s [(10,v1),(11,v2),(12,v3),(13,v5)]) h7
theorem qmjZ {m:List Nat} {s:Env} {h:Heap} {Q:Post}:den P gd (rfB P qAZ 0) m s h Q=qfuZ m s h Q:=by kernel_rfl
def qfXZ (x0 x1 x2:Value) (h:Heap) (K:Value → Heap → Prop):Prop:=ov (ldV (some none) x1 h) fun v1=>ov (ldV (some none) x2 h) fun v2=>callM P qfLZ #[x0,v1,v2] h fun v3 h4=>K (Value.bool false) h4
theorem qrtZ {x0 x1 x2:Value} {h:Heap} (hd:qfXZ x0 x1 x2 h K):callM P qcPZ #[x0,x1,x2] h K :=
 call_of good mixed (fn:=Tryz.f286) (args:=[x0,x1,x2]) Tryz.func286 rfl (by kernel_rfl) (of_decide_eq_true rfl) (B:=qfXZ x0 x1 x2 h K) (by kernel_rfl) hd
def qhIZ (x0 x1 x2:Value) (h:Heap) (K:Value → Heap → Prop):Prop:=ov (ldV (some none) x2 h) fun v1=>ov (ldV (some none) x1 h) fun v2=>callM P qiLZ #[x0,v2] h fun v3 h4=>ldV (some none) x2 h4=some v1∧ov (ncV v1) fun v5=>ov (faV (some 3) v5) fun v6=>stM (some 3) v6 v3 h4 fun h7=>K (Value.bool true) h7
theorem qsFZ {x0 x1 x2:Value} {h:Heap} (hd:qhIZ x0 x1 x2 h K):callM P qdRZ #[x0,x1,x2] h K :=
 call_of good mixed (fn:=Tryz.f287) (args:=[x0,x1,x2]) Tryz.func287 rfl (by kernel_rfl) (of_decide_eq_true rfl) (B:=qhIZ x0 x1 x2 h K) (by kernel_rfl) hd
def qgVZ (x0 x1:Value) (h:Heap) (K:Value → Heap → Prop):Prop:=ov (ldV (some none) x1 h) fun v1=>nxM P (do let d ← Deferred.ofValue v1 #[x0] ; invoke d.target d.args) h fun v2 h3=>K (Value.bool false) h3
theorem qrPZ {x0 x1:Value} {h:Heap} (hd:qgVZ x0 x1 h K):callM P qdvZ #[x0,x1] h K :=
 call_of good mixed (fn:=Tryz.f288) (args:=[x0,x1]) Tryz.func288 rfl (by kernel_rfl) (of_decide_eq_true rfl) (B:=qgVZ x0 x1 h K) (by kernel_rfl) hd
def qdUZ (q6:Post) (m:List Nat) (s4:Env) (v7 v8 v9 v10 v11 v12 v13 v14 v16:Value) (h15:Heap):Prop:=q6 .ret m (puts s4 [(9,v7),(10,(s4 8)),(11,v8),(12,v9),(3,(s4 8)),(4,v9),(13,(s4 0)),(14,v9),(15,v10),(16,v11),(17,(s4 8)),(18,v12),(19,v13),(20,v14),(21,v16)]) h15
def qdVZ (s4:Env) (q6:Post) (m:List Nat) (v7 v8 v9 v10 v11 v12 v13 v14 v16:Value) (h15:Heap):Prop:=ov (binV BinOp.add 2 true (s4 8) (Value.int IntKind.i64 1)) fun v17=>q6 .normal m (puts s4 [(9,v7),(10,(s4 8)),(11,v8),(12,v9),(3,(s4 8)),(4,v9),(13,(s4 0)),(14,v9),(15,v10),(16,v11),(17,(s4 8)),(18,v12),(19,v13),(20,v14),(21,v16),(22,v17),(8,v17)]) h15
def qbeZ (v14:Value) (q6:Post) (m:List Nat) (s4:Env) (v7 v8 v9 v10 v11 v12 v13:Value) (h15:Heap):Prop:=ov (unV UnOp.not v14) fun v16=>cdM v16 (qdUZ q6 m s4 v7 v8 v9 v10 v11 v12 v13 v14 v16 h15) (qdVZ s4 q6 m v7 v8 v9 v10 v11 v12 v13 v14 v16 h15)
def qdWZ (s4:Env) (h5:Heap) (q6:Post) (m:List Nat) (v7:Value):Prop:=ov (iaV (some (none,1)) (s4 6) (s4 8)) fun v8=>ov (ldV (some none) v8 h5) fun v9=>ov (faV (some 1) (s4 1)) fun v10=>ov (ldV (some none) v10 h5) fun v11=>ov (iaV (some (none,1)) v11 (s4 8)) fun v12=>ov (ldV (some none) v12 h5) fun v13=>nxM P (do let d ← Deferred.ofValue (s4 0) #[v9,v13] ; invoke d.target d.args) h5 fun v14 h15=>qbeZ v14 q6 m s4 v7 v8 v9 v10 v11 v12 v13 h15
def qdXZ (s4:Env) (h5:Heap) (q6:Post) (m:List Nat):Prop:=ov (binV BinOp.lss 2 false (s4 8) (s4 7)) fun v7=>cdM v7 (qdWZ s4 h5 q6 m v7) (q6 (.exit 0) m (puts s4 [(9,v7)]) h5)
def qbzZ (x0 x1:Value) (h:Heap) (K:Value → Heap → Prop):Prop:=ov (faV (some 0) x1) fun v1=>ov (ldV (some none) v1 h) fun v2=>ov (lnV 7 v2) fun v3=>loopM (fun m s4 h5 q6=>qdXZ s4 h5 q6 m) [] (puts (envOf [x0,x1]) [(5,v1),(6,v2),(7,v3),(8,(Value.int IntKind.i64 0))]) h (blkM 0 (retM P [] K))
theorem qluZ {x0 x1:Value} {h:Heap} (hd:qbzZ x0 x1 h K):callM P qaeZ #[x0,x1] h K :=
 call_of good mixed (fn:=Tryz.f289) (args:=[x0,x1]) Tryz.func289 rfl (by kernel_rfl) (of_decide_eq_true rfl) (B:=qbzZ x0 x1 h K) (by kernel_rfl) hd
def qckZ (x0 x1:Value) (h:Heap) (K:Value → Heap → Prop):Prop:=nwM (some x0.cells) qbZ h fun v1 h2=>ov (faV (some 0) v1) fun v3=>ov (ldV (some none) v3 h2) fun v4=>callM P qKZ #[v4,x1] h2 fun v5 h6=>ov (exV v5 0) fun v7=>ov (exV v5 1) fun v8=>K (.tuple #[v7,v8]) h6
theorem qmnZ {x0 x1:Value} {h:Heap} (hd:qckZ x0 x1 h K):callM P qJZ #[x0,x1] h K :=
 call_of good mixed (fn:=Tryz.f290) (args:=[x0,x1]) Tryz.func290 rfl (by kernel_rfl) (of_decide_eq_true rfl) (B:=qckZ x0 x1 h K) (by kernel_rfl) hd
def qhJZ (x0:Value) (h:Heap) (K:Value → Heap → Prop):Prop:=nwM (some x0.cells) qsZ h fun v1 h2=>ov (faV (some 0) v1) fun v3=>ov (ldV (some none) v3 h2) fun v4=>ov (binV BinOp.sub 2 true v4 (Value.int IntKind.i64 1)) fun v5=>K v5 h2
theorem qsGZ {x0:Value} {h:Heap} (hd:qhJZ x0 h K):callM P qgIZ #[x0] h K :=
 call_of good mixed (fn:=Tryz.f291) (args:=[x0]) Tryz.func291 rfl (by kernel_rfl) (of_decide_eq_true rfl) (B:=qhJZ x0 h K) (by kernel_rfl) hd
def qjhZ (x0:Value) (h:Heap) (K:Value → Heap → Prop):Prop:=nwM (some x0.cells) qLZ h fun v1 h2=>ov (faV (some 0) v1) fun v3=>ov (ldV (some none) v3 h2) fun v4=>ov (faV (some 1) v1) fun v5=>ov (ldV (some none) v5 h2) fun v6=>ov (binV BinOp.geq 2 false v4 v6) fun v7=>K v7 h2
theorem qtWZ {x0:Value} {h:Heap} (hd:qjhZ x0 h K):callM P qicZ #[x0] h K :=
 call_of good mixed (fn:=Tryz.f292) (args:=[x0]) Tryz.func292 rfl (by kernel_rfl) (of_decide_eq_true rfl) (B:=qjhZ x0 h K) (by kernel_rfl) hd
def qcIZ (v12:Value) (q7:Post) (m:List Nat) (s5:Env) (v8 v9 v10 v11 v13 v14 v15:Value) (h16:Heap):Prop:=ov (binV BinOp.add 2 true v12 (Value.int IntKind.i64 1)) fun v17=>q7 .normal m (puts s5 [(13,(s5 7)),(14,(s5 8)),(15,v8),(16,(s5 7)),(17,(s5 8)),(18,v9),(19,v10),(20,v11),(21,v12),(9,v12),(22,(s5 0)),(23,v12),(24,v13),(25,v14),(26,(s5 1)),(27,v15),(28,v12),(29,v17),(7,v17)]) h16
def qcJZ (q7:Post) (m:List Nat) (s5:Env) (v8 v9 v10 v11 v12 v13 v14 v15:Value) (h16:Heap):Prop:=q7 .normal m (puts s5 [(13,(s5 7)),(14,(s5 8)),(15,v8),(16,(s5 7)),(17,(s5 8)),(18,v9),(19,v10),(20,v11),(21,v12),(9,v12),(22,(s5 0)),(23,v12),(24,v13),(25,v14),(26,(s5 1)),(27,v15),(30,v12),(8,v12)]) h16
def qcKZ (v15 v12:Value) (q7:Post) (m:List Nat) (s5:Env) (v8 v9 v10 v11 v13 v14:Value) (h16:Heap):Prop:=cdM v15 (qcIZ v12 q7 m s5 v8 v9 v10 v11 v13 v14 v15 h16) (qcJZ q7 m s5 v8 v9 v10 v11 v12 v13 v14 v15 h16)
def qcLZ (s5:Env) (h6:Heap) (q7:Post) (m:List Nat) (v8:Value):Prop:=ov (binV BinOp.add 2 false (s5 7) (s5 8)) fun v9=>ov (cvV (some .u64) v9) fun v10=>ov (binV BinOp.shr 2 true v10 (Value.int IntKind.u64 1)) fun v11=>ov (cvV (some .i64) v11) fun v12=>ov (iaV (some (none,1)) (s5 0) v12) fun v13=>ov (ldV (some none) v13 h6) fun v14=>callM P qieZ #[v14,(s5 1)] h6 fun v15 h16=>qcKZ v15 v12 q7 m s5 v8 v9 v10 v11 v13 v14 h16
def qcMZ (s5:Env) (h6:Heap) (q7:Post) (m:List Nat):Prop:=ov (binV BinOp.lss 2 false (s5 7) (s5 8)) fun v8=>cdM v8 (qcLZ s5 h6 q7 m v8) (q7 (.exit 0) m (puts s5 [(13,(s5 7)),(14,(s5 8)),(15,v8)]) h6)
def qcNZ (x0 x1 v1:Value) (h:Heap) (q2:Post):Prop:=loopM (fun m s5 h6 q7=>qcMZ s5 h6 q7 m) [] (puts (envOf [x0,x1]) [(4,(Value.int IntKind.i64 0)),(5,(Value.bool false)),(10,x0),(11,v1),(6,v1),(12,v1),(7,(Value.int IntKind.i64 0)),(8,v1)]) h (blkM 0 q2)
def qcOZ (s3:Env) (h4:Heap) (K:Value → Heap → Prop) (m:List Nat):Prop:=ov (binV BinOp.lss 2 false (s3 7) (s3 6)) fun v18=>gM (isB v18 true) (fun k21=>k21 (s3 0) h4) h4 fun v19 h20=>gM (isB v18 true) (fun k24=>k24 (s3 7) h20) h20 fun v22 h23=>gM (isB v18 true) (fun k27=>ov (iaV (some (none,1)) v19 v22) fun v28=>k27 v28 h23) h23 fun v25 h26=>gM (isB v18 true) (fun k31=>ov (ldV (some none) v25 h26) fun v32=>k31 v32 h26) h26 fun v29 h30=>gM (isB v18 true) (fun k35=>k35 (s3 1) h30) h30 fun v33 h34=>gM (isB v18 true) (fun k38=>ov (binV BinOp.eql 3 false v29 v33) fun v39=>k38 v39 h34) h34 fun v36 h37=>gM (isB v18 true) (fun k42=>k42 v36 h37) h37 fun v40 h41=>gM (isB v40 false) (fun k45=>k45 (s3 0) h41) h41 fun v43 h44=>gM (isB v40 false) (fun k48=>k48 (s3 7) h44) h44 fun v46 h47=>gM (isB v40 false) (fun k51=>ov (iaV (some (none,1)) v43 v46) fun v52=>k51 v52 h47) h47 fun v49 h50=>gM (isB v40 false) (fun k55=>ov (ldV (some none) v49 h50) fun v56=>k55 v56 h50) h50 fun v53 h54=>gM (isB v40 false) (fun k59=>callM P qcQZ #[v53] h54 fun v60 h61=>k59 v60 h61) h54 fun v57 h58=>gM (isB v40 false) (fun k64=>k64 v57 h58) h58 fun v62 h63=>gM (isB v62 true) (fun k67=>k67 (s3 1) h63) h63 fun v65 h66=>gM (isB v62 true) (fun k70=>callM P qcQZ #[v65] h66 fun v71 h72=>k70 v71 h72) h66 fun v68 h69=>gM (isB v40 false) (fun k75=>ov (pkV v62 v68 (Value.bool false)) fun v76=>k75 v76 h69) h69 fun v73 h74=>gM (isB v18 true) (fun k79=>ov (pkV v40 (Value.bool true) v73) fun v80=>k79 v80 h74) h74 fun v77 h78=>ov (pkV v18 v77 (Value.bool false)) fun v81=>(retM P [.tmp 4,.tmp 5] K) .ret m (puts s3 [(31,(s3 7)),(32,(s3 7)),(33,(s3 6)),(34,v18),(35,v18),(36,v19),(37,v22),(38,v25),(39,v29),(40,v33),(41,v36),(42,v40),(43,v43),(44,v46),(45,v49),(46,v53),(47,v57),(48,v62),(49,v65),(50,v68),(51,v73),(52,v77),(53,v81),(4,(s3 7)),(5,v81)]) h78
def qaKZ (x0 x1:Value) (h:Heap) (K:Value → Heap → Prop):Prop:=ov (lnV 7 x0) fun v1=>seqM (fun q2=>qcNZ x0 x1 v1 h q2) (fun m s3 h4=>qcOZ s3 h4 K m) (retM P [.tmp 4,.tmp 5] K)
theorem qiIZ {x0 x1:Value} {h:Heap} (hd:qaKZ x0 x1 h K):callM P qKZ #[x0,x1] h K :=
 call_of good mixed (fn:=Tryz.f298) (args:=[x0,x1]) Tryz.func298 rfl (by kernel_rfl) (of_decide_eq_true rfl) (B:=qaKZ x0 x1 h K) (by kernel_rfl) hd
def qpOZ (q5:Post) (m:List Nat) (s3:Env) (v6 v7 v8 v9 v12 v13 v14 v15 v17 v18 v21 v25 v30 v34:Value) (h31:Heap):Prop:=q5 .ret m (puts s3 [(9,v6),(10,v7),(11,v8),(5,v9),(12,v12),(13,v13),(14,v14),(15,v15),(16,v17),(17,v17),(18,v18),(19,v21),(20,v25),(21,v30),(22,v34)]) h31
def qkuZ (s3:Env) (q5:Post) (m:List Nat) (v6 v7 v8 v9 v12 v13 v14 v15 v17 v18 v21 v25 v30 v34:Value) (h31:Heap):Prop:=ov (binV BinOp.add 2 true (s3 8) (Value.int IntKind.i64 1)) fun v35=>q5 .normal m (puts s3 [(9,v6),(10,v7),(11,v8),(5,v9),(12,v12),(13,v13),(14,v14),(15,v15),(16,v17),(17,v17),(18,v18),(19,v21),(20,v25),(21,v30),(22,v34),(23,v35),(8,v35)]) h31
def qpPZ (v15:Value) (s3:Env) (h16:Heap) (v9:Value) (q5:Post) (m:List Nat) (v6 v7 v8 v12 v13 v14:Value):Prop:=ov (unV UnOp.not v15) fun v17=>gM (isB v17 true) (fun k20=>k20 (s3 0) h16) h16 fun v18 h19=>gM (isB v17 true) (fun k23=>ov (ldV (some (some 4)) v9 h19) fun v24=>k23 v24 h19) h19 fun v21 h22=>gM (isB v17 true) (fun k27=>nxM P (do let d ← Deferred.ofValue v18 #[v21] ; invoke d.target d.args) h22 fun v28 h29=>k27 v28 h29) h22 fun v25 h26=>gM (isB v17 true) (fun k32=>ov (unV UnOp.not v25) fun v33=>k32 v33 h26) h26 fun v30 h31=>ov (pkV v17 v30 (Value.bool false)) fun v34=>cdM v34 (qpOZ q5 m s3 v6 v7 v8 v9 v12 v13 v14 v15 v17 v18 v21 v25 v30 v34 h31) (qkuZ s3 q5 m v6 v7 v8 v9 v12 v13 v14 v15 v17 v18 v21 v25 v30 v34 h31)
def qpQZ (s3:Env) (h4:Heap) (q5:Post) (m:List Nat) (v6:Value):Prop:=ov (iaV (some (none,4)) (s3 6) (s3 8)) fun v7=>ov (ldV (some (some 4)) v7 h4) fun v8=>nwM (zc P qfZ) qfZ h4 fun v9 h10=>stM (some 4) v9 v8 h10 fun h11=>ov (ldV (some none) (s3 2) h11) fun v12=>ov (faV (some 3) v9) fun v13=>ov (ldV (some none) v13 h11) fun v14=>callM P qlyZ #[v12,v14] h11 fun v15 h16=>qpPZ v15 s3 h16 v9 q5 m v6 v7 v8 v12 v13 v14
def qpRZ (s3:Env) (h4:Heap) (q5:Post) (m:List Nat):Prop:=ov (binV BinOp.lss 2 false (s3 8) (s3 7)) fun v6=>cdM v6 (qpQZ s3 h4 q5 m v6) (q5 (.exit 0) m (puts s3 [(9,v6)]) h4)
def qoeZ (x0 x1 x2:Value) (h:Heap) (K:Value → Heap → Prop):Prop:=ov (ldV (some none) x1 h) fun v1=>ov (lnV 7 v1) fun v2=>loopM (fun m s3 h4 q5=>qpRZ s3 h4 q5 m) [] (puts (envOf [x0,x1,x2]) [(6,v1),(7,v2),(8,(Value.int IntKind.i64 0))]) h (blkM 0 (retM P [] K))
theorem quGZ {x0 x1 x2:Value} {h:Heap} (hd:qoeZ x0 x1 x2 h K):callM P qlxZ #[x0,x1,x2] h K :=
 call_of good mixed (fn:=Tryz.f299) (args:=[x0,x1,x2]) Tryz.func299 rfl (by kernel_rfl) (of_decide_eq_true rfl) (B:=qoeZ x0 x1 x2 h K) (by kernel_rfl) hd
def qqCZ (x0 x1:Value) (h:Heap) (K:Value → Heap → Prop):Prop:=ov (binV BinOp.leq 2 false x1 x0) fun v1=>K v1 h
theorem qvkZ {x0 x1:Value} {h:Heap} (hd:qqCZ x0 x1 h K):callM P qlyZ #[x0,x1] h K :=
 call_of good mixed (fn:=Tryz.f300) (args:=[x0,x1]) Tryz.func300 rfl (by kernel_rfl) (of_decide_eq_true rfl) (B:=qqCZ x0 x1 h K) (by kernel_rfl) hd
def qcsZ (v22 v26 v3:Value) (h27:Heap) (K:Value → Heap → Prop):Prop:=ov (bdV (binf P qaZ) [(0,v22),(1,v26)]) fun v28=>stM (some 2) v3 v28 h27 fun h29=>ov (ldV (some (some 2)) v3 h29) fun v30=>K v30 h29
def qctZ (v17:Value) (h21:Heap) (v18 v20 v8 v16 v19 v3:Value) (K:Value → Heap → Prop):Prop:=ldV (some none) v17 h21=some v18∧callM P qasZ #[v20,v8,v16] h21 fun v22 h23=>ldV (some none) v17 h23=some v18∧callM P qdZ #[v18] h23 fun v24 h25=>callM P qapZ #[v24,v8,v19] h25 fun v26 h27=>qcsZ v22 v26 v3 h27 K
def qcuZ (v1:Value) (h7:Heap) (v8 v3:Value) (K:Value → Heap → Prop):Prop:=ov (faV (some 0) v1) fun v14=>ov (ldV (some none) v14 h7) fun v15=>ov (binV BinOp.add 2 true v8 (Value.int IntKind.i64 1)) fun v16=>ov (faV (some 1) v1) fun v17=>ov (ldV (some none) v17 h7) fun v18=>ov (binV BinOp.add 2 true v8 (Value.int IntKind.i64 1)) fun v19=>callM P qoZ #[v15] h7 fun v20 h21=>qctZ v17 h21 v18 v20 v8 v16 v19 v3 K
def qcvZ (v6 v1:Value) (h7:Heap) (v3:Value) (K:Value → Heap → Prop):Prop:=ov (exV v6 0) fun v8=>ov (exV v6 1) fun v9=>ov (unV UnOp.not v9) fun v10=>cdM v10 (ov (ldV (some (some 2)) v1 h7) fun v11=>stM (some 2) v3 v11 h7 fun h12=>ov (ldV (some (some 2)) v3 h12) fun v13=>K v13 h12) (qcuZ v1 h7 v8 v3 K)
def qaFZ (x0 x1:Value) (h:Heap) (K:Value → Heap → Prop):Prop:=nwM (some x0.cells) qaZ h fun v1 h2=>nwM (zc P qaZ) qaZ h2 fun v3 h4=>ov (ldV (some (some 2)) v1 h4) fun v5=>callM P qDZ #[v5,x1] h4 fun v6 h7=>qcvZ v6 v1 h7 v3 K
theorem qiyZ {x0 x1:Value} {h:Heap} (hd:qaFZ x0 x1 h K):callM P qatZ #[x0,x1] h K :=
 call_of good mixed (fn:=Tryz.f301) (args:=[x0,x1]) Tryz.func301 rfl (by kernel_rfl) (of_decide_eq_true rfl) (B:=qaFZ x0 x1 h K) (by kernel_rfl) hd
def qdwZ (v18:Value) (h23:Heap) (v19 v22:Value) (q15:Post) (x0 x1 x2 v1 v3 v5 v7 v8 v10 v11 v20 v21:Value):Prop:=ldV (some none) v18 h23=some v19∧ov (bdV (binf P qaZ) [(0,v19),(1,v22)]) fun v24=>nwM (zc P qaZ) qaZ h23 fun v25 h26=>ldV (some none) v18 h26=some v19∧stM (some 2) v25 v24 h26 fun h27=>q15 .normal [] (puts (envOf [x0,x1,x2]) [(3,v1),(5,v3),(6,v5),(11,v7),(12,x1),(13,v8),(10,v8),(14,v10),(15,v11),(7,v10),(8,v11),(16,v11),(17,v18),(18,v19),(19,v20),(20,v21),(21,v22),(22,v24),(9,v25)]) h27
def qdxZ (v21:Value) (h9:Heap) (v18 v19:Value) (q15:Post) (x0 x1 x2 v1 v3 v5 v7 v8 v10 v11 v20:Value):Prop:=callM P qdZ #[v21] h9 fun v22 h23=>qdwZ v18 h23 v19 v22 q15 x0 x1 x2 v1 v3 v5 v7 v8 v10 v11 v20 v21
def qdyZ (h9:Heap) (v18 v19 v20 v21:Value) (q15:Post) (x0 x1 x2 v1 v3 v5 v7 v8 v10 v11:Value):Prop:=nwM (zc P qaZ) qaZ h9 fun v28 h29=>ldV (some none) v18 h29=some v19∧ldV (some none) v20 h29=some v21∧callM P qdZ #[v21] h29 fun v30 h31=>ldV (some none) v18 h31=some v19∧ov (bdV (binf P qaZ) [(0,v19),(1,v30)]) fun v32=>stM (some 2) v28 v32 h31 fun h33=>q15 .normal [] (puts (envOf [x0,x1,x2]) [(3,v1),(5,v3),(6,v5),(11,v7),(12,x1),(13,v8),(10,v8),(14,v10),(15,v11),(7,v10),(8,v11),(16,v11),(17,v18),(18,v19),(19,v20),(20,v21),(9,v28),(21,v30),(22,v32)]) h33
def qdzZ (v1:Value) (h9:Heap) (q15:Post) (x0 x1 x2 v3 v5 v7 v8 v10 v11:Value):Prop:=ov (faV (some 0) v1) fun v18=>ov (ldV (some none) v18 h9) fun v19=>ov (faV (some 1) v1) fun v20=>ov (ldV (some none) v20 h9) fun v21=>(qdxZ v21 h9 v18 v19 q15 x0 x1 x2 v1 v3 v5 v7 v8 v10 v11 v20)∧(qdyZ h9 v18 v19 v20 v21 q15 x0 x1 x2 v1 v3 v5 v7 v8 v10 v11)
def qaLZ (s16:Env) (h17:Heap) (q12:Post) (m:List Nat):Prop:=ov (faV (some 1) (s16 9)) fun v34=>ov (ldV (some none) v34 h17) fun v35=>ov (ldV (some (some 4)) (s16 5) h17) fun v36=>ov (iaV (some (none,4)) v35 (s16 7)) fun v37=>stM (some 4) v37 v36 h17 fun h38=>ov (ldV (some (some 2)) (s16 9) h38) fun v39=>stM (some 2) (s16 6) v39 h38 fun h40=>q12 .ret m (puts s16 [(23,v34),(24,v35),(25,(s16 7)),(26,v36),(27,v37),(28,v39)]) h40
def qdAZ (v1:Value) (h9:Heap) (x0 x1 x2 v3 v5 v7 v8 v10 v11:Value) (q12:Post):Prop:=seqM (fun q15=>qdzZ v1 h9 q15 x0 x1 x2 v3 v5 v7 v8 v10 v11) (fun m s16 h17=>qaLZ s16 h17 q12 m) q12
def qdBZ (q12:Post) (x0 x1 x2 v1 v3 v5 v7 v8 v10 v11:Value) (h9:Heap):Prop:=q12 .normal [] (puts (envOf [x0,x1,x2]) [(3,v1),(5,v3),(6,v5),(11,v7),(12,x1),(13,v8),(10,v8),(14,v10),(15,v11),(7,v10),(8,v11),(16,v11)]) h9
def qdCZ (v11 v1:Value) (h9:Heap) (x0 x1 x2 v3 v5 v7 v8 v10:Value) (q12:Post):Prop:=cdM v11 (qdAZ v1 h9 x0 x1 x2 v3 v5 v7 v8 v10 v11 q12) (qdBZ q12 x0 x1 x2 v1 v3 v5 v7 v8 v10 v11 h9)
def qcUZ (v53 v59:Value) (s13:Env) (h60:Heap) (q41:Post) (m:List Nat) (v44 v45 v46 v47 v48 v49 v51 v55 v57:Value):Prop:=ov (bdV (binf P qaZ) [(0,v53),(1,v59)]) fun v61=>stM (some 2) (s13 6) v61 h60 fun h62=>q41 .normal m (puts s13 [(29,v44),(30,v45),(32,(s13 7)),(33,(s13 1)),(36,v46),(37,v47),(39,(s13 7)),(40,v48),(31,v49),(34,v51),(35,v53),(38,v55),(41,v57),(42,v59),(43,v61)]) h62
def qcVZ (s13:Env) (h56:Heap) (v48 v55 v53:Value) (q41:Post) (m:List Nat) (v44 v45 v46 v47 v49 v51:Value):Prop:=ldV (some (some 4)) (s13 5) h56=some v48∧bsM (bsI P qeZ) 1 [(0,v48)] h56 fun v57 h58=>callM P qkZ #[v55,(s13 7),v57] h58 fun v59 h60=>qcUZ v53 v59 s13 h60 q41 m v44 v45 v46 v47 v48 v49 v51 v55 v57
def qcWZ (v53 v67:Value) (s13:Env) (h68:Heap) (q41:Post) (m:List Nat) (v44 v45 v46 v47 v48 v49 v51 v63 v65:Value):Prop:=ov (bdV (binf P qaZ) [(0,v53),(1,v67)]) fun v69=>stM (some 2) (s13 6) v69 h68 fun h70=>q41 .normal m (puts s13 [(29,v44),(30,v45),(32,(s13 7)),(33,(s13 1)),(36,v46),(37,v47),(39,(s13 7)),(40,v48),(31,v49),(34,v51),(35,v53),(41,v63),(38,v65),(42,v67),(43,v69)]) h70
def qcXZ (v46:Value) (h54:Heap) (v47:Value) (s13:Env) (v48 v53:Value) (q41:Post) (m:List Nat) (v44 v45 v49 v51:Value):Prop:=ldV (some none) v46 h54=some v47∧ldV (some (some 4)) (s13 5) h54=some v48∧(callM P qdZ #[v47] h54 fun v55 h56=>qcVZ s13 h56 v48 v55 v53 q41 m v44 v45 v46 v47 v49 v51)∧(bsM (bsI P qeZ) 1 [(0,v48)] h54 fun v63 h64=>ldV (some none) v46 h64=some v47∧callM P qdZ #[v47] h64 fun v65 h66=>callM P qkZ #[v65,(s13 7),v63] h66 fun v67 h68=>qcWZ v53 v67 s13 h68 q41 m v44 v45 v46 v47 v48 v49 v51 v63 v65)
def qcYZ (v73 v77:Value) (s13:Env) (h78:Heap) (q41:Post) (m:List Nat) (v44 v45 v46 v47 v48 v49 v51 v71 v75:Value):Prop:=ov (bdV (binf P qaZ) [(0,v73),(1,v77)]) fun v79=>stM (some 2) (s13 6) v79 h78 fun h80=>q41 .normal m (puts s13 [(29,v44),(30,v45),(32,(s13 7)),(33,(s13 1)),(36,v46),(37,v47),(39,(s13 7)),(40,v48),(31,v49),(34,v51),(41,v71),(35,v73),(38,v75),(42,v77),(43,v79)]) h80
def qcZZ (v85 v89:Value) (s13:Env) (h90:Heap) (q41:Post) (m:List Nat) (v44 v45 v46 v47 v48 v49 v81 v83 v87:Value):Prop:=ov (bdV (binf P qaZ) [(0,v85),(1,v89)]) fun v91=>stM (some 2) (s13 6) v91 h90 fun h92=>q41 .normal m (puts s13 [(29,v44),(30,v45),(32,(s13 7)),(33,(s13 1)),(36,v46),(37,v47),(39,(s13 7)),(40,v48),(31,v49),(41,v81),(34,v83),(35,v85),(38,v87),(42,v89),(43,v91)]) h92
def qdaZ (v46:Value) (h50:Heap) (v47:Value) (s13:Env) (v48 v49:Value) (q41:Post) (m:List Nat) (v44 v45:Value):Prop:=ldV (some none) v46 h50=some v47∧ldV (some (some 4)) (s13 5) h50=some v48∧(bsM (bsI P qiZ) 1 [(0,(s13 1))] h50 fun v51 h52=>ldV (some none) v46 h52=some v47∧ldV (some (some 4)) (s13 5) h52=some v48∧(callM P qgZ #[v49,(s13 7),v51] h52 fun v53 h54=>qcXZ v46 h54 v47 s13 v48 v53 q41 m v44 v45 v49 v51)∧(bsM (bsI P qeZ) 1 [(0,v48)] h52 fun v71 h72=>ldV (some none) v46 h72=some v47∧callM P qgZ #[v49,(s13 7),v51] h72 fun v73 h74=>ldV (some none) v46 h74=some v47∧callM P qdZ #[v47] h74 fun v75 h76=>callM P qkZ #[v75,(s13 7),v71] h76 fun v77 h78=>qcYZ v73 v77 s13 h78 q41 m v44 v45 v46 v47 v48 v49 v51 v71 v75))∧(bsM (bsI P qeZ) 1 [(0,v48)] h50 fun v81 h82=>ldV (some none) v46 h82=some v47∧bsM (bsI P qiZ) 1 [(0,(s13 1))] h82 fun v83 h84=>ldV (some none) v46 h84=some v47∧callM P qgZ #[v49,(s13 7),v83] h84 fun v85 h86=>ldV (some none) v46 h86=some v47∧callM P qdZ #[v47] h86 fun v87 h88=>callM P qkZ #[v87,(s13 7),v81] h88 fun v89 h90=>qcZZ v85 v89 s13 h90 q41 m v44 v45 v46 v47 v48 v49 v81 v83 v87)
def qdbZ (v45:Value) (h14:Heap) (v46 v47:Value) (s13:Env) (v48:Value) (q41:Post) (m:List Nat) (v44:Value):Prop:=callM P qoZ #[v45] h14 fun v49 h50=>qdaZ v46 h50 v47 s13 v48 v49 q41 m v44 v45
def qdcZ (v97 v103:Value) (s13:Env) (h104:Heap) (q41:Post) (m:List Nat) (v44 v45 v46 v47 v48 v93 v95 v99 v101:Value):Prop:=ov (bdV (binf P qaZ) [(0,v97),(1,v103)]) fun v105=>stM (some 2) (s13 6) v105 h104 fun h106=>q41 .normal m (puts s13 [(29,v44),(30,v45),(32,(s13 7)),(33,(s13 1)),(36,v46),(37,v47),(39,(s13 7)),(40,v48),(34,v93),(31,v95),(35,v97),(38,v99),(41,v101),(42,v103),(43,v105)]) h106
def qddZ (s13:Env) (h100:Heap) (v48 v99 v97:Value) (q41:Post) (m:List Nat) (v44 v45 v46 v47 v93 v95:Value):Prop:=ldV (some (some 4)) (s13 5) h100=some v48∧bsM (bsI P qeZ) 1 [(0,v48)] h100 fun v101 h102=>callM P qkZ #[v99,(s13 7),v101] h102 fun v103 h104=>qdcZ v97 v103 s13 h104 q41 m v44 v45 v46 v47 v48 v93 v95 v99 v101
def qdeZ (v97 v111:Value) (s13:Env) (h112:Heap) (q41:Post) (m:List Nat) (v44 v45 v46 v47 v48 v93 v95 v107 v109:Value):Prop:=ov (bdV (binf P qaZ) [(0,v97),(1,v111)]) fun v113=>stM (some 2) (s13 6) v113 h112 fun h114=>q41 .normal m (puts s13 [(29,v44),(30,v45),(32,(s13 7)),(33,(s13 1)),(36,v46),(37,v47),(39,(s13 7)),(40,v48),(34,v93),(31,v95),(35,v97),(41,v107),(38,v109),(42,v111),(43,v113)]) h114
def qdfZ (v46:Value) (h98:Heap) (v47:Value) (s13:Env) (v48 v97:Value) (q41:Post) (m:List Nat) (v44 v45 v93 v95:Value):Prop:=ldV (some none) v46 h98=some v47∧ldV (some (some 4)) (s13 5) h98=some v48∧(callM P qdZ #[v47] h98 fun v99 h100=>qddZ s13 h100 v48 v99 v97 q41 m v44 v45 v46 v47 v93 v95)∧(bsM (bsI P qeZ) 1 [(0,v48)] h98 fun v107 h108=>ldV (some none) v46 h108=some v47∧callM P qdZ #[v47] h108 fun v109 h110=>callM P qkZ #[v109,(s13 7),v107] h110 fun v111 h112=>qdeZ v97 v111 s13 h112 q41 m v44 v45 v46 v47 v48 v93 v95 v107 v109)
def qdgZ (v117 v121:Value) (s13:Env) (h122:Heap) (q41:Post) (m:List Nat) (v44 v45 v46 v47 v48 v93 v95 v115 v119:Value):Prop:=ov (bdV (binf P qaZ) [(0,v117),(1,v121)]) fun v123=>stM (some 2) (s13 6) v123 h122 fun h124=>q41 .normal m (puts s13 [(29,v44),(30,v45),(32,(s13 7)),(33,(s13 1)),(36,v46),(37,v47),(39,(s13 7)),(40,v48),(34,v93),(31,v95),(41,v115),(35,v117),(38,v119),(42,v121),(43,v123)]) h124
def qdhZ (v46:Value) (h96:Heap) (v47:Value) (s13:Env) (v48 v95 v93:Value) (q41:Post) (m:List Nat) (v44 v45:Value):Prop:=ldV (some none) v46 h96=some v47∧ldV (some (some 4)) (s13 5) h96=some v48∧(callM P qgZ #[v95,(s13 7),v93] h96 fun v97 h98=>qdfZ v46 h98 v47 s13 v48 v97 q41 m v44 v45 v93 v95)∧(bsM (bsI P qeZ) 1 [(0,v48)] h96 fun v115 h116=>ldV (some none) v46 h116=some v47∧callM P qgZ #[v95,(s13 7),v93] h116 fun v117 h118=>ldV (some none) v46 h118=some v47∧callM P qdZ #[v47] h118 fun v119 h120=>callM P qkZ #[v119,(s13 7),v115] h120 fun v121 h122=>qdgZ v117 v121 s13 h122 q41 m v44 v45 v46 v47 v48 v93 v95 v115 v119)
def qdiZ (v129 v133:Value) (s13:Env) (h134:Heap) (q41:Post) (m:List Nat) (v44 v45 v46 v47 v48 v93 v125 v127 v131:Value):Prop:=ov (bdV (binf P qaZ) [(0,v129),(1,v133)]) fun v135=>stM (some 2) (s13 6) v135 h134 fun h136=>q41 .normal m (puts s13 [(29,v44),(30,v45),(32,(s13 7)),(33,(s13 1)),(36,v46),(37,v47),(39,(s13 7)),(40,v48),(34,v93),(41,v125),(31,v127),(35,v129),(38,v131),(42,v133),(43,v135)]) h136
def qdjZ (s13:Env) (h14:Heap) (v44 v45 v46 v47 v48:Value) (q41:Post) (m:List Nat):Prop:=bsM (bsI P qiZ) 1 [(0,(s13 1))] h14 fun v93 h94=>ldV (some none) v44 h94=some v45∧ldV (some none) v46 h94=some v47∧ldV (some (some 4)) (s13 5) h94=some v48∧(callM P qoZ #[v45] h94 fun v95 h96=>qdhZ v46 h96 v47 s13 v48 v95 v93 q41 m v44 v45)∧(bsM (bsI P qeZ) 1 [(0,v48)] h94 fun v125 h126=>ldV (some none) v44 h126=some v45∧ldV (some none) v46 h126=some v47∧callM P qoZ #[v45] h126 fun v127 h128=>ldV (some none) v46 h128=some v47∧callM P qgZ #[v127,(s13 7),v93] h128 fun v129 h130=>ldV (some none) v46 h130=some v47∧callM P qdZ #[v47] h130 fun v131 h132=>callM P qkZ #[v131,(s13 7),v125] h132 fun v133 h134=>qdiZ v129 v133 s13 h134 q41 m v44 v45 v46 v47 v48 v93 v125 v127 v131)
def qdkZ (v143 v147:Value) (s13:Env) (h148:Heap) (q41:Post) (m:List Nat) (v44 v45 v46 v47 v48 v137 v139 v141 v145:Value):Prop:=ov (bdV (binf P qaZ) [(0,v143),(1,v147)]) fun v149=>stM (some 2) (s13 6) v149 h148 fun h150=>q41 .normal m (puts s13 [(29,v44),(30,v45),(32,(s13 7)),(33,(s13 1)),(36,v46),(37,v47),(39,(s13 7)),(40,v48),(41,v137),(31,v139),(34,v141),(35,v143),(38,v145),(42,v147),(43,v149)]) h150
def qdlZ (v46:Value) (h140:Heap) (v47:Value) (s13:Env) (v139 v137:Value) (q41:Post) (m:List Nat) (v44 v45 v48:Value):Prop:=ldV (some none) v46 h140=some v47∧bsM (bsI P qiZ) 1 [(0,(s13 1))] h140 fun v141 h142=>ldV (some none) v46 h142=some v47∧callM P qgZ #[v139,(s13 7),v141] h142 fun v143 h144=>ldV (some none) v46 h144=some v47∧callM P qdZ #[v47] h144 fun v145 h146=>callM P qkZ #[v145,(s13 7),v137] h146 fun v147 h148=>qdkZ v143 v147 s13 h148 q41 m v44 v45 v46 v47 v48 v137 v139 v141 v145
def qdmZ (v155 v159:Value) (s13:Env) (h160:Heap) (q41:Post) (m:List Nat) (v44 v45 v46 v47 v48 v137 v151 v153 v157:Value):Prop:=ov (bdV (binf P qaZ) [(0,v155),(1,v159)]) fun v161=>stM (some 2) (s13 6) v161 h160 fun h162=>q41 .normal m (puts s13 [(29,v44),(30,v45),(32,(s13 7)),(33,(s13 1)),(36,v46),(37,v47),(39,(s13 7)),(40,v48),(41,v137),(34,v151),(31,v153),(35,v155),(38,v157),(42,v159),(43,v161)]) h162
def qdnZ (v48:Value) (h14:Heap) (v44 v45 v46 v47:Value) (s13:Env) (q41:Post) (m:List Nat):Prop:=bsM (bsI P qeZ) 1 [(0,v48)] h14 fun v137 h138=>ldV (some none) v44 h138=some v45∧ldV (some none) v46 h138=some v47∧(callM P qoZ #[v45] h138 fun v139 h140=>qdlZ v46 h140 v47 s13 v139 v137 q41 m v44 v45 v48)∧(bsM (bsI P qiZ) 1 [(0,(s13 1))] h138 fun v151 h152=>ldV (some none) v44 h152=some v45∧ldV (some none) v46 h152=some v47∧callM P qoZ #[v45] h152 fun v153 h154=>ldV (some none) v46 h154=some v47∧callM P qgZ #[v153,(s13 7),v151] h154 fun v155 h156=>ldV (some none) v46 h156=some v47∧callM P qdZ #[v47] h156 fun v157 h158=>callM P qkZ #[v157,(s13 7),v137] h158 fun v159 h160=>qdmZ v155 v159 s13 h160 q41 m v44 v45 v46 v47 v48 v137 v151 v153 v157)
def qaGZ (s13:Env) (h14:Heap) (q41:Post) (m:List Nat):Prop:=ov (faV (some 0) (s13 3)) fun v44=>ov (ldV (some none) v44 h14) fun v45=>ov (faV (some 1) (s13 3)) fun v46=>ov (ldV (some none) v46 h14) fun v47=>ov (ldV (some (some 4)) (s13 5) h14) fun v48=>(qdbZ v45 h14 v46 v47 s13 v48 q41 m v44)∧(qdjZ s13 h14 v44 v45 v46 v47 v48 q41 m)∧(qdnZ v48 h14 v44 v45 v46 v47 s13 q41 m)
def qaHZ (s13:Env) (h14:Heap) (m:List Nat) (K:Value → Heap → Prop):Prop:=seqM (fun q41=>qaGZ s13 h14 q41 m) (fun m s42 h43=>(retM P [.cell 6 70] K) .ret m s42 h43) (retM P [.cell 6 70] K)
def qdDZ (v8 v1:Value) (h9:Heap) (x0 x1 x2 v3 v5 v7:Value) (K:Value → Heap → Prop):Prop:=ov (exV v8 0) fun v10=>ov (exV v8 1) fun v11=>seqM (fun q12=>qdCZ v11 v1 h9 x0 x1 x2 v3 v5 v7 v8 v10 q12) (fun m s13 h14=>qaHZ s13 h14 m K) (retM P [.cell 6 70] K)
def qbfZ (x0 x1 x2:Value) (h:Heap) (K:Value → Heap → Prop):Prop:=nwM (some x0.cells) qaZ h fun v1 h2=>nwM (some x2.cells) qrZ h2 fun v3 h4=>nwM (zc P qaZ) qaZ h4 fun v5 h6=>ov (ldV (some (some 2)) v1 h6) fun v7=>callM P qDZ #[v7,x1] h6 fun v8 h9=>qdDZ v8 v1 h9 x0 x1 x2 v3 v5 v7 K
theorem qjTZ {x0 x1 x2:Value} {h:Heap} (hd:qbfZ x0 x1 x2 h K):callM P qaQZ #[x0,x1,x2] h K :=
 call_of good mixed (fn:=Tryz.f302) (args:=[x0,x1,x2]) Tryz.func302 rfl (by kernel_rfl) (of_decide_eq_true rfl) (B:=qbfZ x0 x1 x2 h K) (by kernel_rfl) hd
def qaRZ (v18:Value) (h23:Heap) (s8:Env) (q13:Post) (m:List Nat) (v11 v12 v16 v17 v21 v22 v24:Value):Prop:=ov (ldV (some (some 4)) v18 h23) fun v25=>ov (iaV (some (none,4)) (s8 0) (s8 5)) fun v26=>stM (some 4) v26 v25 h23 fun h27=>ov (binV BinOp.add 2 true (s8 5) (Value.int IntKind.i64 1)) fun v28=>q13 .normal m (puts s8 [(16,(s8 6)),(17,(s8 0)),(18,v11),(19,v12),(22,(s8 0)),(23,(s8 6)),(24,v16),(25,v17),(7,v18),(26,(s8 1)),(27,v21),(28,v22),(29,v24),(30,(s8 0)),(31,(s8 5)),(32,v25),(33,v26),(34,(s8 5)),(35,v28),(5,v28)]) h27
def qaSZ (q13:Post) (m:List Nat) (s8:Env) (v11 v12 v16 v17 v18 v21 v22 v24:Value) (h23:Heap):Prop:=q13 .normal m (puts s8 [(16,(s8 6)),(17,(s8 0)),(18,v11),(19,v12),(22,(s8 0)),(23,(s8 6)),(24,v16),(25,v17),(7,v18),(26,(s8 1)),(27,v21),(28,v22),(29,v24)]) h23
def qaTZ (v22 v18:Value) (h23:Heap) (s8:Env) (q13:Post) (m:List Nat) (v11 v12 v16 v17 v21:Value):Prop:=ov (unV UnOp.not v22) fun v24=>cdM v24 (qaRZ v18 h23 s8 q13 m v11 v12 v16 v17 v21 v22 v24) (qaSZ q13 m s8 v11 v12 v16 v17 v18 v21 v22 v24 h23)
def qaUZ (s8:Env) (h9:Heap) (q13:Post) (m:List Nat) (v11 v12:Value):Prop:=ov (iaV (some (none,4)) (s8 0) (s8 6)) fun v16=>ov (ldV (some (some 4)) v16 h9) fun v17=>nwM (zc P qfZ) qfZ h9 fun v18 h19=>stM (some 4) v18 v17 h19 fun h20=>ov (ldV (some (some 4)) v18 h20) fun v21=>nxM P (do let d ← Deferred.ofValue (s8 1) #[v21] ; invoke d.target d.args) h20 fun v22 h23=>qaTZ v22 v18 h23 s8 q13 m v11 v12 v16 v17 v21
def qaVZ (s8:Env) (h9:Heap) (m:List Nat) (v11 v12:Value) (q10:Post):Prop:=seqM (fun q13=>qaUZ s8 h9 q13 m v11 v12) (fun m s14 h15=>ov (binV BinOp.add 2 true (s14 6) (Value.int IntKind.i64 1)) fun v29=>q10 .normal m (puts s14 [(20,(s14 6)),(21,v29),(6,v29)]) h15) q10
def qaWZ (s8:Env) (h9:Heap) (m:List Nat) (q10:Post):Prop:=ov (lnV 7 (s8 0)) fun v11=>ov (binV BinOp.lss 2 false (s8 6) v11) fun v12=>cdM v12 (qaVZ s8 h9 m v11 v12 q10) (q10 (.exit 0) m (puts s8 [(16,(s8 6)),(17,(s8 0)),(18,v11),(19,v12)]) h9)
def qaXZ (v1 x0 x1 v3:Value) (h2:Heap) (q4:Post):Prop:=ov (binV BinOp.add 2 true v1 (Value.int IntKind.i64 1)) fun v7=>loopM (fun m s8 h9 q10=>qaWZ s8 h9 m q10) [] (puts (envOf [x0,x1]) [(4,(Value.slice none 0 0)),(8,x0),(9,x1),(10,v1),(5,v1),(11,v1),(12,v3),(14,v1),(15,v7),(6,v7)]) h2 (blkM 0 q4)
def qaMZ (s5:Env) (K:Value → Heap → Prop) (m:List Nat) (v30:Value) (h32:Heap):Prop:=ov (slV (some (none,4)) (s5 0) none (some (s5 5))) fun v33=>(retM P [.tmp 4] K) .ret m (puts s5 [(36,(s5 0)),(37,(s5 5)),(38,v30),(39,(s5 0)),(40,(s5 5)),(41,v33),(4,v33)]) h32
def qaNZ (s5:Env) (h6:Heap) (K:Value → Heap → Prop) (m:List Nat):Prop:=ov (slV (some (none,4)) (s5 0) (some (s5 5)) none) fun v30=>vvM P (Builtin.clear_ #[qhZ] qpCZ #[v30]) h6 fun v31 h32=>qaMZ s5 K m v30 h32
def qaYZ (v1 x0 x1 v3:Value) (h2:Heap) (K:Value → Heap → Prop):Prop:=seqM (fun q4=>qaXZ v1 x0 x1 v3 h2 q4) (fun m s5 h6=>qaNZ s5 h6 K m) (retM P [.tmp 4] K)
def qaZZ (v1:Value) (K:Value → Heap → Prop) (x0:Value) (h2:Heap) (x1:Value):Prop:=ov (binV BinOp.eql 2 true v1 (Value.int IntKind.i64 (-1))) fun v3=>cdM v3 (K x0 h2) (qaYZ v1 x0 x1 v3 h2 K)
def qPZ (x0 x1:Value) (h:Heap) (K:Value → Heap → Prop):Prop:=callM P qOZ #[x0,x1] h fun v1 h2=>qaZZ v1 K x0 h2 x1
theorem qfIZ {x0 x1:Value} {h:Heap} (hd:qPZ x0 x1 h K):callM P qMZ #[x0,x1] h K :=
 call_of good mixed (fn:=Tryz.f303) (args:=[x0,x1]) Tryz.func303 rfl (by kernel_rfl) (of_decide_eq_true rfl) (B:=qPZ x0 x1 h K) (by kernel_rfl) hd
end Go.Proofs.YtcnphhhcknhhaaaGreat
namespace Go.Proofs.YtcnphhhcknhhaaaGreat
open Go Go.Den
set_option maxRecDepth 100000
set_option linter.unusedVariables false
def qbOZ (h:Heap) (x0:Value) (K:Value → Heap → Prop):Prop:=bsM (bsI P qhZ) 0 [] h fun v2 h3=>vvM P (Builtin.append_ #[qhZ,qhZ] qhZ #[v2,x0]) h3 fun v4 h5=>K v4 h5
def qaqZ (x0:Value) (h:Heap) (K:Value → Heap → Prop):Prop:=ov (binV BinOp.eql 7 true x0 (Value.slice none 0 0)) fun v1=>cdM v1 (K (Value.slice none 0 0) h) (qbOZ h x0 K)
variable {K:Value → Heap → Prop}
theorem qhKZ {x0:Value} {h:Heap} (hd:qaqZ x0 h K):callM P qwZ #[x0] h K :=
 call_of good mixed (fn:=Tryz.f304) (args:=[x0]) Tryz.func304 rfl (by kernel_rfl) (of_decide_eq_true rfl) (B:=qaqZ x0 h K) (by kernel_rfl) hd
def qmkZ (x0 x1:Value) (h:Heap) (K:Value → Heap → Prop):Prop:=nwM (some x0.cells) qfZ h fun v1 h2=>ov (ldV (some none) x1 h2) fun v3=>ov (faV (some 3) v1) fun v4=>ov (ldV (some none) v4 h2) fun v5=>callM P qlyZ #[v3,v5] h2 fun v6 h7=>K v6 h7
theorem quBZ {x0 x1:Value} {h:Heap} (hd:qmkZ x0 x1 h K):callM P qaBZ #[x0,x1] h K :=
 call_of good mixed (fn:=Tryz.f305) (args:=[x0,x1]) Tryz.func305 rfl (by kernel_rfl) (of_decide_eq_true rfl) (B:=qmkZ x0 x1 h K) (by kernel_rfl) hd
def qeJZ (v7 v4:Value) (h8:Heap) (K:Value → Heap → Prop):Prop:=ov (lnV 7 v7) fun v9=>ov (slV (some (none,1)) v7 (some v9) (some v4)) fun v10=>vvM P (Builtin.clear_ #[qiZ] qpCZ #[v10]) h8 fun v11 h12=>K v7 h12
def qeKZ (x0 x1 x2:Value) (h:Heap) (K:Value → Heap → Prop):Prop:=ov (lnV 7 x0) fun v4=>ov (slV (some (none,1)) x0 none (some x1)) fun v5=>ov (slV (some (none,1)) x0 (some x2) none) fun v6=>vvM P (Builtin.append_ #[qiZ,qiZ] qiZ #[v5,v6]) h fun v7 h8=>qeJZ v7 v4 h8 K
def qclZ (x0 x1 x2:Value) (h:Heap) (K:Value → Heap → Prop):Prop:=ov (lnV 7 x0) fun v1=>ov (sl3V (some (none,1)) x0 (some x1) x2 v1) fun v2=>ov (binV BinOp.eql 2 false x1 x2) fun v3=>cdM v3 (K x0 h) (qeKZ x0 x1 x2 h K)
theorem qmoZ {x0 x1 x2:Value} {h:Heap} (hd:qclZ x0 x1 x2 h K):callM P qasZ #[x0,x1,x2] h K :=
 call_of good mixed (fn:=Tryz.f306) (args:=[x0,x1,x2]) Tryz.func306 rfl (by kernel_rfl) (of_decide_eq_true rfl) (B:=qclZ x0 x1 x2 h K) (by kernel_rfl) hd
def qcBZ (x0:Value) (h:Heap) (K:Value → Heap → Prop):Prop:=ov (binV BinOp.eql 7 true x0 (Value.slice none 0 0)) fun v1=>cdM v1 (K (Value.slice none 0 0) h) (bsM (bsI P qiZ) 0 [] h fun v2 h3=>vvM P (Builtin.append_ #[qiZ,qiZ] qiZ #[v2,x0]) h3 fun v4 h5=>K v4 h5)
theorem qofZ {x0:Value} {h:Heap} (hd:qcBZ x0 h K):callM P qoZ #[x0] h K :=
 call_of good mixed (fn:=Tryz.f307) (args:=[x0]) Tryz.func307 rfl (by kernel_rfl) (of_decide_eq_true rfl) (B:=qcBZ x0 h K) (by kernel_rfl) hd
def qeLZ (v7 v4:Value) (h8:Heap) (K:Value → Heap → Prop):Prop:=ov (lnV 7 v7) fun v9=>ov (slV (some (none,1)) v7 (some v9) (some v4)) fun v10=>vvM P (Builtin.clear_ #[qnZ] qpCZ #[v10]) h8 fun v11 h12=>K v7 h12
def qeMZ (x0 x1 x2:Value) (h:Heap) (K:Value → Heap → Prop):Prop:=ov (lnV 7 x0) fun v4=>ov (slV (some (none,1)) x0 none (some x1)) fun v5=>ov (slV (some (none,1)) x0 (some x2) none) fun v6=>vvM P (Builtin.append_ #[qnZ,qnZ] qnZ #[v5,v6]) h fun v7 h8=>qeLZ v7 v4 h8 K
def qcmZ (x0 x1 x2:Value) (h:Heap) (K:Value → Heap → Prop):Prop:=ov (lnV 7 x0) fun v1=>ov (sl3V (some (none,1)) x0 (some x1) x2 v1) fun v2=>ov (binV BinOp.eql 2 false x1 x2) fun v3=>cdM v3 (K x0 h) (qeMZ x0 x1 x2 h K)
theorem qmpZ {x0 x1 x2:Value} {h:Heap} (hd:qcmZ x0 x1 x2 h K):callM P qbLZ #[x0,x1,x2] h K :=
 call_of good mixed (fn:=Tryz.f308) (args:=[x0,x1,x2]) Tryz.func308 rfl (by kernel_rfl) (of_decide_eq_true rfl) (B:=qcmZ x0 x1 x2 h K) (by kernel_rfl) hd
def qcCZ (x0:Value) (h:Heap) (K:Value → Heap → Prop):Prop:=ov (binV BinOp.eql 7 true x0 (Value.slice none 0 0)) fun v1=>cdM v1 (K (Value.slice none 0 0) h) (bsM (bsI P qnZ) 0 [] h fun v2 h3=>vvM P (Builtin.append_ #[qnZ,qnZ] qnZ #[v2,x0]) h3 fun v4 h5=>K v4 h5)
theorem qogZ {x0:Value} {h:Heap} (hd:qcCZ x0 h K):callM P qmZ #[x0] h K :=
 call_of good mixed (fn:=Tryz.f309) (args:=[x0]) Tryz.func309 rfl (by kernel_rfl) (of_decide_eq_true rfl) (B:=qcCZ x0 h K) (by kernel_rfl) hd
def qeNZ (x1 v2 v15 x0:Value) (h19:Heap) (K:Value → Heap → Prop):Prop:=ov (binV BinOp.add 2 false x1 v2) fun v20=>ov (slV (some (none,1)) v15 (some v20) none) fun v21=>ov (slV (some (none,1)) x0 (some x1) none) fun v22=>vvM P (Builtin.copy_ #[qiZ,qiZ] qjZ #[v21,v22]) h19 fun v23 h24=>K v15 h24
def qeOZ (v15 x1 x2:Value) (h16:Heap) (v2 x0:Value) (K:Value → Heap → Prop):Prop:=ov (slV (some (none,1)) v15 (some x1) none) fun v17=>vvM P (Builtin.copy_ #[qiZ,qiZ] qjZ #[v17,x2]) h16 fun v18 h19=>qeNZ x1 v2 v15 x0 h19 K
def qePZ (x0 x1 v4 v2:Value) (h10:Heap) (x2:Value) (K:Value → Heap → Prop):Prop:=ov (slV (some (none,1)) x0 none (some x1)) fun v12=>ov (binV BinOp.add 2 false v4 v2) fun v13=>ov (binV BinOp.sub 2 false v13 x1) fun v14=>vvM P (Builtin.append_ #[qiZ,qjZ] qiZ #[v12,v14]) h10 fun v15 h16=>qeOZ v15 x1 x2 h16 v2 x0 K
def qeQZ (x1 v2 v26:Value) (h30:Heap) (x2:Value) (K:Value → Heap → Prop):Prop:=ov (binV BinOp.add 2 false x1 v2) fun v32=>ov (slV (some (none,1)) v26 (some v32) none) fun v33=>ov (slV (some (none,1)) v26 (some x1) none) fun v34=>vvM P (Builtin.copy_ #[qiZ,qiZ] qjZ #[v33,v34]) h30 fun v35 h36=>ov (slV (some (none,1)) v26 (some x1) none) fun v37=>vvM P (Builtin.copy_ #[qiZ,qiZ] qjZ #[v37,x2]) h36 fun v38 h39=>K v26 h39
def qeuZ (v26 v4 x2:Value) (h30:Heap) (x1 v2:Value) (K:Value → Heap → Prop):Prop:=ov (slV (some (none,1)) v26 (some v4) none) fun v40=>vvM P (Builtin.copy_ #[qiZ,qiZ] qjZ #[v40,x2]) h30 fun v41 h42=>ov (slV (some (none,1)) v26 (some x1) none) fun v43=>callM P qnUZ #[v43,v2] h42 fun v44 h45=>K v26 h45
def qeRZ (v29 x1 v2 v26:Value) (h30:Heap) (x2:Value) (K:Value → Heap → Prop) (v4:Value):Prop:=ov (unV UnOp.not v29) fun v31=>cdM v31 (qeQZ x1 v2 v26 h30 x2 K) (qeuZ v26 v4 x2 h30 x1 v2 K)
def qeSZ (v4 v2 x0 x1 x2:Value) (h10:Heap) (K:Value → Heap → Prop):Prop:=ov (binV BinOp.add 2 false v4 v2) fun v25=>ov (slV (some (none,1)) x0 none (some v25)) fun v26=>ov (binV BinOp.add 2 false x1 v2) fun v27=>ov (slV (some (none,1)) v26 (some v27) none) fun v28=>nxM P (callFunc qhMZ #[x2,v28]) h10 fun v29 h30=>qeRZ v29 x1 v2 v26 h30 x2 K v4
def qeTZ (v8 v9 x0 x1 v4 v2:Value) (h10:Heap) (x2:Value) (K:Value → Heap → Prop):Prop:=ov (binV BinOp.gtr 2 false v8 v9) fun v11=>cdM v11 (qePZ x0 x1 v4 v2 h10 x2 K) (qeSZ v4 v2 x0 x1 x2 h10 K)
def qeUZ (v4 v2 x0:Value) (h:Heap) (x1 x2:Value) (K:Value → Heap → Prop):Prop:=ov (binV BinOp.add 2 false v4 v2) fun v8=>vvM P (Builtin.cap_ #[qiZ] qjZ #[x0]) h fun v9 h10=>qeTZ v8 v9 x0 x1 v4 v2 h10 x2 K
def qeVZ (x0 x1 x2:Value) (h:Heap) (K:Value → Heap → Prop) (v2:Value):Prop:=ov (lnV 7 x0) fun v4=>ov (binV BinOp.eql 2 false x1 v4) fun v5=>cdM v5 (vvM P (Builtin.append_ #[qiZ,qiZ] qiZ #[x0,x2]) h fun v6 h7=>K v6 h7) (qeUZ v4 v2 x0 h x1 x2 K)
def qcnZ (x0 x1 x2:Value) (h:Heap) (K:Value → Heap → Prop):Prop:=ov (slV (some (none,1)) x0 (some x1) none) fun v1=>ov (lnV 7 x2) fun v2=>ov (binV BinOp.eql 2 true v2 (Value.int IntKind.i64 0)) fun v3=>cdM v3 (K x0 h) (qeVZ x0 x1 x2 h K v2)
theorem qmqZ {x0 x1 x2:Value} {h:Heap} (hd:qcnZ x0 x1 x2 h K):callM P qgZ #[x0,x1,x2] h K :=
 call_of good mixed (fn:=Tryz.f310) (args:=[x0,x1,x2]) Tryz.func310 rfl (by kernel_rfl) (of_decide_eq_true rfl) (B:=qcnZ x0 x1 x2 h K) (by kernel_rfl) hd
def qeWZ (x1 v2 v15 x0:Value) (h19:Heap) (K:Value → Heap → Prop):Prop:=ov (binV BinOp.add 2 false x1 v2) fun v20=>ov (slV (some (none,1)) v15 (some v20) none) fun v21=>ov (slV (some (none,1)) x0 (some x1) none) fun v22=>vvM P (Builtin.copy_ #[qnZ,qnZ] qjZ #[v21,v22]) h19 fun v23 h24=>K v15 h24
def qeXZ (v15 x1 x2:Value) (h16:Heap) (v2 x0:Value) (K:Value → Heap → Prop):Prop:=ov (slV (some (none,1)) v15 (some x1) none) fun v17=>vvM P (Builtin.copy_ #[qnZ,qnZ] qjZ #[v17,x2]) h16 fun v18 h19=>qeWZ x1 v2 v15 x0 h19 K
def qeYZ (x0 x1 v4 v2:Value) (h10:Heap) (x2:Value) (K:Value → Heap → Prop):Prop:=ov (slV (some (none,1)) x0 none (some x1)) fun v12=>ov (binV BinOp.add 2 false v4 v2) fun v13=>ov (binV BinOp.sub 2 false v13 x1) fun v14=>vvM P (Builtin.append_ #[qnZ,qjZ] qnZ #[v12,v14]) h10 fun v15 h16=>qeXZ v15 x1 x2 h16 v2 x0 K
def qeZZ (x1 v2 v26:Value) (h30:Heap) (x2:Value) (K:Value → Heap → Prop):Prop:=ov (binV BinOp.add 2 false x1 v2) fun v32=>ov (slV (some (none,1)) v26 (some v32) none) fun v33=>ov (slV (some (none,1)) v26 (some x1) none) fun v34=>vvM P (Builtin.copy_ #[qnZ,qnZ] qjZ #[v33,v34]) h30 fun v35 h36=>ov (slV (some (none,1)) v26 (some x1) none) fun v37=>vvM P (Builtin.copy_ #[qnZ,qnZ] qjZ #[v37,x2]) h36 fun v38 h39=>K v26 h39
def qevZ (v26 v4 x2:Value) (h30:Heap) (x1 v2:Value) (K:Value → Heap → Prop):Prop:=ov (slV (some (none,1)) v26 (some v4) none) fun v40=>vvM P (Builtin.copy_ #[qnZ,qnZ] qjZ #[v40,x2]) h30 fun v41 h42=>ov (slV (some (none,1)) v26 (some x1) none) fun v43=>callM P qnVZ #[v43,v2] h42 fun v44 h45=>K v26 h45
def qfaZ (v29 x1 v2 v26:Value) (h30:Heap) (x2:Value) (K:Value → Heap → Prop) (v4:Value):Prop:=ov (unV UnOp.not v29) fun v31=>cdM v31 (qeZZ x1 v2 v26 h30 x2 K) (qevZ v26 v4 x2 h30 x1 v2 K)
def qfbZ (v4 v2 x0 x1 x2:Value) (h10:Heap) (K:Value → Heap → Prop):Prop:=ov (binV BinOp.add 2 false v4 v2) fun v25=>ov (slV (some (none,1)) x0 none (some v25)) fun v26=>ov (binV BinOp.add 2 false x1 v2) fun v27=>ov (slV (some (none,1)) v26 (some v27) none) fun v28=>nxM P (callFunc qhNZ #[x2,v28]) h10 fun v29 h30=>qfaZ v29 x1 v2 v26 h30 x2 K v4
def qfcZ (v8 v9 x0 x1 v4 v2:Value) (h10:Heap) (x2:Value) (K:Value → Heap → Prop):Prop:=ov (binV BinOp.gtr 2 false v8 v9) fun v11=>cdM v11 (qeYZ x0 x1 v4 v2 h10 x2 K) (qfbZ v4 v2 x0 x1 x2 h10 K)
def qfdZ (v4 v2 x0:Value) (h:Heap) (x1 x2:Value) (K:Value → Heap → Prop):Prop:=ov (binV BinOp.add 2 false v4 v2) fun v8=>vvM P (Builtin.cap_ #[qnZ] qjZ #[x0]) h fun v9 h10=>qfcZ v8 v9 x0 x1 v4 v2 h10 x2 K
def qfeZ (x0 x1 x2:Value) (h:Heap) (K:Value → Heap → Prop) (v2:Value):Prop:=ov (lnV 7 x0) fun v4=>ov (binV BinOp.eql 2 false x1 v4) fun v5=>cdM v5 (vvM P (Builtin.append_ #[qnZ,qnZ] qnZ #[x0,x2]) h fun v6 h7=>K v6 h7) (qfdZ v4 v2 x0 h x1 x2 K)
def qcoZ (x0 x1 x2:Value) (h:Heap) (K:Value → Heap → Prop):Prop:=ov (slV (some (none,1)) x0 (some x1) none) fun v1=>ov (lnV 7 x2) fun v2=>ov (binV BinOp.eql 2 true v2 (Value.int IntKind.i64 0)) fun v3=>cdM v3 (K x0 h) (qfeZ x0 x1 x2 h K v2)
theorem qmrZ {x0 x1 x2:Value} {h:Heap} (hd:qcoZ x0 x1 x2 h K):callM P qpZ #[x0,x1,x2] h K :=
 call_of good mixed (fn:=Tryz.f311) (args:=[x0,x1,x2]) Tryz.func311 rfl (by kernel_rfl) (of_decide_eq_true rfl) (B:=qcoZ x0 x1 x2 h K) (by kernel_rfl) hd
def qqDZ (x0 x1:Value) (h:Heap) (K:Value → Heap → Prop):Prop:=callM P qacZ #[x0,x1,(.func (.func qfpZ) #[] #[])] h fun v1 h2=>ov (exV v1 0) fun v3=>ov (exV v1 1) fun v4=>K (.tuple #[v3,v4]) h2
theorem qvlZ {x0 x1:Value} {h:Heap} (hd:qqDZ x0 x1 h K):callM P qidZ #[x0,x1] h K :=
 call_of good mixed (fn:=Tryz.f312) (args:=[x0,x1]) Tryz.func312 rfl (by kernel_rfl) (of_decide_eq_true rfl) (B:=qqDZ x0 x1 h K) (by kernel_rfl) hd
def qbAZ (x1 v2 v15 x0:Value) (h19:Heap) (K:Value → Heap → Prop):Prop:=ov (binV BinOp.add 2 false x1 v2) fun v20=>ov (slV (some (none,4)) v15 (some v20) none) fun v21=>ov (slV (some (none,4)) x0 (some x1) none) fun v22=>vvM P (Builtin.copy_ #[qhZ,qhZ] qjZ #[v21,v22]) h19 fun v23 h24=>K v15 h24
def qbBZ (v15 x1 x2:Value) (h16:Heap) (v2 x0:Value) (K:Value → Heap → Prop):Prop:=ov (slV (some (none,4)) v15 (some x1) none) fun v17=>vvM P (Builtin.copy_ #[qhZ,qhZ] qjZ #[v17,x2]) h16 fun v18 h19=>qbAZ x1 v2 v15 x0 h19 K
def qbCZ (x0 x1 v4 v2:Value) (h10:Heap) (x2:Value) (K:Value → Heap → Prop):Prop:=ov (slV (some (none,4)) x0 none (some x1)) fun v12=>ov (binV BinOp.add 2 false v4 v2) fun v13=>ov (binV BinOp.sub 2 false v13 x1) fun v14=>vvM P (Builtin.append_ #[qhZ,qjZ] qhZ #[v12,v14]) h10 fun v15 h16=>qbBZ v15 x1 x2 h16 v2 x0 K
def qbwZ (v26 x1 x2:Value) (h36:Heap) (K:Value → Heap → Prop):Prop:=ov (slV (some (none,4)) v26 (some x1) none) fun v37=>vvM P (Builtin.copy_ #[qhZ,qhZ] qjZ #[v37,x2]) h36 fun v38 h39=>K v26 h39
def qbDZ (x1 v2 v26:Value) (h30:Heap) (x2:Value) (K:Value → Heap → Prop):Prop:=ov (binV BinOp.add 2 false x1 v2) fun v32=>ov (slV (some (none,4)) v26 (some v32) none) fun v33=>ov (slV (some (none,4)) v26 (some x1) none) fun v34=>vvM P (Builtin.copy_ #[qhZ,qhZ] qjZ #[v33,v34]) h30 fun v35 h36=>qbwZ v26 x1 x2 h36 K
def qfYZ (v26 v4 x2:Value) (h30:Heap) (x1 v2:Value) (K:Value → Heap → Prop):Prop:=ov (slV (some (none,4)) v26 (some v4) none) fun v40=>vvM P (Builtin.copy_ #[qhZ,qhZ] qjZ #[v40,x2]) h30 fun v41 h42=>ov (slV (some (none,4)) v26 (some x1) none) fun v43=>callM P qjkZ #[v43,v2] h42 fun v44 h45=>K v26 h45
def qbEZ (v29 x1 v2 v26:Value) (h30:Heap) (x2:Value) (K:Value → Heap → Prop) (v4:Value):Prop:=ov (unV UnOp.not v29) fun v31=>cdM v31 (qbDZ x1 v2 v26 h30 x2 K) (qfYZ v26 v4 x2 h30 x1 v2 K)
def qbFZ (v4 v2 x0 x1 x2:Value) (h10:Heap) (K:Value → Heap → Prop):Prop:=ov (binV BinOp.add 2 false v4 v2) fun v25=>ov (slV (some (none,4)) x0 none (some v25)) fun v26=>ov (binV BinOp.add 2 false x1 v2) fun v27=>ov (slV (some (none,4)) v26 (some v27) none) fun v28=>nxM P (callFunc qfqZ #[x2,v28]) h10 fun v29 h30=>qbEZ v29 x1 v2 v26 h30 x2 K v4
def qbGZ (v8 v9 x0 x1 v4 v2:Value) (h10:Heap) (x2:Value) (K:Value → Heap → Prop):Prop:=ov (binV BinOp.gtr 2 false v8 v9) fun v11=>cdM v11 (qbCZ x0 x1 v4 v2 h10 x2 K) (qbFZ v4 v2 x0 x1 x2 h10 K)
def qbHZ (v4 v2 x0:Value) (h:Heap) (x1 x2:Value) (K:Value → Heap → Prop):Prop:=ov (binV BinOp.add 2 false v4 v2) fun v8=>vvM P (Builtin.cap_ #[qhZ] qjZ #[x0]) h fun v9 h10=>qbGZ v8 v9 x0 x1 v4 v2 h10 x2 K
def qbIZ (x0 x1 x2:Value) (h:Heap) (K:Value → Heap → Prop) (v2:Value):Prop:=ov (lnV 7 x0) fun v4=>ov (binV BinOp.eql 2 false x1 v4) fun v5=>cdM v5 (vvM P (Builtin.append_ #[qhZ,qhZ] qhZ #[x0,x2]) h fun v6 h7=>K v6 h7) (qbHZ v4 v2 x0 h x1 x2 K)
def qaiZ (x0 x1 x2:Value) (h:Heap) (K:Value → Heap → Prop):Prop:=ov (slV (some (none,4)) x0 (some x1) none) fun v1=>ov (lnV 7 x2) fun v2=>ov (binV BinOp.eql 2 true v2 (Value.int IntKind.i64 0)) fun v3=>cdM v3 (K x0 h) (qbIZ x0 x1 x2 h K v2)
theorem qgYZ {x0 x1 x2:Value} {h:Heap} (hd:qaiZ x0 x1 x2 h K):callM P qafZ #[x0,x1,x2] h K :=
 call_of good mixed (fn:=Tryz.f313) (args:=[x0,x1,x2]) Tryz.func313 rfl (by kernel_rfl) (of_decide_eq_true rfl) (B:=qaiZ x0 x1 x2 h K) (by kernel_rfl) hd
def qbJZ (v7 v4:Value) (h8:Heap) (K:Value → Heap → Prop):Prop:=ov (lnV 7 v7) fun v9=>ov (slV (some (none,4)) v7 (some v9) (some v4)) fun v10=>vvM P (Builtin.clear_ #[qhZ] qpCZ #[v10]) h8 fun v11 h12=>K v7 h12
def qbKZ (x0 x1 x2:Value) (h:Heap) (K:Value → Heap → Prop):Prop:=ov (lnV 7 x0) fun v4=>ov (slV (some (none,4)) x0 none (some x1)) fun v5=>ov (slV (some (none,4)) x0 (some x2) none) fun v6=>vvM P (Builtin.append_ #[qhZ,qhZ] qhZ #[v5,v6]) h fun v7 h8=>qbJZ v7 v4 h8 K
def qajZ (x0 x1 x2:Value) (h:Heap) (K:Value → Heap → Prop):Prop:=ov (lnV 7 x0) fun v1=>ov (sl3V (some (none,4)) x0 (some x1) x2 v1) fun v2=>ov (binV BinOp.eql 2 false x1 x2) fun v3=>cdM v3 (K x0 h) (qbKZ x0 x1 x2 h K)
theorem qgZZ {x0 x1 x2:Value} {h:Heap} (hd:qajZ x0 x1 x2 h K):callM P qagZ #[x0,x1,x2] h K :=
 call_of good mixed (fn:=Tryz.f314) (args:=[x0,x1,x2]) Tryz.func314 rfl (by kernel_rfl) (of_decide_eq_true rfl) (B:=qajZ x0 x1 x2 h K) (by kernel_rfl) hd
def qdTZ (x0:Value) (h:Heap) (K:Value → Heap → Prop):Prop:=nwM (some x0.cells) qRZ h fun v1 h2=>ov ((some (.func (Fn.func qciZ) #[] #[v1]):Option Value)) fun v3=>K v3 h2
theorem qpBZ {x0:Value} {h:Heap} (hd:qdTZ x0 h K):callM P qgXZ #[x0] h K :=
 call_of good mixed (fn:=Tryz.f315) (args:=[x0]) Tryz.func315 rfl (by kernel_rfl) (of_decide_eq_true rfl) (B:=qdTZ x0 h K) (by kernel_rfl) hd
def qnNZ (v1 x1:Value) (h2:Heap) (x0:Value) (K:Value → Heap → Prop):Prop:=gM (isB v1 true) (fun k5=>k5 x1 h2) h2 fun v3 h4=>gM (isB v1 true) (fun k8=>callM P qeAZ #[v3] h4 fun v9 h10=>k8 v9 h10) h4 fun v6 h7=>gM (isB v1 true) (fun k13=>ov (unV UnOp.not v6) fun v14=>k13 v14 h7) h7 fun v11 h12=>ov (pkV v1 v11 (Value.bool false)) fun v15=>gM (isB v15 false) (fun k18=>k18 x0 h12) h12 fun v16 h17=>gM (isB v15 false) (fun k21=>k21 x1 h17) h17 fun v19 h20=>gM (isB v15 false) (fun k24=>ov (binV BinOp.lss 3 false v16 v19) fun v25=>k24 v25 h20) h20 fun v22 h23=>ov (pkV v15 (Value.bool true) v22) fun v26=>K v26 h23
def qjiZ (x0 x1:Value) (h:Heap) (K:Value → Heap → Prop):Prop:=callM P qeAZ #[x0] h fun v1 h2=>qnNZ v1 x1 h2 x0 K
theorem qtXZ {x0 x1:Value} {h:Heap} (hd:qjiZ x0 x1 h K):callM P qieZ #[x0,x1] h K :=
 call_of good mixed (fn:=Tryz.f316) (args:=[x0,x1]) Tryz.func316 rfl (by kernel_rfl) (of_decide_eq_true rfl) (B:=qjiZ x0 x1 h K) (by kernel_rfl) hd
def qfZZ (x0:Value) (h:Heap) (K:Value → Heap → Prop):Prop:=ov (binV BinOp.neq 3 false x0 x0) fun v1=>K v1 h
theorem qruZ {x0:Value} {h:Heap} (hd:qfZZ x0 h K):callM P qcQZ #[x0] h K :=
 call_of good mixed (fn:=Tryz.f317) (args:=[x0]) Tryz.func317 rfl (by kernel_rfl) (of_decide_eq_true rfl) (B:=qfZZ x0 h K) (by kernel_rfl) hd
def qbWZ (v7 v4:Value) (h8:Heap) (K:Value → Heap → Prop):Prop:=ov (lnV 7 v7) fun v9=>ov (slV (some (none,4)) v7 (some v9) (some v4)) fun v10=>vvM P (Builtin.clear_ #[qeZ] qpCZ #[v10]) h8 fun v11 h12=>K v7 h12
def qbXZ (x0 x1 x2:Value) (h:Heap) (K:Value → Heap → Prop):Prop:=ov (lnV 7 x0) fun v4=>ov (slV (some (none,4)) x0 none (some x1)) fun v5=>ov (slV (some (none,4)) x0 (some x2) none) fun v6=>vvM P (Builtin.append_ #[qeZ,qeZ] qeZ #[v5,v6]) h fun v7 h8=>qbWZ v7 v4 h8 K
def qavZ (x0 x1 x2:Value) (h:Heap) (K:Value → Heap → Prop):Prop:=ov (lnV 7 x0) fun v1=>ov (sl3V (some (none,4)) x0 (some x1) x2 v1) fun v2=>ov (binV BinOp.eql 2 false x1 x2) fun v3=>cdM v3 (K x0 h) (qbXZ x0 x1 x2 h K)
theorem qhOZ {x0 x1 x2:Value} {h:Heap} (hd:qavZ x0 x1 x2 h K):callM P qapZ #[x0,x1,x2] h K :=
 call_of good mixed (fn:=Tryz.f318) (args:=[x0,x1,x2]) Tryz.func318 rfl (by kernel_rfl) (of_decide_eq_true rfl) (B:=qavZ x0 x1 x2 h K) (by kernel_rfl) hd
def qcwZ (h:Heap) (x0:Value) (K:Value → Heap → Prop):Prop:=bsM (bsI P qeZ) 0 [] h fun v2 h3=>vvM P (Builtin.append_ #[qeZ,qeZ] qeZ #[v2,x0]) h3 fun v4 h5=>K v4 h5
def qaIZ (x0:Value) (h:Heap) (K:Value → Heap → Prop):Prop:=ov (binV BinOp.eql 7 true x0 (Value.slice none 0 0)) fun v1=>cdM v1 (K (Value.slice none 0 0) h) (qcwZ h x0 K)
theorem qizZ {x0:Value} {h:Heap} (hd:qaIZ x0 h K):callM P qdZ #[x0] h K :=
 call_of good mixed (fn:=Tryz.f319) (args:=[x0]) Tryz.func319 rfl (by kernel_rfl) (of_decide_eq_true rfl) (B:=qaIZ x0 h K) (by kernel_rfl) hd
def qbYZ (x1 v2 v15 x0:Value) (h19:Heap) (K:Value → Heap → Prop):Prop:=ov (binV BinOp.add 2 false x1 v2) fun v20=>ov (slV (some (none,4)) v15 (some v20) none) fun v21=>ov (slV (some (none,4)) x0 (some x1) none) fun v22=>vvM P (Builtin.copy_ #[qeZ,qeZ] qjZ #[v21,v22]) h19 fun v23 h24=>K v15 h24
def qbZZ (v15 x1 x2:Value) (h16:Heap) (v2 x0:Value) (K:Value → Heap → Prop):Prop:=ov (slV (some (none,4)) v15 (some x1) none) fun v17=>vvM P (Builtin.copy_ #[qeZ,qeZ] qjZ #[v17,x2]) h16 fun v18 h19=>qbYZ x1 v2 v15 x0 h19 K
def qcaZ (x0 x1 v4 v2:Value) (h10:Heap) (x2:Value) (K:Value → Heap → Prop):Prop:=ov (slV (some (none,4)) x0 none (some x1)) fun v12=>ov (binV BinOp.add 2 false v4 v2) fun v13=>ov (binV BinOp.sub 2 false v13 x1) fun v14=>vvM P (Builtin.append_ #[qeZ,qjZ] qeZ #[v12,v14]) h10 fun v15 h16=>qbZZ v15 x1 x2 h16 v2 x0 K
def qbPZ (v26 x1 x2:Value) (h36:Heap) (K:Value → Heap → Prop):Prop:=ov (slV (some (none,4)) v26 (some x1) none) fun v37=>vvM P (Builtin.copy_ #[qeZ,qeZ] qjZ #[v37,x2]) h36 fun v38 h39=>K v26 h39
def qcbZ (x1 v2 v26:Value) (h30:Heap) (x2:Value) (K:Value → Heap → Prop):Prop:=ov (binV BinOp.add 2 false x1 v2) fun v32=>ov (slV (some (none,4)) v26 (some v32) none) fun v33=>ov (slV (some (none,4)) v26 (some x1) none) fun v34=>vvM P (Builtin.copy_ #[qeZ,qeZ] qjZ #[v33,v34]) h30 fun v35 h36=>qbPZ v26 x1 x2 h36 K
def qgWZ (v26 v4 x2:Value) (h30:Heap) (x1 v2:Value) (K:Value → Heap → Prop):Prop:=ov (slV (some (none,4)) v26 (some v4) none) fun v40=>vvM P (Builtin.copy_ #[qeZ,qeZ] qjZ #[v40,x2]) h30 fun v41 h42=>ov (slV (some (none,4)) v26 (some x1) none) fun v43=>callM P qkdZ #[v43,v2] h42 fun v44 h45=>K v26 h45
def qccZ (v29 x1 v2 v26:Value) (h30:Heap) (x2:Value) (K:Value → Heap → Prop) (v4:Value):Prop:=ov (unV UnOp.not v29) fun v31=>cdM v31 (qcbZ x1 v2 v26 h30 x2 K) (qgWZ v26 v4 x2 h30 x1 v2 K)
def qcdZ (v4 v2 x0 x1 x2:Value) (h10:Heap) (K:Value → Heap → Prop):Prop:=ov (binV BinOp.add 2 false v4 v2) fun v25=>ov (slV (some (none,4)) x0 none (some v25)) fun v26=>ov (binV BinOp.add 2 false x1 v2) fun v27=>ov (slV (some (none,4)) v26 (some v27) none) fun v28=>nxM P (callFunc qfEZ #[x2,v28]) h10 fun v29 h30=>qccZ v29 x1 v2 v26 h30 x2 K v4
def qceZ (v8 v9 x0 x1 v4 v2:Value) (h10:Heap) (x2:Value) (K:Value → Heap → Prop):Prop:=ov (binV BinOp.gtr 2 false v8 v9) fun v11=>cdM v11 (qcaZ x0 x1 v4 v2 h10 x2 K) (qcdZ v4 v2 x0 x1 x2 h10 K)
def qcfZ (v4 v2 x0:Value) (h:Heap) (x1 x2:Value) (K:Value → Heap → Prop):Prop:=ov (binV BinOp.add 2 false v4 v2) fun v8=>vvM P (Builtin.cap_ #[qeZ] qjZ #[x0]) h fun v9 h10=>qceZ v8 v9 x0 x1 v4 v2 h10 x2 K
def qcgZ (x0 x1 x2:Value) (h:Heap) (K:Value → Heap → Prop) (v2:Value):Prop:=ov (lnV 7 x0) fun v4=>ov (binV BinOp.eql 2 false x1 v4) fun v5=>cdM v5 (vvM P (Builtin.append_ #[qeZ,qeZ] qeZ #[x0,x2]) h fun v6 h7=>K v6 h7) (qcfZ v4 v2 x0 h x1 x2 K)
def qawZ (x0 x1 x2:Value) (h:Heap) (K:Value → Heap → Prop):Prop:=ov (slV (some (none,4)) x0 (some x1) none) fun v1=>ov (lnV 7 x2) fun v2=>ov (binV BinOp.eql 2 true v2 (Value.int IntKind.i64 0)) fun v3=>cdM v3 (K x0 h) (qcgZ x0 x1 x2 h K v2)
theorem qhPZ {x0 x1 x2:Value} {h:Heap} (hd:qawZ x0 x1 x2 h K):callM P qkZ #[x0,x1,x2] h K :=
 call_of good mixed (fn:=Tryz.f320) (args:=[x0,x1,x2]) Tryz.func320 rfl (by kernel_rfl) (of_decide_eq_true rfl) (B:=qawZ x0 x1 x2 h K) (by kernel_rfl) hd
def qbgZ (q7:Post) (m:List Nat) (s5:Env) (v8 v9 v10 v11:Value) (h12:Heap):Prop:=q7 .ret m (puts s5 [(9,v8),(10,(s5 8)),(5,(s5 8)),(11,(s5 1)),(12,(s5 0)),(13,(s5 8)),(14,v9),(15,v10),(16,v11),(17,(s5 8)),(4,(s5 8))]) h12
def qbhZ (s5:Env) (q7:Post) (m:List Nat) (v8 v9 v10 v11:Value) (h12:Heap):Prop:=ov (binV BinOp.add 2 true (s5 8) (Value.int IntKind.i64 1)) fun v13=>q7 .normal m (puts s5 [(9,v8),(10,(s5 8)),(5,(s5 8)),(11,(s5 1)),(12,(s5 0)),(13,(s5 8)),(14,v9),(15,v10),(16,v11),(18,v13),(8,v13)]) h12
def qbiZ (v11:Value) (q7:Post) (m:List Nat) (s5:Env) (v8 v9 v10:Value) (h12:Heap):Prop:=cdM v11 (qbgZ q7 m s5 v8 v9 v10 v11 h12) (qbhZ s5 q7 m v8 v9 v10 v11 h12)
def qbjZ (s5:Env) (h6:Heap) (q7:Post) (m:List Nat) (v8:Value):Prop:=ov (iaV (some (none,4)) (s5 0) (s5 8)) fun v9=>ov (ldV (some (some 4)) v9 h6) fun v10=>nxM P (do let d ← Deferred.ofValue (s5 1) #[v10] ; invoke d.target d.args) h6 fun v11 h12=>qbiZ v11 q7 m s5 v8 v9 v10 h12
def qbkZ (s5:Env) (h6:Heap) (q7:Post) (m:List Nat):Prop:=ov (binV BinOp.lss 2 false (s5 8) (s5 7)) fun v8=>cdM v8 (qbjZ s5 h6 q7 m v8) (q7 (.exit 0) m (puts s5 [(9,v8)]) h6)
def qblZ (x0 x1:Value) (h:Heap) (q1:Post):Prop:=ov (lnV 7 x0) fun v4=>loopM (fun m s5 h6 q7=>qbkZ s5 h6 q7 m) [] (puts (envOf [x0,x1]) [(4,(Value.int IntKind.i64 0)),(6,x0),(7,v4),(8,(Value.int IntKind.i64 0))]) h (blkM 0 q1)
def qTZ (x0 x1:Value) (h:Heap) (K:Value → Heap → Prop):Prop:=seqM (fun q1=>qblZ x0 x1 h q1) (fun m s2 h3=>(retM P [.tmp 4] K) .ret m (puts s2 [(4,(Value.int IntKind.i64 (-1)))]) h3) (retM P [.tmp 4] K)
theorem qgaZ {x0 x1:Value} {h:Heap} (hd:qTZ x0 x1 h K):callM P qOZ #[x0,x1] h K :=
 call_of good mixed (fn:=Tryz.f321) (args:=[x0,x1]) Tryz.func321 rfl (by kernel_rfl) (of_decide_eq_true rfl) (B:=qTZ x0 x1 h K) (by kernel_rfl) hd
def qVZ (v12:Value) (q7:Post) (m:List Nat) (s5:Env) (v8 v9 v10 v11 v13 v14 v15 v17:Value) (h16:Heap):Prop:=ov (binV BinOp.add 2 true v12 (Value.int IntKind.i64 1)) fun v18=>q7 .normal m (puts s5 [(15,(s5 9)),(16,(s5 10)),(17,v8),(18,(s5 9)),(19,(s5 10)),(20,v9),(21,v10),(22,v11),(23,v12),(11,v12),(24,(s5 2)),(25,(s5 0)),(26,v12),(27,v13),(28,v14),(29,(s5 1)),(30,v15),(31,v17),(32,v12),(33,v18),(9,v18)]) h16
def qWZ (q7:Post) (m:List Nat) (s5:Env) (v8 v9 v10 v11 v12 v13 v14 v15 v17:Value) (h16:Heap):Prop:=q7 .normal m (puts s5 [(15,(s5 9)),(16,(s5 10)),(17,v8),(18,(s5 9)),(19,(s5 10)),(20,v9),(21,v10),(22,v11),(23,v12),(11,v12),(24,(s5 2)),(25,(s5 0)),(26,v12),(27,v13),(28,v14),(29,(s5 1)),(30,v15),(31,v17),(34,v12),(10,v12)]) h16
def qXZ (v15 v12:Value) (q7:Post) (m:List Nat) (s5:Env) (v8 v9 v10 v11 v13 v14:Value) (h16:Heap):Prop:=ov (binV BinOp.lss 2 true v15 (Value.int IntKind.i64 0)) fun v17=>cdM v17 (qVZ v12 q7 m s5 v8 v9 v10 v11 v13 v14 v15 v17 h16) (qWZ q7 m s5 v8 v9 v10 v11 v12 v13 v14 v15 v17 h16)
def qYZ (s5:Env) (h6:Heap) (q7:Post) (m:List Nat) (v8:Value):Prop:=ov (binV BinOp.add 2 false (s5 9) (s5 10)) fun v9=>ov (cvV (some .u64) v9) fun v10=>ov (binV BinOp.shr 2 true v10 (Value.int IntKind.u64 1)) fun v11=>ov (cvV (some .i64) v11) fun v12=>ov (iaV (some (none,4)) (s5 0) v12) fun v13=>ov (ldV (some (some 4)) v13 h6) fun v14=>nxM P (do let d ← Deferred.ofValue (s5 2) #[v14,(s5 1)] ; invoke d.target d.args) h6 fun v15 h16=>qXZ v15 v12 q7 m s5 v8 v9 v10 v11 v13 v14 h16
def qZZ (s5:Env) (h6:Heap) (q7:Post) (m:List Nat):Prop:=ov (binV BinOp.lss 2 false (s5 9) (s5 10)) fun v8=>cdM v8 (qYZ s5 h6 q7 m v8) (q7 (.exit 0) m (puts s5 [(15,(s5 9)),(16,(s5 10)),(17,v8)]) h6)
def qaaZ (x0 x1 x2 v1:Value) (h:Heap) (q2:Post):Prop:=loopM (fun m s5 h6 q7=>qZZ s5 h6 q7 m) [] (puts (envOf [x0,x1,x2]) [(6,(Value.int IntKind.i64 0)),(7,(Value.bool false)),(12,x0),(13,v1),(8,v1),(14,v1),(9,(Value.int IntKind.i64 0)),(10,v1)]) h (blkM 0 q2)
def qabZ (s3:Env) (h4:Heap) (K:Value → Heap → Prop) (m:List Nat):Prop:=ov (binV BinOp.lss 2 false (s3 9) (s3 8)) fun v19=>gM (isB v19 true) (fun k22=>k22 (s3 2) h4) h4 fun v20 h21=>gM (isB v19 true) (fun k25=>k25 (s3 0) h21) h21 fun v23 h24=>gM (isB v19 true) (fun k28=>k28 (s3 9) h24) h24 fun v26 h27=>gM (isB v19 true) (fun k31=>ov (iaV (some (none,4)) v23 v26) fun v32=>k31 v32 h27) h27 fun v29 h30=>gM (isB v19 true) (fun k35=>ov (ldV (some (some 4)) v29 h30) fun v36=>k35 v36 h30) h30 fun v33 h34=>gM (isB v19 true) (fun k39=>k39 (s3 1) h34) h34 fun v37 h38=>gM (isB v19 true) (fun k42=>nxM P (do let d ← Deferred.ofValue v20 #[v33,v37] ; invoke d.target d.args) h38 fun v43 h44=>k42 v43 h44) h38 fun v40 h41=>gM (isB v19 true) (fun k47=>ov (binV BinOp.eql 2 true v40 (Value.int IntKind.i64 0)) fun v48=>k47 v48 h41) h41 fun v45 h46=>ov (pkV v19 v45 (Value.bool false)) fun v49=>(retM P [.tmp 6,.tmp 7] K) .ret m (puts s3 [(35,(s3 9)),(36,(s3 9)),(37,(s3 8)),(38,v19),(39,v19),(40,v20),(41,v23),(42,v26),(43,v29),(44,v33),(45,v37),(46,v40),(47,v45),(48,v49),(6,(s3 9)),(7,v49)]) h46
def qBZ (x0 x1 x2:Value) (h:Heap) (K:Value → Heap → Prop):Prop:=ov (lnV 7 x0) fun v1=>seqM (fun q2=>qaaZ x0 x1 x2 v1 h q2) (fun m s3 h4=>qabZ s3 h4 K m) (retM P [.tmp 6,.tmp 7] K)
theorem qdpZ {x0 x1 x2:Value} {h:Heap} (hd:qBZ x0 x1 x2 h K):callM P qacZ #[x0,x1,x2] h K :=
 call_of good mixed (fn:=Tryz.f326) (args:=[x0,x1,x2]) Tryz.func326 rfl (by kernel_rfl) (of_decide_eq_true rfl) (B:=qBZ x0 x1 x2 h K) (by kernel_rfl) hd
def qohZ (x0 x1:Value) (h:Heap) (K:Value → Heap → Prop):Prop:=nwM (some x0.cells) qfZ h fun v1 h2=>ov (faV (some 0) v1) fun v3=>ov (ldV (some none) v3 h2) fun v4=>callM P qifZ #[v4,x1] h2 fun v5 h6=>K v5 h6
theorem quHZ {x0 x1:Value} {h:Heap} (hd:qohZ x0 x1 h K):callM P qfpZ #[x0,x1] h K :=
 call_of good mixed (fn:=Tryz.f327) (args:=[x0,x1]) Tryz.func327 rfl (by kernel_rfl) (of_decide_eq_true rfl) (B:=qohZ x0 x1 h K) (by kernel_rfl) hd
def qnOZ (x0 x1:Value) (K:Value → Heap → Prop) (h4:Heap):Prop:=ov (binV BinOp.lss 2 false x0 x1) fun v5=>cdM v5 (K (Value.int IntKind.i64 (-1)) h4) (ov (binV BinOp.gtr 2 false x0 x1) fun v6=>cdM v6 (K (Value.int IntKind.i64 1) h4) (K (Value.int IntKind.i64 0) h4))
def qnPZ (v3:Value) (K:Value → Heap → Prop) (h4:Heap) (x0 x1:Value):Prop:=cdM v3 (K (Value.int IntKind.i64 1) h4) (qnOZ x0 x1 K h4)
def qnQZ (v1 v3:Value) (K:Value → Heap → Prop) (h4:Heap) (x0 x1:Value):Prop:=cdM v1 (cdM v3 (K (Value.int IntKind.i64 0) h4) (K (Value.int IntKind.i64 (-1)) h4)) (qnPZ v3 K h4 x0 x1)
def qnRZ (x1:Value) (h2:Heap) (v1:Value) (K:Value → Heap → Prop) (x0:Value):Prop:=callM P qgJZ #[x1] h2 fun v3 h4=>qnQZ v1 v3 K h4 x0 x1
def qjjZ (x0 x1:Value) (h:Heap) (K:Value → Heap → Prop):Prop:=callM P qgJZ #[x0] h fun v1 h2=>qnRZ x1 h2 v1 K x0
theorem qtYZ {x0 x1:Value} {h:Heap} (hd:qjjZ x0 x1 h K):callM P qifZ #[x0,x1] h K :=
 call_of good mixed (fn:=Tryz.f328) (args:=[x0,x1]) Tryz.func328 rfl (by kernel_rfl) (of_decide_eq_true rfl) (B:=qjjZ x0 x1 h K) (by kernel_rfl) hd
def qfvZ (s6:Env) (q8:Post) (m:List Nat) (v9 v10 v11 v12 v15 v16 v18:Value) (h17:Heap):Prop:=ov (binV BinOp.add 2 true (s6 10) (Value.int IntKind.i64 1)) fun v19=>q8 .normal m (puts s6 [(11,v9),(12,v10),(13,v11),(4,v12),(14,(s6 0)),(15,v15),(16,v16),(17,v18),(18,v19),(10,v19)]) h17
def qbQZ (v16:Value) (q8:Post) (m:List Nat) (s6:Env) (v9 v10 v11 v12 v15:Value) (h17:Heap):Prop:=ov (unV UnOp.not v16) fun v18=>cdM v18 (q8 .ret m (puts s6 [(11,v9),(12,v10),(13,v11),(4,v12),(14,(s6 0)),(15,v15),(16,v16),(17,v18)]) h17) (qfvZ s6 q8 m v9 v10 v11 v12 v15 v16 v18 h17)
def qfwZ (s6:Env) (h7:Heap) (q8:Post) (m:List Nat) (v9:Value):Prop:=ov (iaV (some (none,8)) (s6 8) (s6 10)) fun v10=>ov (ldV (some (some 8)) v10 h7) fun v11=>nwM (zc P qvZ) qvZ h7 fun v12 h13=>stM (some 8) v12 v11 h13 fun h14=>ov (ldV (some (some 8)) v12 h14) fun v15=>nxM P (do let d ← Deferred.ofValue (s6 0) #[v15] ; invoke d.target d.args) h14 fun v16 h17=>qbQZ v16 q8 m s6 v9 v10 v11 v12 v15 h17
def qfxZ (s6:Env) (h7:Heap) (q8:Post) (m:List Nat):Prop:=ov (binV BinOp.lss 2 false (s6 10) (s6 9)) fun v9=>cdM v9 (qfwZ s6 h7 q8 m v9) (q8 (.exit 0) m (puts s6 [(11,v9)]) h7)
def qcDZ (x0 x1:Value) (h:Heap) (K:Value → Heap → Prop):Prop:=ov (ldV (some none) x1 h) fun v1=>ov (ncV v1) fun v2=>ov (faV (some 1) v2) fun v3=>ov (ldV (some none) v3 h) fun v4=>ov (lnV 7 v4) fun v5=>loopM (fun m s6 h7 q8=>qfxZ s6 h7 q8 m) [] (puts (envOf [x0,x1]) [(5,v1),(6,v2),(7,v3),(8,v4),(9,v5),(10,(Value.int IntKind.i64 0))]) h (blkM 0 (retM P [] K))
theorem qoiZ {x0 x1:Value} {h:Heap} (hd:qcDZ x0 x1 h K):callM P qciZ #[x0,x1] h K :=
 call_of good mixed (fn:=Tryz.f331) (args:=[x0,x1]) Tryz.func331 rfl (by kernel_rfl) (of_decide_eq_true rfl) (B:=qcDZ x0 x1 h K) (by kernel_rfl) hd
def qiAZ (x0:Value) (h:Heap) (K:Value → Heap → Prop):Prop:=ov (binV BinOp.neq 3 false x0 x0) fun v1=>K v1 h
theorem qtCZ {x0:Value} {h:Heap} (hd:qiAZ x0 h K):callM P qeAZ #[x0] h K :=
 call_of good mixed (fn:=Tryz.f332) (args:=[x0]) Tryz.func332 rfl (by kernel_rfl) (of_decide_eq_true rfl) (B:=qiAZ x0 h K) (by kernel_rfl) hd
def qmlZ (x0:Value) (h:Heap) (K:Value → Heap → Prop):Prop:=ov (binV BinOp.neq 2 false x0 x0) fun v1=>K v1 h
theorem quCZ {x0:Value} {h:Heap} (hd:qmlZ x0 h K):callM P qgJZ #[x0] h K :=
 call_of good mixed (fn:=Tryz.f337) (args:=[x0]) Tryz.func337 rfl (by kernel_rfl) (of_decide_eq_true rfl) (B:=qmlZ x0 h K) (by kernel_rfl) hd
end Go.Proofs.YtcnphhhcknhhaaaGreat
namespace Go.Proofs.YtcnphhhcknhhaaaGreat
open Go Go.Den Go.MapKept
set_option linter.unusedSimpArgs false
set_option linter.unusedVariables false
set_option maxRecDepth 20000
def ringC (r:Ring) (lv:Value):List Value:=[.int .i64 r.room,lv,.bool r.lost]
def RingR (T:Tags) (h:Heap) (g:Tag) (p:Nat) (r:Ring):Prop :=
 ∃ lv,h p=some (.cells (ringC r lv).toArray qzZ (0,0))∧T p=g ++ [0]∧Rw T h (g ++ [1]) 8 qvZ lv r.l.length (r.l.flatMap evC)
theorem RingR.kp {U:Tag → Prop} {T T':Tags} {h h':Heap} {g:Tag} {p:Nat} {r:Ring} (x:RingR T h g p r) (k:Kp U T h T' h') (o:Off U g):RingR T' h' g p r:=by
 obtain ⟨lv,h1,h2,h3⟩:=x
 obtain ⟨h4,h5⟩:=k.at h1 h2 (o.at _)
 exact ⟨lv,h4,h5,h3.kp k (o.at _)⟩
def feedG (kv vv:Value) (q:Nat → Value):Nat → Value
 | 0=>kv
 | 1=>vv
 | k + 2=>q k
def feedC (kv vv:Value) (q:Nat → Value):List Value:=(List.range 10).map (feedG kv vv q)
abbrev ptr (b:Nat):Value:=.pointer (some ⟨b,0,none⟩)
def FeedR (T:Tags) (h:Heap) (g:Tag) (p:Nat) (f:Feed):Prop :=
 ∃ (kv vv:Value) (q:Nat → Nat),h p=some (.cells (feedC kv vv fun j=>ptr (q j)).toArray qahZ (0,0))∧T p=g ++ [0]∧Sl 1 StrR (fz T h) kv (f.ws.map (·.1))∧Sl 1 MaskR (fz T h) vv (f.ws.map (·.2)) ∧
  (∀ j,j < 8 → RingR T h (g ++ [1,j]) (q j) (f.qs j))∧Sn kv∧Sn vv
theorem FeedR.kp {U:Tag → Prop} {T T':Tags} {h h':Heap} {g:Tag} {p:Nat} {f:Feed} (x:FeedR T h g p f) (k:Kp U T h T' h') (o:Off U g) (n:¬ U []):FeedR T' h' g p f:=by
 obtain ⟨kv,vv,q,h1,h2,h3,h4,h5,h8⟩:=x
 obtain ⟨h6,h7⟩:=k.at h1 h2 (o.at _)
 exact ⟨kv,vv,q,h6,h7,h3.ext (@StrR.ext) (k.ext n),h4.ext (@MaskR.ext) (k.ext n),fun j hj=>(h5 j hj).kp k (o.app _),h8⟩
structure SV where
 sk:Value
 sv:Value
 bk:Value
 bv:Value
 fp:Nat
def strC (x:Strp) (y:SV):List Value:=[.int .i64 x.who,.int .u64 x.v,.int .u64 x.bound,y.sk,y.sv,y.bk,y.bv,ptr y.fp]
def StrpR (T:Tags) (h:Heap) (g:Tag) (x:Strp) (y:SV):Prop:=BookR (fz T h) y.sk y.sv x.snap∧BookR (fz T h) y.bk y.bv x.book∧FeedR T h g y.fp x.feed
theorem StrpR.kp {U:Tag → Prop} {T T':Tags} {h h':Heap} {g:Tag} {x:Strp} {y:SV} (r:StrpR T h g x y) (k:Kp U T h T' h') (o:Off U g) (n:¬ U []):StrpR T' h' g x y :=
 ⟨r.1.ext (k.ext n),r.2.1.ext (k.ext n),r.2.2.kp k o n⟩
def hallC (H:Hall) (sv av:Value):List Value:=[.int .i64 H.c.stripes,.int .i64 H.c.sessions,.int .i64 H.c.queue,.int .i64 H.c.watches,.int .i64 H.c.retries,.int .u64 H.c.epochs,.int .u64 H.c.start,
 .int .u64 H.t.now,.int .u64 H.t.seq,.bool H.t.closed,sv,av]
structure HallX (T:Tags) (h:Heap) (g:Tag) (p:Nat) (H:Hall) (sv av:Value) (Y:Nat → SV):Prop where
 hp:h p=some (.cells (hallC H sv av).toArray qaCZ (0,0))
 tp:T p=g ++ [0]
 st:Rw T h (g ++ [1]) 8 qcyZ sv H.n (seqF H.n fun i=>strC (H.ss i) (Y i))
 ac:Rw T h (g ++ [2]) 3 qiGZ av H.acts.length (H.acts.flatMap actC)
 sr:∀ i,i < H.n → StrpR T h (g ++ [3,i]) (H.ss i) (Y i)
def HallR (T:Tags) (h:Heap) (g:Tag) (p:Nat) (H:Hall):Prop:=∃ sv av Y,HallX T h g p H sv av Y
theorem HallR.kp {U:Tag → Prop} {T T':Tags} {h h':Heap} {g:Tag} {p:Nat} {H:Hall} (x:HallR T h g p H) (k:Kp U T h T' h') (o:Off U g) (n:¬ U []):HallR T' h' g p H:=by
 obtain ⟨sv,av,Y,x⟩:=x
 obtain ⟨h1,h2⟩:=k.at x.hp x.tp (o.at _)
 exact ⟨sv,av,Y,h1,h2,x.st.kp k (o.at _),x.ac.kp k (o.at _),fun i hi=>(x.sr i hi).kp k (o.app _) n⟩
theorem bsAct:bsI P qfjZ=some (qiGZ,3,#[.int .i64 0,.int .i64 0,.int .i64 0]):=by kernel_rfl
theorem unSlAct:P.underlying qfjZ=some (.slice qiGZ):=by kernel_rfl
theorem apAct:apC P qiGZ=some (3,24,3):=by kernel_rfl
theorem bdAct (a b c:Int):bdV (binf P qiGZ) [(0,.int .i64 a),(1,.int .i64 b),(2,.int .i64 c)]=some (.agg #[.int .i64 a,.int .i64 b,.int .i64 c]):=by kernel_rfl
theorem zcTime:zc P qtZ=some #[.int .u64 0,.int .u64 0,.bool false]:=by kernel_rfl
theorem zcCfg:zc P qFZ=some #[.int .i64 0,.int .i64 0,.int .i64 0,.int .i64 0,.int .i64 0,.int .u64 0,.int .u64 0]:=by kernel_rfl
theorem bdTime (a:Int):bdV (binf P qtZ) [(0,.int .u64 a)]=some (.agg #[.int .u64 a,.int .u64 0,.bool false]):=by kernel_rfl
theorem bdHall (a b c d e f g t s:Int) (k:Bool):bdV (binf P qaCZ) [(0,.agg #[.int .i64 a,.int .i64 b,.int .i64 c,.int .i64 d,.int .i64 e,.int .u64 f,.int .u64 g]),(1,.agg #[.int .u64 t,.int .u64 s,.bool k])] =
 some (.agg #[.int .i64 a,.int .i64 b,.int .i64 c,.int .i64 d,.int .i64 e,.int .u64 f,.int .u64 g,.int .u64 t,.int .u64 s,.bool k,.slice none 0 0,.slice none 0 0]):=by kernel_rfl
theorem bdStripe (v b:Int) (fp:Option Addr):bdV (binf P qcyZ) [(1,.agg #[.int .u64 v,.int .u64 b]),(4,.pointer fp)] =
 some (.agg #[.int .i64 0,.int .u64 v,.int .u64 b,.slice none 0 0,.slice none 0 0,.slice none 0 0,.slice none 0 0,.pointer fp]):=by kernel_rfl
theorem bsStripe:bsI P qbSZ=some (qcyZ,8,#[.int .i64 0,.int .u64 0,.int .u64 0,.slice none 0 0,.slice none 0 0,.slice none 0 0,.slice none 0 0,.pointer none]):=by kernel_rfl
theorem unSlStripe:P.underlying qbSZ=some (.slice qcyZ):=by kernel_rfl
theorem apStripe:apC P qcyZ=some (8,128,8):=by kernel_rfl
theorem bdFeed:bdV (binf P qahZ) []=some (.agg #[.slice none 0 0,.slice none 0 0,.pointer none,.pointer none,.pointer none,.pointer none,.pointer none,.pointer none,.pointer none,.pointer none]):=by kernel_rfl
theorem bdRing (n:Int):bdV (binf P qzZ) [(0,.int .i64 n)]=some (.agg #[.int .i64 n,.slice none 0 0,.bool false]):=by kernel_rfl
theorem bdCell (n:Int):bdV (binf P qLZ) [(1,.int .u64 n)]=some (.agg #[.int .u64 0,.int .u64 n]):=by kernel_rfl
theorem zcCell:zc P qLZ=some #[.int .u64 0,.int .u64 0]:=by kernel_rfl
theorem zcLatch:zc P qsZ=some #[.int .i64 0]:=by kernel_rfl
theorem bdLatch (n:Int):bdV (binf P qsZ) [(0,.int .i64 n)]=some (.agg #[.int .i64 n]):=by kernel_rfl
theorem bdLatch0:bdV (binf P qsZ) []=some (.agg #[.int .i64 0]):=by kernel_rfl
variable {K:Value → Heap → Prop}
theorem within_ok (n lo hi:Int) {h:Heap} (hk:K (.bool (decide (lo ≤ n∧n ≤ hi))) h):callM P qUZ #[.int .i64 n,.int .i64 lo,.int .i64 hi] h K:=by
 apply quEZ
 unfold qoaZ
 by_cases h1:lo ≤ n <;> simpa [h1] using hk
theorem place_ok (s w:Int) {h:Heap} (hs:0 ≤ s∧s < 1000∧0 ≤ w∧w < 10) (hk:K (.int .i64 (4 * s + w)) h):callM P qbmZ #[.int .i64 s,.int .i64 w] h K:=by
 apply quUZ
 unfold qpGZ
 simp only [bin_mul,bin_add,ov_s,wrap64_id (n:=4 * s) (by omega) (by omega),wrap64_id (n:=4 * s + w) (by omega) (by omega)]
 exact hk
end Go.Proofs.YtcnphhhcknhhaaaGreat
namespace Go.Proofs.YtcnphhhcknhhaaaGreat
open Go Go.Den Go.MapKept
set_option linter.unusedSimpArgs false
set_option linter.unusedVariables false
set_option maxRecDepth 20000
variable {K:Value → Heap → Prop}
theorem hashRight_ok (s:ByteArray) {h:Heap} (hk:K (.bool (nameB s)) h):callM P qfhZ #[.string s] h K:=by
 apply quVZ
 unfold qpHZ
 have:nameB s=(!decide (s=⟨#[]⟩) && decide ((s.size:Int) ≤ 16)):=by
  unfold nameB; by_cases h0:s.size=0
  ·rw [(str_empty s).2 h0]; rfl
  ·have:¬ s=⟨#[]⟩:=fun e=>h0 ((str_empty s).1 e)
   rw [Bool.eq_iff_iff]; simp [this]; omega
 rw [this] at hk
 simp +contextual -implicitDefEqProofs [-Bool.decide_eq_true]
 exact hk
theorem sessRight_ok (a b c:Int) {h:Heap} (hk:K (.bool (decide (0 ≤ a∧a ≤ 255∧1 ≤ b∧b ≤ 9∧0 ≤ c∧c ≤ 9))) h):callM P qpfZ #[.int .i64 a,.int .i64 b,.int .i64 c] h K:=by
 apply quWZ
 unfold qpIZ
 simp +contextual -implicitDefEqProofs
 simpa [Bool.decide_and,and_assoc,Bool.and_assoc] using hk
theorem modRight_ok (c:Cfg) {h:Heap} (hk:∀ h',Ext h h' → K (.bool (rightB c)) h'):callM P qiBZ #[.agg (cfgC c).toArray] h K:=by
 apply quKZ
 unfold qpjZ
 refine nw_agg fun v1 h2 n2 e2 c2=>?_
 simp only [cfgC] at c2
 simp only [faV_p,ov_s,ldV_c,cel_of c2,Nat.zero_add,List.getElem?_toArray,List.getElem?_cons_zero]
 refine within_ok _ _ _ ?_
 unfold qpWZ
 simp +contextual -implicitDefEqProofs [cel_of c2]
 refine gM_call0 (a:=.bool (decide (1 ≤ c.sessions∧c.sessions ≤ 8))) (fun hc K' hk'=>within_ok _ _ _ hk') ?_
 simp +contextual -implicitDefEqProofs [cel_of c2]
 refine gM_call0 (a:=.bool (decide (1 ≤ c.queue∧c.queue ≤ 16))) (fun hc K' hk'=>within_ok _ _ _ hk') ?_
 simp +contextual -implicitDefEqProofs [cel_of c2]
 refine gM_call0 (a:=.bool (decide (1 ≤ c.watches∧c.watches ≤ 8))) (fun hc K' hk'=>within_ok _ _ _ hk') ?_
 simp +contextual -implicitDefEqProofs [cel_of c2]
 refine gM_call0 (a:=.bool (decide (0 ≤ c.retries∧c.retries ≤ 4))) (fun hc K' hk'=>within_ok _ _ _ hk') ?_
 simp +contextual -implicitDefEqProofs [cel_of c2]
 refine kb (hk h2 e2) ?_
 rw [Bool.eq_iff_iff]; simp [rightB]; omega
theorem refRight_ok (c:Cfg) {h:Heap} (hk:∀ h',Ext h h' → K (.bool (rightB c)) h'):callM P qfNZ #[.agg (cfgC c).toArray] h K:=by
 apply qrwZ
 unfold qgKZ
 refine nw_agg fun v1 h2 n2 e2 c2=>?_
 simp only [cfgC] at c2
 simp +contextual -implicitDefEqProofs [cel_of c2]
 have:=hk h2 e2
 refine kb this ?_
 rw [Bool.eq_iff_iff]; simp [rightB]; omega
end Go.Proofs.YtcnphhhcknhhaaaGreat
namespace Go.Den
open Go
set_option linter.unusedVariables false
def fnvX (h b:Int):Int:=IntKind.u64.wrap (BitVec.ofInt 64 h ^^^ BitVec.ofInt 64 b).toNat
def fnvStep (h b:Int):Int:=IntKind.u64.wrap (fnvX h b * 1099511628211)
def byteAt (s:ByteArray) (i:Nat):Int:=match s[i]? with
 | some b=>b.toNat
 | none=>0
def fnvTo (s:ByteArray):Nat → Int
 | 0=>14695981039346656037
 | i + 1=>fnvStep (fnvTo s i) (byteAt s i)
def fnv (s:ByteArray):Int:=fnvTo s s.size
theorem wrapU_rng (n:Int):0 ≤ IntKind.u64.wrap n∧IntKind.u64.wrap n ≤ 18446744073709551615:=by
 simp only [IntKind.wrap,IntKind.bits,IntKind.signed]
 simp
 omega
theorem wrapU_id {n:Int} (h0:0 ≤ n) (h1:n ≤ 18446744073709551615):IntKind.u64.wrap n=n:=by
 simp only [IntKind.wrap,IntKind.bits,IntKind.signed]
 simp
 omega
theorem andNot1 (b:Int) (hb:U64 b):IntKind.u64.wrap (BitVec.ofInt 64 b &&& ~~~BitVec.ofInt 64 1).toNat=evn b:=by
 obtain ⟨n,rfl⟩:∃ n:Nat,b=n:=⟨b.toNat,by have:=hb.1; omega⟩
 have hn:n < 18446744073709551616:=by have:=hb.2; omega
 have e:(BitVec.ofInt 64 n &&& ~~~BitVec.ofInt 64 1).toNat=n / 2 * 2:=by
  rw [BitVec.toNat_and]
  have h0:(BitVec.ofInt 64 (n:Int)).toNat=n:=by simp; omega
  have h1:(~~~BitVec.ofInt 64 1).toNat=(2 ^ 63 - 1) * 2 ^ 1:=by rfl
  rw [h0,h1]
  apply Nat.eq_of_testBit_eq
  intro i
  rw [Nat.testBit_and,Nat.testBit_mul_two_pow,Nat.testBit_two_pow_sub_one,show n / 2 * 2=(n / 2) * 2 ^ 1 by omega,Nat.testBit_mul_two_pow,Nat.testBit_div_two]
  by_cases h:1 ≤ i
  ·rw [show i - 1 + 1=i by omega]
   by_cases h2:i - 1 < 63
   ·simp [h,h2]
   ·have:n.testBit i=false:=Nat.testBit_lt_two_pow (Nat.lt_of_lt_of_le hn (by rw [show 18446744073709551616=2 ^ 64 by rfl]; exact Nat.pow_le_pow_right (by omega) (by omega)))
    simp [this]
  ·simp [h]
 rw [e,wrapU_id (by omega) (by omega)]
 unfold evn; omega
theorem and1 (b:Int) (hb:U64 b):IntKind.u64.wrap (BitVec.ofInt 64 b &&& BitVec.ofInt 64 1).toNat=b % 2:=by
 obtain ⟨n,rfl⟩:∃ n:Nat,b=n:=⟨b.toNat,by have:=hb.1; omega⟩
 have hn:n < 18446744073709551616:=by have:=hb.2; omega
 have e:(BitVec.ofInt 64 n &&& BitVec.ofInt 64 1).toNat=n % 2:=by
  rw [BitVec.toNat_and]
  have:(BitVec.ofInt 64 (n:Int)).toNat=n:=by simp; omega
  rw [this]
  have:(BitVec.ofInt 64 1).toNat=1:=by rfl
  rw [this,Nat.and_one_is_mod]
 rw [e,wrapU_id (by omega) (by omega)]
 omega
theorem bin_and1 (t:Nat) (c:Bool) {b:Int} (hb:U64 b):binV .and t c (.int .u64 b) (.int .u64 1)=some (.int .u64 (b % 2)):=by
 have:binV .and t c (.int .u64 b) (.int .u64 1)=some (.int .u64 (IntKind.u64.wrap (BitVec.ofInt 64 b &&& BitVec.ofInt 64 1).toNat)):=rfl
 rw [this,and1 b hb]
theorem bin_andNot1 (t:Nat) (c:Bool) {b:Int} (hb:U64 b):binV .andNot t c (.int .u64 b) (.int .u64 1)=some (.int .u64 (evn b)):=by
 have:binV .andNot t c (.int .u64 b) (.int .u64 1)=some (.int .u64 (IntKind.u64.wrap (BitVec.ofInt 64 b &&& ~~~BitVec.ofInt 64 1).toNat)):=rfl
 rw [this,andNot1 b hb]
theorem bin_fnvX (t:Nat) (c:Bool) (a b:Int):binV .xor t c (.int .u64 a) (.int .u64 b)=some (.int .u64 (fnvX a b)):=rfl
theorem fnv_rng (s:ByteArray):0 ≤ fnv s∧fnv s ≤ 18446744073709551615:=by
 unfold fnv
 cases s.size with
 | zero=>simp [fnvTo]
 | succ n=>exact wrapU_rng _
def stripeOf (s:ByteArray) (n:Int):Int:=if n < 1 then 0 else fnv s % n
def late (now until_:Int):Bool:=decide (until_ ≤ now)
def better (a b:Sess):Bool:=decide (b.pr < a.pr) || (decide (a.pr=b.pr) && decide (a.id < b.id))
def ofStep (now:Int) (x:Sess × Nat) (s:Sess):Sess × Nat:=if late now s.un then x else (if x.2=0 || better s x.1 then s else x.1,x.2 + 1)
def ofAcc (l:List Sess) (now:Int):Sess × Nat:=l.foldl (ofStep now) (⟨0,0,0,0⟩,0)
def presOf (l:List Sess) (now:Int):Pres:=⟨(ofAcc l now).1.st,(ofAcc l now).1.pr,(ofAcc l now).2⟩
def ent0:Ent:=⟨[],⟨0,0,0⟩⟩
def entOf:Book → ByteArray → Ent
 | [],_=>ent0
 | (k,e) :: r,u=>if k=u then e else entOf r u
def presB (b:Book) (u:ByteArray) (now:Int):Pres:=presOf (entOf b u).ss now
structure RP where
 who:Int
 users:List ByteArray
 of:Int
 ss:List Nat
 ph:Int
 at_:Nat
 tries:Int
 ep:Nat → Int
 valid:Bool
 spent:Bool
 seen:Int → Option Book
 t:Tm
 looked:Int
 placed:Int
 err:Int
 vals:List Pres
def RP.k (p:RP):Nat:=p.ss.length
def RP.s (p:RP):Nat:=p.ss.getD p.at_ 0
def RP.begin (p:RP):RP:={ p with ph:=0,at_:=0,ep:=fun _=>0,valid:=true,spent:=false,seen:=fun _=>none }
def RP.tell (p:RP) (u:ByteArray):Pres:=presB ((p.seen (stripeOf u p.of)).getD []) u p.t.now
def RP.answer (p:RP):RP:=if p.t.closed then { p with placed:=p.looked,err:=5,vals:=[] } else { p with placed:=p.looked,vals:=p.vals ++ p.users.map p.tell }
def RP.next (p:RP) (ph:Int):RP:=if p.at_ + 1 < p.k then { p with at_:=p.at_ + 1 } else { p with ph:=ph,at_:=0 }
def RP.last (p:RP):Bool:=!decide (p.at_ + 1 < p.k)
def RP.judge (p:RP):RP :=
 if p.t.closed || p.valid then { p.answer with ph:=8 }
 else if p.spent || decide (p.tries=0) then { p with ph:=4 }
 else RP.begin { p with tries:=p.tries - 1 }
def RP.enabled (p:RP) (H:Hall):Bool:=!decide (p.ph=8) && (!decide (p.ph=4) || decide ((H.ss p.s).who=0))
def epset (f:Nat → Int) (i:Nat) (v:Int):Nat → Int:=fun k=>if k=i then v else f k
def seenset (f:Int → Option Book) (i:Int) (v:Book):Int → Option Book:=fun k=>if k=i then some v else f k
def validB (a b bound:Int):Bool:=decide (a=b) && (decide (a % 2=0) && decide (a < evn bound))
def RP.go (p:RP) (H:Hall) (n:Int):RP × Hall :=
 if p.ph=0 then (RP.next { p with ep:=epset p.ep p.at_ (H.ss p.s).v,spent:=p.spent || decide (evn H.c.epochs ≤ (H.ss p.s).v) } 1,H.epoch p.who p.s)
 else if p.ph=1 then (RP.next { p with seen:=seenset p.seen p.s (H.ss p.s).snap } 2,H.snap p.who p.s)
 else if p.ph=2 then ({ p with t:=H.t,looked:=n,ph:=3 },H.look p.who)
 else if p.ph=5 then ({ p with t:=H.t,looked:=n,ph:=6,placed:=n },H.look p.who)
 else if p.ph=3 then
  let q:RP:={ p with valid:=p.valid && validB (p.ep p.at_) (H.ss p.s).v H.c.epochs }
  (if q.last then (q.next 8).judge else q.next 8,H.epoch p.who p.s)
 else if p.ph=4 then (p.next 5,H.lock p.who p.s)
 else if p.ph=6 then (RP.next { p with seen:=seenset p.seen p.s (H.ss p.s).book } 7,H.read p.who p.s)
 else (if p.last then (p.next 8).answer else p.next 8,H.unlock p.who p.s)
def RP.step (p:RP) (H:Hall) (n:Int):RP × Hall :=
 if p.enabled H=false then (p,H) else if p.ss=[] then ({ p with err:=1,vals:=[],placed:=n,ph:=8 },H) else p.go H n
end Go.Den
namespace Go.Proofs.YtcnphhhcknhhaaaGreat
open Go Go.Den Go.MapKept
set_option linter.unusedSimpArgs false
set_option linter.unusedVariables false
set_option maxRecDepth 20000
theorem st_byte {s:ByteArray} {i:Nat} (hi:i < s.size) {k:IntKind}:stV (.string s) (.int k i)=some (.int .u8 (byteAt s i)):=by
 have:s[i]?=some s[i]:=by simp [hi]
 simp -implicitDefEqProofs [stV,byteAt,this]
theorem byte_rng (s:ByteArray) (i:Nat):0 ≤ byteAt s i∧byteAt s i ≤ 255:=by
 unfold byteAt
 split
 ·rename_i b _; have:=b.toNat_lt; omega
 ·omega
variable {K:Value → Heap → Prop}
theorem hashOf_ok (s : ByteArray) (hs : s.size ≤ maxLen) {h : Heap} (hk : K (.int .u64 (fnv s)) h) : callM P qrvZ #[.string s] h K := by
  apply qvtZ
  unfold qtpZ
  rw [seqM_eq]
  unfold qudZ
  simp -implicitDefEqProofs only [lnV_t, ov_s]
  refine loop_on [0, 5, 6] (fun t h' => h' = h ∧ ∃ i : Nat, i ≤ s.size ∧ t 7 = .int .i64 i ∧ t 3 = .int .u64 (fnvTo s i)) (fun t _ => (s.size - num (t 7)).toNat) ⟨rfl, 0, by omega, rfl, rfl⟩ ?_
  rintro t h1 hf ⟨rfl, i, hi, t7, t3⟩
  have t0 : t 0 = .string s := by simpa using hf 0 (by simp)
  have t5 : t 5 = .string s := by simpa using hf 5 (by simp)
  have t6 : t 6 = .int .i64 s.size := by simpa using hf 6 (by simp)
  unfold maxLen at hs
  unfold qucZ
  simp -implicitDefEqProofs only [t7, t6, bin_lss, ov_s, cd_b]
  refine ⟨fun hc => ?_, fun hc => ?_⟩
  · have hlt : i < s.size := by have : ((i : Int) < s.size) := by simpa using hc
                                omega
    have hb := byte_rng s i
    unfold qubZ
    have hw : IntKind.i64.wrap ((i : Int) + 1) = i + 1 := wrap64_id (by omega) (by omega)
    simp -implicitDefEqProofs [t0, t7, t3, st_byte hlt, wrapU_id (n := byteAt s i) (by omega) (by omega), bin_fnvX, hw, t5, t6]
    exact ⟨⟨i + 1, by omega, by simp, by simp [fnvTo, fnvStep]⟩, by omega⟩
  · have : i = s.size := by have : ¬ ((i : Int) < s.size) := by simpa using hc
                            omega
    subst this
    simp -implicitDefEqProofs [t3]
    exact hk
theorem stripe_ok (s:ByteArray) (n:Int) (hn:n ≤ 1000) (hs:s.size ≤ maxLen) {h:Heap} (hk:K (.int .i64 (stripeOf s n)) h):callM P qiEZ #[.string s,.int .i64 n] h K:=by
 apply quNZ
 unfold qpmZ
 simp -implicitDefEqProofs only [bin_lss,ov_s,cd_b]
 refine ⟨fun hc=>?_,fun hc=>?_⟩
 ·have:n < 1:=by simpa using hc
  simpa [stripeOf,this] using hk
 ·have hn1:¬ n < 1:=by simpa using hc
  unfold qqaZ
  refine hashOf_ok s hs ?_
  have hf:=fnv_rng s
  have hm:(fnv s).tmod n=fnv s % n:=Int.tmod_eq_emod_of_nonneg hf.1
  have hl:=Int.emod_nonneg (fnv s) (show n ≠ 0 by omega)
  have hu:=Int.emod_lt_of_pos (fnv s) (show 0 < n by omega)
  simp -implicitDefEqProofs [wrapU_id (n:=n) (by omega) (by omega),show n ≠ 0 by omega,hm,wrap64_id (n:=fnv s % n) (by omega) (by omega)]
  simpa [stripeOf,hn1] using hk
def cellC (v b:Int):List Value:=[.int .u64 v,.int .u64 b]
theorem cellNew_ok (b:Int) (hb:U64 b) {h:Heap} (hk:∀ h',Ext h h' → K (.agg (cellC 0 (evn b)).toArray) h'):callM P qqqZ #[.int .u64 b] h K:=by
 apply qvoZ
 unfold qrDZ
 simp -implicitDefEqProofs only [zcCell,nwM_s,bin_andNot1 _ _ hb,ov_s,bdCell]
 intro v1 n1
 simp -implicitDefEqProofs [stm_upd,ld_same,cel_same,over]
 exact hk _ (Ext.upd n1 _)
theorem spent_ok (v b:Int) {h:Heap} (hk:∀ h',Ext h h' → K (.bool (decide (b ≤ v))) h'):callM P qicZ #[.agg (cellC v b).toArray] h K:=by
 apply qtWZ
 unfold qjhZ
 simp -implicitDefEqProofs only [nwM_s,cells_agg,cellC]
 intro v1 n1
 simp -implicitDefEqProofs [cel_same]
 exact hk _ (Ext.upd n1 _)
theorem writing_ok (v b:Int) (hv:U64 v) {h:Heap} (hk:∀ h',Ext h h' → K (.bool (wrt v)) h'):callM P qdNZ #[.agg (cellC v b).toArray] h K:=by
 apply qsyZ
 unfold qhBZ
 simp -implicitDefEqProofs only [nwM_s,cells_agg,cellC]
 intro v1 n1
 simp -implicitDefEqProofs [cel_same,bin_and1 _ _ hv]
 exact kb (hk _ (Ext.upd n1 _)) (by simp [wrt])
theorem tgCell:tagg P qLZ=some (some 2):=by kernel_rfl
theorem begin_ok (v b:Int) (hv:U64 v) (hb:U64 b) {h:Heap} (hk:∀ h',Ext h h' → K (.agg (cellC (bgn v b) b).toArray) h'):callM P qibZ #[.agg (cellC v b).toArray] h K:=by
 apply qtVZ
 unfold qjgZ
 refine nw_agg fun v1 h1 n1 e1 c1=>?_
 rw [zcCell]
 refine nw_intro fun v3 h2 n3 e3 c3=>?_
 have hne:=ne_fresh c1 n3
 have c1:=e3 _ _ c1
 rw [seqM_eq]
 unfold qnMZ
 simp -implicitDefEqProofs only [ld_box c1 (n:=2) rfl,ov_s]
 refine spent_ok v b fun h3 e4=>?_
 have c1:=e4 _ _ c1
 have c3:=e4 _ _ c3
 have e0:=(e1.trans e3).trans e4
 have n3:=fresh_of e1 n3
 unfold qnLZ
 simp -implicitDefEqProofs only [cellC] at c1
 by_cases hbv:b ≤ v
 ·simp -implicitDefEqProofs [hbv,ld_at c1,cel_of c1,stm_at c1,ld_at c3,cel_of c3,stm_at c3,stm_upd,ld_same,cel_same,over,tgCell]
  exact kv (hk _ (ext_upd n3 e0)) (by simp [cellC,bgn,show ¬ v < b by omega])
 ·simp -implicitDefEqProofs [hbv,ld_at c1,cel_of c1,stm_at c1,stm_upd,ld_same,cel_same,over]
  refine writing_ok v b hv fun h4 e5=>?_
  have c1:=e5 _ _ c1
  have c3:=e5 _ _ c3
  have e0:=e0.trans e5
  unfold qnKZ
  cases hw:wrt v
  ·have:IntKind.u64.wrap (v + 1)=v + 1:=wrapU_id (by have:=hv.1; omega) (by have:=hb.2; omega)
   simp -implicitDefEqProofs [ld_at c1,cel_of c1,stm_at c1,ld_at c3,cel_of c3,stm_at c3,stm_skip hne,stm_skip (Ne.symm hne),ld_skip hne,ld_skip (Ne.symm hne),cel_skip hne,cel_skip (Ne.symm hne),stm_upd,ld_same,cel_same,over,this,tgCell]
   exact kv (hk _ (ext_upd n1 (ext_upd n3 e0))) (by simp [cellC,bgn,show v < b by omega,hw])
  ·simp -implicitDefEqProofs [ld_at c1,cel_of c1,stm_at c1,ld_at c3,cel_of c3,stm_at c3,stm_upd,ld_same,cel_same,over,tgCell]
   exact kv (hk _ (ext_upd n3 e0)) (by simp [cellC,bgn,hw])
theorem lfree_ok (w:Int) {h:Heap} (hk:∀ h',Ext h h' → K (.bool (decide (w=0))) h'):callM P qcrZ #[.agg #[.int .i64 w]] h K:=by
 apply qtiZ
 unfold qipZ
 simp -implicitDefEqProofs only [nwM_s,cells_agg]
 intro v1 n1
 simp -implicitDefEqProofs [cel_same]
 exact hk _ (Ext.upd n1 _)
theorem lowner_ok (w:Int) (hw:-1000000 ≤ w∧w ≤ 1000000) {h:Heap} (hk:∀ h',Ext h h' → K (.int .i64 (w - 1)) h'):callM P qgIZ #[.agg #[.int .i64 w]] h K:=by
 apply qsGZ
 unfold qhJZ
 simp -implicitDefEqProofs only [nwM_s,cells_agg]
 intro v1 n1
 simp -implicitDefEqProofs [cel_same,wrap64_id (n:=w - 1) (by omega) (by omega)]
 exact hk _ (Ext.upd n1 _)
theorem ltake_ok (w who:Int) (hw:-1000 ≤ who∧who ≤ 1000000) {h:Heap} (hk:∀ h',Ext h h' → K (.tuple #[.agg #[.int .i64 (if canTake w who then who + 1 else w)],.bool (canTake w who)]) h'):callM P qhqZ #[.agg #[.int .i64 w],.int .i64 who] h K:=by
 apply qtsZ
 unfold qiwZ
 refine nw_agg fun v1 h1 n1 e1 c1=>?_
 rw [zcLatch]
 refine nw_intro fun v3 h2 n3 e3 c3=>?_
 have hne:=ne_fresh c1 n3
 have c1:=e3 _ _ c1
 have n3:=fresh_of e1 n3
 have e0:=e1.trans e3
 unfold qmaZ qmbZ
 by_cases hw0:who < 0
 ·simp -implicitDefEqProofs [hw0,ld_at c1,cel_of c1,stm_at c1,ld_at c3,cel_of c3,stm_at c3,stm_upd,ld_same,cel_same,over]
  exact kv (hk _ (ext_upd n3 e0)) (by simp [canTake,show ¬ 0 ≤ who by omega])
 ·simp -implicitDefEqProofs [hw0,ld_at c1,cel_of c1,stm_at c1,stm_upd,ld_same,cel_same,over]
  refine lfree_ok w fun h4 e5=>?_
  have c1:=e5 _ _ c1
  have c3:=e5 _ _ c3
  have e0:=e0.trans e5
  by_cases hw:w=0
  ·simp -implicitDefEqProofs [hw,ld_at c3,cel_of c3,stm_at c3,stm_upd,ld_same,cel_same,over,bdLatch,wrap64_id (n:=who + 1) (by omega) (by omega)]
   exact kv (hk _ (ext_upd n3 e0)) (by simp [canTake,hw,show 0 ≤ who by omega])
  ·simp -implicitDefEqProofs [hw,ld_at c1,cel_of c1,stm_at c1,ld_at c3,cel_of c3,stm_at c3,stm_upd,ld_same,cel_same,over]
   exact kv (hk _ (ext_upd n3 e0)) (by simp [canTake,hw])
theorem lgive_ok (w who:Int) (hw:-1000000 ≤ w∧w ≤ 1000000) {h:Heap} (hk:∀ h',Ext h h' → K (.tuple #[.agg #[.int .i64 (if canGive w who then 0 else w)],.bool (canGive w who)]) h'):callM P qhrZ #[.agg #[.int .i64 w],.int .i64 who] h K:=by
 apply qttZ
 unfold qixZ
 refine nw_agg fun v1 h1 n1 e1 c1=>?_
 rw [zcLatch]
 refine nw_intro fun v3 h2 n3 e3 c3=>?_
 have hne:=ne_fresh c1 n3
 have c1:=e3 _ _ c1
 have n3:=fresh_of e1 n3
 have e0:=e1.trans e3
 simp -implicitDefEqProofs [ld_at c1,cel_of c1,stm_at c1,stm_upd,ld_same,cel_same,over]
 refine lfree_ok w fun h4 e5=>?_
 have c1:=e5 _ _ c1
 have c3:=e5 _ _ c3
 have e0:=e0.trans e5
 unfold qmeZ qmcZ qmdZ
 by_cases hw0:w=0
 ·simp -implicitDefEqProofs [hw0,ld_at c1,cel_of c1,stm_at c1,ld_at c3,cel_of c3,stm_at c3,stm_upd,ld_same,cel_same,over]
  exact kv (hk _ (ext_upd n3 e0)) (by simp [canGive,hw0])
 ·simp -implicitDefEqProofs [hw0,ld_at c1,cel_of c1,stm_at c1,stm_upd,ld_same,cel_same,over]
  refine lowner_ok w hw fun h4 e5=>?_
  have c1:=e5 _ _ c1
  have c3:=e5 _ _ c3
  have e0:=e0.trans e5
  by_cases hg:w - 1=who
  ·simp -implicitDefEqProofs [hg,ld_at c3,cel_of c3,stm_at c3,stm_upd,ld_same,cel_same,over,bdLatch0]
   exact kv (hk _ (ext_upd n3 e0)) (by simp [canGive,hw0,hg])
  ·simp -implicitDefEqProofs [hg,ld_at c1,cel_of c1,stm_at c1,ld_at c3,cel_of c3,stm_at c3,stm_upd,ld_same,cel_same,over]
   exact kv (hk _ (ext_upd n3 e0)) (by simp [canGive,hg])
end Go.Proofs.YtcnphhhcknhhaaaGreat
namespace Go.Proofs.YtcnphhhcknhhaaaGreat
open Go Go.Den Go.MapKept
set_option linter.unusedSimpArgs false
set_option linter.unusedVariables false
set_option maxRecDepth 20000
variable {K:Value → Heap → Prop}
theorem ringNew_ok (room:Int) {T:Tags} {h:Heap} (w:Wf T h) {g:Tag} (gg:Gd g) (hk:∀ T' h' p,Only (pre g) T h T' h' → RingR T' h' g p (ring0 room) → K (ptr p) h'):callM P qfRZ #[.int .i64 room] h K:=by
 apply qrJZ
 unfold qgRZ
 refine vv_max ?_
 simp -implicitDefEqProofs only [bdRing,ov_s,nwM_s]
 intro p n
 exact hk (tset T p (g ++ [0])) _ p (Only.new _ w n) ⟨_,upd_same' _ _ _,tset_same _ _ _,Rw.nil _ _ _ _ _⟩
theorem ia_arr {n p o i:Nat} {k:IntKind} (hi:i < n):iaV (some (some n,1)) (.pointer (some ⟨p,o,none⟩)) (.int k i)=some (.pointer (some ⟨p,o + i,none⟩)):=by
 have h1:(0:Int) ≤ i∧(i:Int) < n:=by omega
 simp -implicitDefEqProofs [iaV,h1]
theorem feed_over {kv vv : Value} {q : Nat → Value} {j : Nat} {x : Value} (hj : j < 8) : over (feedC kv vv q).toArray (2 + j) [x] = (feedC kv vv fun k => if k = j then x else q k).toArray := by
  unfold feedC
  rw [over_map1 (by omega)]
  congr 1
  apply List.map_congr_left
  intro k _
  match k with
  | 0 => simp [feedG]; omega
  | 1 => simp [feedG]; omega
  | k + 2 => simp only [feedG]; by_cases h : k = j
             · subst h; rw [if_pos (by omega), if_pos rfl]
             · rw [if_neg (by omega), if_neg h]
theorem feedC_len (kv vv:Value) (q:Nat → Value):(feedC kv vv q).length=10:=by simp [feedC]
theorem feedC_congr {kv vv:Value} {q q':Nat → Value} (h:∀ k,k < 8 → q k=q' k):feedC kv vv q=feedC kv vv q':=by
 unfold feedC
 apply List.map_congr_left
 intro k hk
 match k with
 | 0=>rfl
 | 1=>rfl
 | k + 2=>simp only [feedG]; exact h k (by have:=List.mem_range.1 hk; omega)
def FeedNewI (T : Tags) (h : Heap) (g : Tag) (p : Nat) (room : Int) (v : Value) (h' : Heap) : Prop := ∃ (T' : Tags) (j : Nat) (q : Nat → Nat), Only (pre g) T h T' h' ∧ h' p = some (.cells (feedC (.slice none 0 0) (.slice none 0 0) fun k => if k < j then ptr (q k) else .pointer none).toArray qahZ (0, 0)) ∧ T' p = g ++ [0] ∧
      (∀ k, k < j → RingR T' h' (g ++ [1, k]) (q k) (ring0 room)) ∧ j ≤ 8 ∧ v = .int .i64 j
theorem feedNew_ok (room : Int) {T : Tags} {h : Heap} (w : Wf T h) {g : Tag} (gg : Gd g) (hk : ∀ T' h' p, Only (pre g) T h T' h' → FeedR T' h' g p (feed0 room) → K (ptr p) h') : callM P qokZ #[.int .i64 room] h K := by
  apply qvpZ
  unfold qrEZ
  simp -implicitDefEqProofs only [bdFeed, ov_s, nwM_s]
  intro p n
  rw [seqM_eq]
  unfold qtfZ
  refine loop_on [0, 3] (fun s h' => FeedNewI T h g p room (s 7) h') (fun s _ => (8 - num (s 7)).toNat)
    ⟨tset T p (g ++ [0]), 0, fun _ => 0, Only.new _ w n, upd_same' _ _ _, tset_same _ _ _, fun k hk => by omega, by omega, rfl⟩ ?_
  rintro s h1 hf ⟨T1, j, q, o1, hp, tp, hr, hj, s7⟩
  have s0 : s 0 = .int .i64 room := by simpa using hf 0 (by simp)
  have s3 : s 3 = ptr p := by simpa using hf 3 (by simp)
  unfold qteZ
  simp -implicitDefEqProofs only [s7, bin_lss, ov_s, cd_b]
  refine ⟨fun hc => ?_, fun hc => ?_⟩
  · have hlt : j < 8 := by have : ((j : Int) < 8) := by simpa using hc
                           omega
    unfold qtdZ
    simp -implicitDefEqProofs only [s0, s3, ptr, ncV_p, ov_s, faV_p]
    refine ringNew_ok room o1.wf (gg.app [1, j]) fun T2 h2 p2 o2 r2 => ?_
    unfold qtcZ
    have hp2 := o2.k.at hp tp (not_pre (by simp))
    simp -implicitDefEqProofs only [s7, Nat.zero_add, ia_arr hlt, ov_s, ptr]
    rw [stm_at hp2.1 (by simp) (by simp [feedC_len]; omega) (by simp)]
    simp -implicitDefEqProofs only [cells_p, feed_over hlt]
    have hw : IntKind.i64.wrap ((j : Int) + 1) = j + 1 := wrap64_id (by omega) (by omega)
    simp -implicitDefEqProofs [s7, s0, s3, hw]
    have o3 : Only (fun t => t = g ++ [0]) T2 h2 T2 (upd h2 p (.cells (feedC (.slice none 0 0) (.slice none 0 0) fun k => if k = j then ptr p2 else if k < j then ptr (q k) else .pointer none).toArray qahZ (0, 0))) := Only.upd o2.wf hp2.1 hp2.2
    refine ⟨?_, by omega⟩
    refine ⟨T2, j + 1, fun k => if k = j then p2 else q k, (o1.trans (o2.mono fun t => pre_trans)).st hp2.1 (by rw [hp2.2]; exact pre_app g _), ?_, hp2.2, fun k hk => ?_, by omega, by simp⟩
    · rw [upd_same']
      congr 3
      apply feedC_congr
      intro k hk
      by_cases e : k = j
      · subst e; simp [ptr]
      · simp -implicitDefEqProofs only [if_neg e, ptr]; by_cases hkj : k < j
        · rw [if_pos hkj, if_pos (by omega)]
        · rw [if_neg hkj, if_neg (by omega)]
    · by_cases e : k = j
      · subst e; simp only [if_true]
        exact r2.kp o3.k (off_eq (by simp))
      · simp -implicitDefEqProofs only [if_neg e]
        exact ((hr k (by omega)).kp o2.k (off_pre (by simp; omega) (by simp; omega))).kp o3.k (off_eq (by simp))
  · have : j = 8 := by have : ¬ ((j : Int) < 8) := by simpa using hc
                       omega
    subst this
    simp -implicitDefEqProofs [s3]
    refine hk T1 h1 p o1 ⟨.slice none 0 0, .slice none 0 0, q, ?_, tp, .inl ⟨rfl, _, _, rfl⟩, .inl ⟨rfl, _, _, rfl⟩, fun k hk => hr k hk, Sn.nil, Sn.nil⟩
    rw [hp]
    congr 3
end Go.Proofs.YtcnphhhcknhhaaaGreat
namespace Go.Proofs.YtcnphhhcknhhaaaGreat
open Go Go.Den Go.MapKept
set_option linter.unusedSimpArgs false
set_option linter.unusedVariables false
set_option maxRecDepth 20000
def U02 (g t:Tag):Prop:=t=g ++ [0] ∨ t=g ++ [2]
def U012 (g t:Tag):Prop:=t=g ++ [0] ∨ t=g ++ [1] ∨ t=g ++ [2]
theorem U02.up {g t:Tag} (h:U02 g t):U012 g t:=h.elim .inl fun h=>.inr (.inr h)
theorem U012.pre {g t:Tag} (h:U012 g t):Den.pre g t:=by rcases h with rfl | rfl | rfl <;> exact pre_app _ _
theorem U02.one (g:Tag):¬ U02 g (g ++ [1]):=by rintro (h | h) <;> exact ne_tag (by simp) h
theorem U012.nil (g:Tag):¬ U012 g []:=by rintro (h | h | h) <;> simp at h
theorem U012.off (g:Tag) (i:Nat):Off (U012 g) (g ++ [3,i]):=fun t ht=>by
 rintro (h | h | h)
 ·exact off_eq (by simp) t ht h
 ·exact off_eq (by simp) t ht h
 ·exact off_eq (by simp) t ht h
variable {K:Value → Heap → Prop}
theorem did_ok (who kind place:Int) {T:Tags} {h:Heap} {g:Tag} {p:Nat} {H:Hall} (w:Wf T h) (gg:Gd g) {sv av:Value} {Y:Nat → SV} (x:HallX T h g p H sv av Y) (hl:H.acts.length < 1000000)
  (hk:∀ T' h' av',Only (U02 g) T h T' h' → HallX T' h' g p (H.did who kind place) sv av' Y → K (.tuple #[]) h'):callM P qCZ #[ptr p,.int .i64 who,.int .i64 kind,.int .i64 place] h K:=by
 apply quuZ
 unfold qlHZ
 have hp:=x.hp
 simp -implicitDefEqProofs only [hallC] at hp
 simp -implicitDefEqProofs [cel_of hp,bdAct]
 refine Rw.app bsAct unSlAct apAct (by omega) (by simp) (by simp) w x.ac (by unfold maxLen; omega) (by omega) (by omega) (app_ne _ _) fun a av' T1 h1 o1 r1=>?_
 have hp1:=o1.k.at x.hp x.tp (ne_tag (by simp))
 have ho:=r1.one
 rw [stm_at hp1.1 (by simp [ho.2]) (by simp [hallC]) (by simp [ho.1,ho.2])]
 have o2:Only (U02 g) T h T1 (upd h1 p (.cells (over (hallC H sv av).toArray 11 av'.cells.toList) qaCZ (0,0))) :=
  (o1.mono fun t e=>.inr e).trans (Only.upd o1.wf hp1.1 (.inl hp1.2))
 refine hk T1 _ av' o2 ⟨?_,hp1.2,x.st.kp o2.k (U02.one g),?_,fun i hi=>(x.sr i hi).kp (o2.mono fun t=>U02.up).k (U012.off g i) (U012.nil g)⟩
 ·rw [upd_same']; simp [ho.2,hallC,over,Hall.did]
 ·have o3:Only (fun t=>t=g ++ [0]) T1 h1 T1 (upd h1 p (.cells (over (hallC H sv av).toArray 11 av'.cells.toList) qaCZ (0,0))):=Only.upd o1.wf hp1.1 hp1.2
  have:=r1.kp o3.k (ne_tag (by simp))
  simpa [Hall.did,actC] using this
def HallNewI (T:Tags) (h:Heap) (g:Tag) (p:Nat) (c:Cfg) (v:Value) (h':Heap):Prop :=
 ∃ (T':Tags) (i:Nat),Only (pre g) T h T' h'∧HallR T' h' g p (hall0 c i)∧i ≤ c.stripes.toNat∧v = .int .i64 i
theorem hallNew_ok (c : Cfg) (cw : CfgW c) {T : Tags} {h : Heap} (w : Wf T h) {g : Tag} (gg : Gd g)
    (hk1 : rightB c = true → ∀ T' h' p, Only (pre g) T h T' h' → HallR T' h' g p (hall0 c c.stripes.toNat) → K (.tuple #[ptr p, .int .i64 0]) h')
    (hk2 : rightB c = false → ∀ h', Ext h h' → K (.tuple #[.pointer none, .int .i64 1]) h') : callM P qojZ #[.agg (cfgC c).toArray] h K := by
  apply qvmZ
  unfold qrxZ
  refine nw_agg fun v1 h1 n1 e1 c1 => ?_
  have c1' := c1
  simp -implicitDefEqProofs only [cfgC] at c1
  simp -implicitDefEqProofs [ld_at c1, cel_of c1, stm_at c1, stm_upd, ld_same, cel_same, over]
  have ec : Value.agg #[.int .i64 c.stripes, .int .i64 c.sessions, .int .i64 c.queue, .int .i64 c.watches, .int .i64 c.retries, .int .u64 c.epochs, .int .u64 c.start] = .agg (cfgC c).toArray := rfl
  rw [ec]
  refine modRight_ok c fun h2 e2 => ?_
  have c1 := e2 _ _ c1
  have e0 := e1.trans e2
  unfold qsNZ
  simp -implicitDefEqProofs only [unV_n, ov_s, cd_b]
  refine ⟨fun hr => hk2 (by simpa using hr) _ e0, fun hr => ?_⟩
  have hr : rightB c = true := by simpa using hr
  have hn : 1 ≤ c.stripes ∧ c.stripes ≤ 8 := by simp [rightB] at hr; omega
  unfold qsMZ
  simp -implicitDefEqProofs [ld_at c1, cel_of c1, stm_at c1, stm_upd, ld_same, cel_same, over, bdTime, bdHall]
  have w2 := w.ext e0
  refine nw_tag w2 (g ++ [0]) fun p T3 h3 n3 o3 t3 c3 => ?_
  rw [seqM_eq]
  unfold qsLZ
  have b1 : h2 v1 = _ ∧ T v1 = [] := ⟨c1, w v1 n1⟩
  have b1 := o3.see b1 (not_non _)
  have c1 := b1.1
  simp -implicitDefEqProofs [ld_at c1, cel_of c1, stm_at c1, stm_upd, ld_same, cel_same, over]
  have o0 : Only (pre g) T h T3 h3 := (Only.of_ext w e0).up o3 non_up
  have x0 : HallR T3 h3 g p (hall0 c 0) := ⟨.slice none 0 0, .slice none 0 0, fun _ => ⟨.slice none 0 0, .slice none 0 0, .slice none 0 0, .slice none 0 0, 0⟩, c3, t3, Rw.nil _ _ _ _ _, Rw.nil _ _ _ _ _, fun i hi => by simp [hall0] at hi⟩
  refine loop_on [1, 4, 15] (fun s h' => HallNewI T3 h3 g p c (s 16) h') (fun s _ => (c.stripes.toNat - num (s 16)).toNat) ⟨T3, 0, Only.refl o3.wf, x0, by omega, rfl⟩ ?_
  rintro s h4 hf ⟨T4, i, o4, x4, hi, s16⟩
  have s1 : s 1 = ptr v1 := by simpa using hf 1 (by simp)
  have s4 : s 4 = ptr p := by simpa using hf 4 (by simp)
  have s15 : s 15 = .int .i64 c.stripes := by simpa using hf 15 (by simp)
  have b1 := o4.see b1 gg.nil
  have c1 := b1.1
  unfold qsKZ
  simp -implicitDefEqProofs only [s16, s15, bin_lss, ov_s, cd_b]
  refine ⟨fun hc => ?_, fun hc => ?_⟩
  rotate_left
  · have : i = c.stripes.toNat := by have : ¬ ((i : Int) < c.stripes) := by simpa using hc
                                     omega
    subst this
    simp -implicitDefEqProofs [s4]
    exact hk1 hr T4 h4 p (o0.trans o4) x4
  have hlt : i < c.stripes.toNat := by have : ((i : Int) < c.stripes) := by simpa using hc
                                       omega
  obtain ⟨sv, av, Y, x⟩ := x4
  have bp : h4 p = _ ∧ T4 p = _ := ⟨x.hp, x.tp⟩
  simp -implicitDefEqProofs only [hallC] at bp
  have cp := bp.1
  unfold qsJZ
  simp -implicitDefEqProofs [s1, s4, ld_at c1, cel_of c1, stm_at c1, ld_at cp, cel_of cp, stm_at cp, stm_upd, ld_same, cel_same, over]
  refine cellNew_ok _ cw.u1 fun h5 e5 => ?_
  have w4 := o4.wf
  have o5 : Only non T4 h4 T4 h5 := Only.of_ext w4 e5
  have c1 := e5 _ _ c1
  have bp := o5.see bp (not_non _)
  have cp := bp.1
  unfold qsIZ
  simp -implicitDefEqProofs [s1, s4, ld_at c1, cel_of c1, stm_at c1, ld_at cp, cel_of cp, stm_at cp, stm_upd, ld_same, cel_same, over]
  refine feedNew_ok _ o5.wf (gg.app [3, i]) fun T6 h6 fp o6 r6 => ?_
  have bp := o6.see bp (not_pre (by simp))
  have cp := bp.1
  simp -implicitDefEqProofs [ld_at cp, cel_of cp, stm_at cp, stm_upd, ld_same, cel_same, over, cellC, bdStripe]
  refine bs_one bsStripe (by simp) (by omega) fun sb h7 n7 e7 c7 => ?_
  have o7 : Only non T6 h6 T6 h7 := Only.of_ext o6.wf e7
  have bp := o7.see bp (not_non _)
  have cp := bp.1
  have r7 := r6.kp o7.k (Off.non _) (not_non _)
  refine ⟨by simp [ld_at cp, cel_of cp, stm_at cp, stm_upd, ld_same, cel_same, over], ?_⟩
  have st4 : Rw T6 h6 (g ++ [1]) 8 qcyZ sv i _ := (x.st.kp o5.k (not_non _)).kp o6.k (not_pre (by simp))
  have st7 := st4.kp o7.k (not_non _)
  refine Rw.app1 (m := 1) (news := _) unSlStripe apStripe (by omega) o7.wf st7 (cels_one c7 (by simp)) (by simp) (by unfold maxLen; omega) (by omega) fun sv' T8 h8 o8 st8 => ?_
  have bp := o8.see bp (ne_tag (by simp))
  have cp := bp.1
  have ho := st8.one
  have hw : IntKind.i64.wrap ((i : Int) + 1) = i + 1 := wrap64_id (by omega) (by omega)
  simp -implicitDefEqProofs [ld_at cp, cel_of cp, stm_at cp, stm_upd, ld_same, cel_same, over, ho.1, ho.2, s16, s15, s1, s4, hw]
  refine ⟨?_, by omega⟩
  have o9 := fun o' => Only.upd (U := fun t => t = g ++ [0]) (o' := o') o8.wf bp.1 bp.2
  refine ⟨T8, i + 1, ((((o4.up o5 non_up).up o6 fun t => pre_trans).up o7 non_up).up o8 fun t e => e ▸ pre_app _ _).up (o9 _) fun t e => e ▸ pre_app _ _,
    ⟨sv', av, fun k => if k = i then ⟨.slice none 0 0, .slice none 0 0, .slice none 0 0, .slice none 0 0, fp⟩ else Y k, upd_same' _ _ _, bp.2, ?_, ?_, fun k hk => ?_⟩, by omega, by simp⟩
  · have := st8.kp (o9 (.cells #[.int .i64 c.stripes, .int .i64 c.sessions, .int .i64 c.queue, .int .i64 c.watches, .int .i64 c.retries, .int .u64 c.epochs, .int .u64 c.start, .int .u64 c.start, .int .u64 0, .bool false, sv', av] qaCZ (0, 0))).k (ne_tag (by simp))
    simp -implicitDefEqProofs only [hall0]
    rw [seqF_succ]
    have e1 : seqF i (fun k => strC (strp0 c) (if k = i then ⟨.slice none 0 0, .slice none 0 0, .slice none 0 0, .slice none 0 0, fp⟩ else Y k)) = seqF i fun k => strC (strp0 c) (Y k) := seqF_congr fun k hk => by rw [if_neg (by omega)]
    rw [e1]
    simpa [hall0, strC, strp0] using this
  · exact ((((x.ac.kp o5.k (not_non _)).kp o6.k (not_pre (by simp))).kp o7.k (not_non _)).kp o8.k (ne_tag (by simp))).kp (o9 _).k (ne_tag (by simp))
  · have f9 := (o9 (.cells #[.int .i64 c.stripes, .int .i64 c.sessions, .int .i64 c.queue, .int .i64 c.watches, .int .i64 c.retries, .int .u64 c.epochs, .int .u64 c.start, .int .u64 c.start, .int .u64 0, .bool false, sv', av] qaCZ (0, 0))).k
    have a8 : ∀ k, Off (fun t => t = g ++ [1]) (g ++ [3, k]) := fun k => off_eq (by simp)
    have a9 : ∀ k, Off (fun t => t = g ++ [0]) (g ++ [3, k]) := fun k => off_eq (by simp)
    by_cases hki : k = i
    · subst hki
      simp -implicitDefEqProofs only [if_true]
      have := (r7.kp o8.k (a8 _) (by simp)).kp f9 (a9 _) (by simp)
      exact ⟨BookR.nil _, BookR.nil _, this⟩
    · simp -implicitDefEqProofs only [if_neg hki]
      have hki' : k < i := by simp [hall0] at hk; omega
      exact ((((((x.sr k hki').kp o5.k (Off.non _) (not_non _))).kp o6.k (off_pre (by simp; omega) (by simp; omega)) ((gg.app _).nil)).kp o7.k (Off.non _) (not_non _)).kp o8.k (a8 _) (by simp)).kp f9 (a9 _) (by simp)
end Go.Proofs.YtcnphhhcknhhaaaGreat
namespace Go.Proofs.YtcnphhhcknhhaaaGreat
open Go Go.Den Go.MapKept
set_option linter.unusedSimpArgs false
set_option linter.unusedVariables false
set_option maxRecDepth 20000
theorem HallR.up {T T':Tags} {h h':Heap} {g:Tag} {p:Nat} {H:Hall} {U:Tag → Prop} (x:HallR T h g p H) (o:Only U T h T' h') (f:Off U g) (n:¬ U []):HallR T' h' g p H:=x.kp o.k f n
theorem strC_len (X:Strp) (y:SV):(strC X y).length=8:=rfl
theorem HallX.lds {T:Tags} {h:Heap} {g:Tag} {p:Nat} {H:Hall} {sv av:Value} {Y:Nat → SV} (x:HallX T h g p H sv av Y) {s:Nat} (hs:s < H.n) {k:IntKind}:∃ b o,rowOf sv=some b∧h b=some o∧T b=g ++ [1] ∧
  iaV (some (none,8)) sv (.int k s)=some (.pointer (some ⟨b,s * 8,none⟩)) ∧
  ldV (some (some 1)) (.pointer (some ⟨b,s * 8,none⟩)) h=some (.agg #[.int .i64 (H.ss s).who]) ∧
  ldV (some (some 2)) (.pointer (some ⟨b,s * 8 + 1,none⟩)) h=some (.agg (cellC (H.ss s).v (H.ss s).bound).toArray) ∧
  ldV (some (some 2)) (.pointer (some ⟨b,s * 8 + 3,none⟩)) h=some (.agg #[(Y s).sk,(Y s).sv]) ∧
  ldV (some (some 2)) (.pointer (some ⟨b,s * 8 + 5,none⟩)) h=some (.agg #[(Y s).bk,(Y s).bv]) ∧
  cel h b (s * 8 + 7)=some (ptr (Y s).fp) ∧
  ldV (some (some 8)) (.pointer (some ⟨b,s * 8,none⟩)) h=some (.agg (strC (H.ss s) (Y s)).toArray):=by
 obtain ⟨b,h1,h2⟩:=x.st.1.ia (k:=k) hs
 obtain ⟨o,ho⟩:=x.st.1.lt b h1
 have hc:∀ off m,off + m ≤ 8 → cels h b (s * 8 + off) m=some (((strC (H.ss s) (Y s)).drop off).take m):=fun off m hm=>by
  rw [x.st.1.cels h1 (o:=s * 8 + off) (m:=m) (by have:(s + 1) * 8 ≤ H.n * 8:=Nat.mul_le_mul_right _ hs; omega)]
  have:=seqF_at (F:=fun i=>strC (H.ss i) (Y i)) (sz:=8) (fun i _=>strC_len _ _) hs
  rw [← this,List.drop_take,List.take_take,List.drop_drop,Nat.min_eq_left (by omega)]
 refine ⟨b,o,h1,ho,x.st.2 b h1,h2,?_,?_,?_,?_,?_,?_⟩
 ·have:=hc 0 1 (by omega); rw [Nat.add_zero] at this; simp [ldV,this,strC]
 ·simp -implicitDefEqProofs [ldV,hc 1 2 (by omega),strC,cellC]
 ·simp -implicitDefEqProofs [ldV,hc 3 2 (by omega),strC]
 ·simp -implicitDefEqProofs [ldV,hc 5 2 (by omega),strC]
 ·have:=hc 7 1 (by omega)
  obtain ⟨h3,h4⟩:=cels_get this
  have:=h4 0 (by simp [strC])
  simpa [strC] using this
 ·have:=hc 0 8 (by omega); rw [Nat.add_zero] at this; simp [ldV,this,strC]
theorem HallX.stw {T:Tags} {h:Heap} {g:Tag} {p:Nat} {H:Hall} {sv av:Value} {Y:Nat → SV} (x:HallX T h g p H sv av Y) (w:Wf T h) {s b:Nat} (hs:s < H.n) (hb:rowOf sv=some b) {off m o:Nat} {v:Value} {X':Strp} {y':SV}
  (eo:o=s * 8 + off) (hm:v.cells.size=m) (ho:off + m ≤ 8) (h1:v.cells.toList.all (fun u=>u.oneCell')=true) (hc:spl (strC (H.ss s) (Y s)) off v.cells.toList=strC X' y') (hr:StrpR T h (g ++ [3,s]) X' y') {K:Heap → Prop}
  (hk:∀ h',Only (fun t=>t=g ++ [1]) T h T h' → HallX T h' g p (H.put s X') sv av (fun k=>if k=s then y' else Y k) → K h'):stM (some m) (.pointer (some ⟨b,o,none⟩)) v h K:=by
 subst eo
 have tb:=x.st.2 b hb
 refine x.st.1.st hb hm (by have:(s + 1) * 8 ≤ H.n * 8:=Nat.mul_le_mul_right _ hs; omega) (List.all_eq_true.1 h1) fun h' hk' hrow=>?_
 obtain ⟨ob,hob⟩:=x.st.1.lt b hb
 obtain ⟨ob',hob'⟩:=hrow.lt b hb
 have e:h'=upd h b ob':=upd_of hk' hob'
 have o1:Only (fun t=>t=g ++ [1]) T h T h':=by rw [e]; exact Only.upd w hob tb
 have off3:∀ i,Off (fun t=>t=g ++ [1]) (g ++ [3,i]):=fun i=>off_eq (by simp)
 refine hk h' o1 ⟨(o1.k.at x.hp x.tp (ne_tag (by simp))).1,x.tp,⟨?_,x.st.2⟩,x.ac.kp o1.k (ne_tag (by simp)),fun i hi=>?_⟩
 ·rw [seqF_spl (fun i _=>strC_len _ _) hs (by rw [Array.length_toList]; omega)] at hrow
  have:seqF H.n (fset (fun i=>strC (H.ss i) (Y i)) s (spl (strC (H.ss s) (Y s)) off v.cells.toList))=seqF (H.put s X').n fun i=>strC ((H.put s X').ss i) (if i=s then y' else Y i):=by
   refine seqF_congr fun i hi=>?_
   simp -implicitDefEqProofs only [fset,Hall.put,sput]
   by_cases his:i=s
   ·subst his; simp only [if_true]; exact hc
   ·simp -implicitDefEqProofs only [if_neg his]
  rw [this] at hrow
  exact hrow
 ·simp -implicitDefEqProofs only [Hall.put,sput]
  by_cases his:i=s
  ·subst his; simp only [if_true]; exact hr.kp o1.k (off3 _) (by simp)
  ·simp -implicitDefEqProofs only [if_neg his]; exact (x.sr i hi).kp o1.k (off3 _) (by simp)
theorem lc_ne (g:Tag) (gg:Gd g) (s:Tag):¬ (lc=g ++ s):=by obtain ⟨k,r,rfl⟩:=gg; simp
theorem lc_U02 {g:Tag} (gg:Gd g):¬ U02 g lc:=by rintro (h | h) <;> exact lc_ne g gg _ h
theorem U02.pre {g t:Tag} (h:U02 g t):Den.pre g t:=h.up.pre
theorem Only.lst {T:Tags} {h:Heap} {b:Nat} {o o':Obj} (w:Wf T h) (e:h b=some o∧T b=lc):Only (fun t=>t=lc) T h T (upd h b o'):=Only.upd w e.1 e.2
theorem HallR.lst {T:Tags} {h:Heap} {g:Tag} {p:Nat} {H:Hall} (x:HallR T h g p H) (gg:Gd g) {b:Nat} {o o':Obj} (w:Wf T h) (e:h b=some o∧T b=lc):HallR T (upd h b o') g p H :=
 x.kp (Only.lst w e).k gg.off (by simp)
variable {K:Value → Heap → Prop}
theorem look_ok (who:Int) {T:Tags} {h:Heap} {g:Tag} {p:Nat} {H:Hall} (w:Wf T h) (gg:Gd g) (x:HallR T h g p H) (hl:H.acts.length < 1000000)
  (hk:∀ T' h',Only (pre g) T h T' h' → HallR T' h' g p (H.look who) → K (.agg (tmC H.t).toArray) h'):callM P qiLZ #[ptr p,.int .i64 who] h K:=by
 apply qujZ
 unfold qklZ
 rw [zcTime]
 refine nw_tag w lc fun v1 T1 h1 n1 o1 t1 c1=>?_
 obtain ⟨sv,av,Y,x1⟩:=x.up o1 (Off.non _) (not_non _)
 have b1:h1 v1=_∧T1 v1=lc:=⟨c1,t1⟩
 refine did_ok who 3 0 o1.wf gg x1 hl fun T2 h2 av2 o2 x2=>?_
 have b1:=o2.see b1 (lc_U02 gg)
 have c1:=b1.1
 have cp:=x2.hp
 simp -implicitDefEqProofs only [hallC] at cp
 unfold qoDZ
 simp -implicitDefEqProofs [ld_at c1,cel_of c1,stm_at c1,ld_at cp,cel_of cp,stm_at cp,stm_upd,ld_same,cel_same,over]
 exact hk T2 _ (((o1.mono fun _=>non_up _).up o2 fun _=>U02.pre).own n1 b1.1) (HallR.lst ⟨sv,av2,Y,x2⟩ gg o2.wf b1)
end Go.Proofs.YtcnphhhcknhhaaaGreat
namespace Go.Proofs.YtcnphhhcknhhaaaGreat
open Go Go.Den Go.MapKept
set_option linter.unusedSimpArgs false
set_option linter.unusedVariables false
set_option maxRecDepth 20000
theorem zcMap:zc P qaZ=some #[.slice none 0 0,.slice none 0 0]:=by kernel_rfl
theorem eq_pre {g s t:Tag} (h:t=g ++ s):pre g t:=h ▸ pre_app _ _
variable {K:Value → Heap → Prop}
theorem begin2_ok (who:Int) {s:Nat} {T:Tags} {h:Heap} {g:Tag} {p:Nat} {H:Hall} (w:Wf T h) (gg:Gd g) (x:HallR T h g p H) (hs:s < H.n) (h8:H.n ≤ 8) (hl:H.acts.length < 1000000) (hv:U64 (H.ss s).v) (hb:U64 (H.ss s).bound)
  (hk:∀ T' h',Only (pre g) T h T' h' → HallR T' h' g p (H.begin who s) → K (.tuple #[]) h'):callM P qiaZ #[ptr p,.int .i64 who,.int .i64 s] h K:=by
 apply qtOZ
 unfold qiZZ
 refine place_ok s 2 (by omega) ?_
 unfold qnDZ
 obtain ⟨sv,av,Y,x⟩:=x
 refine did_ok who 4 _ w gg x hl fun T2 h2 av2 o2 x2=>?_
 have bp:h2 p=_∧T2 p=_:=⟨x2.hp,x2.tp⟩
 simp -implicitDefEqProofs only [hallC] at bp
 have cp:=bp.1
 obtain ⟨b,ob,rb,hb1,tb,ia,l1,l2,l3,l4,l5,l6⟩:=x2.lds (s:=s) (k:=.i64) hs
 unfold qnCZ
 simp -implicitDefEqProofs [ld_at cp,cel_of cp,stm_at cp,stm_upd,ld_same,cel_same,over,ia,l2]
 refine begin_ok _ _ hv hb fun h3 e3=>?_
 have o3:Only non T2 h2 T2 h3:=Only.of_ext o2.wf e3
 have bp:=o3.see bp (not_non _)
 have cp:=bp.1
 have x3:HallX T2 h3 g p (H.did who 4 (4 * s + 2)) sv av2 Y:=⟨e3 _ _ x2.hp,x2.tp,x2.st.kp o3.k (not_non _),x2.ac.kp o3.k (not_non _),fun i hi=>(x2.sr i hi).kp o3.k (Off.non _) (not_non _)⟩
 unfold qnBZ
 simp -implicitDefEqProofs [ld_at cp,cel_of cp,stm_at cp,stm_upd,ld_same,cel_same,over,ia]
 refine x3.stw o3.wf (off:=1) (X':={ H.ss s with v:=bgn (H.ss s).v (H.ss s).bound }) (y':=Y s) hs rb rfl (by rfl) (by omega) (by simp [cellC,Hall.did]) (by simp [spl,strC,cellC,Hall.did]) (x3.sr s hs) fun h4 o4 x4=>?_
 exact hk T2 h4 (((o2.mono fun _=>U02.pre).up o3 non_up).up o4 fun t=>eq_pre) ⟨sv,av2,_,x4⟩
theorem free_ok {s:Nat} {T:Tags} {h:Heap} {g:Tag} {p:Nat} {H:Hall} (x:HallR T h g p H) (hs:s < H.n)
  (hk:∀ h',Ext h h' → K (.bool (decide ((H.ss s).who=0))) h'):callM P qfJZ #[ptr p,.int .i64 s] h K:=by
 apply qugZ
 unfold qkhZ
 obtain ⟨sv,av,Y,x2⟩:=x
 have cp:=x2.hp
 simp -implicitDefEqProofs only [hallC] at cp
 obtain ⟨b,ob,rb,hb1,tb,ia,l1,l2,l3,l4,l5,l6⟩:=x2.lds (s:=s) (k:=.i64) hs
 simp -implicitDefEqProofs [ld_at cp,cel_of cp,stm_at cp,stm_upd,ld_same,cel_same,over,ia,l1]
 exact lfree_ok _ hk
theorem hstripe_ok (u:ByteArray) (hu:u.size ≤ maxLen) {T:Tags} {h:Heap} {g:Tag} {p:Nat} {H:Hall} (x:HallR T h g p H) (hc:H.c.stripes ≤ 8)
  (hk:K (.int .i64 (stripeOf u H.c.stripes)) h):callM P qexZ #[ptr p,.string u] h K:=by
 apply qsXZ
 unfold qihZ
 obtain ⟨sv,av,Y,x2⟩:=x
 have cp:=x2.hp
 simp -implicitDefEqProofs only [hallC] at cp
 simp -implicitDefEqProofs [ld_at cp,cel_of cp,stm_at cp,stm_upd,ld_same,cel_same,over]
 exact stripe_ok u _ (by omega) hu hk
theorem config_ok {T:Tags} {h:Heap} {g:Tag} {p:Nat} {H:Hall} (x:HallR T h g p H)
  (hk:∀ h',Ext h h' → K (.agg (cfgC H.c).toArray) h'):callM P qeyZ #[ptr p] h K:=by
 apply qsZZ
 unfold qijZ
 obtain ⟨sv,av,Y,x2⟩:=x
 rw [zcCfg]
 simp -implicitDefEqProofs only [nwM_s]
 intro v1 n1
 have hne:=ne_fresh x2.hp n1
 have cp:=x2.hp
 simp -implicitDefEqProofs only [hallC] at cp
 simp -implicitDefEqProofs [ld_at cp,cel_of cp,stm_at cp,stm_skip hne,stm_skip (Ne.symm hne),ld_skip hne,ld_skip (Ne.symm hne),cel_skip hne,cel_skip (Ne.symm hne),stm_upd,ld_same,cel_same,over]
 exact kv (hk _ (Ext.upd n1 _)) rfl
theorem lock_ok (who:Int) {s:Nat} {T:Tags} {h:Heap} {g:Tag} {p:Nat} {H:Hall} (w:Wf T h) (gg:Gd g) (x:HallR T h g p H) (hs:s < H.n) (h8:H.n ≤ 8) (hl:H.acts.length < 1000000) (hw:-1000 ≤ who∧who ≤ 1000000)
  (hk:∀ T' h',Only (pre g) T h T' h' → HallR T' h' g p (H.lock who s) → K (.bool (canTake (H.ss s).who who)) h'):callM P qfLZ #[ptr p,.int .i64 who,.int .i64 s] h K:=by
 apply qumZ
 unfold qkoZ
 obtain ⟨sv,av,Y,x⟩:=x
 have cp:=x.hp
 simp -implicitDefEqProofs only [hallC] at cp
 obtain ⟨b,ob,rb,hb1,tb,ia,l1,l2,l3,l4,l5,l6⟩:=x.lds (s:=s) (k:=.i64) hs
 simp -implicitDefEqProofs [ld_at cp,cel_of cp,stm_at cp,stm_upd,ld_same,cel_same,over,ia,l1]
 refine ltake_ok _ _ hw fun h1 e1=>?_
 have o1:Only non T h T h1:=Only.of_ext w e1
 unfold qoTZ
 simp -implicitDefEqProofs only [exV_0,exV_1,ov_s,zcLatch]
 refine nw_tag o1.wf lc fun v1 T2 h2 n2 o2 t2 c2=>?_
 simp -implicitDefEqProofs [ld_at c2,cel_of c2,stm_at c2,stm_upd,ld_same,cel_same,over]
 have n0:h v1=none:=o1.fresh n2
 have o0:=(o1.trans o2).own (o':=.cells #[.int .i64 (if canTake (H.ss s).who who then who + 1 else (H.ss s).who)] qsZ (0,0)) n0 c2
 have x2:HallX T2 (upd h2 v1 (.cells #[.int .i64 (if canTake (H.ss s).who who then who + 1 else (H.ss s).who)] qsZ (0,0))) g p H sv av Y :=
  ⟨(o0.k.at x.hp x.tp (not_non _)).1,(o0.k.at x.hp x.tp (not_non _)).2,x.st.kp o0.k (not_non _),x.ac.kp o0.k (not_non _),fun i hi=>(x.sr i hi).kp o0.k (Off.non _) (not_non _)⟩
 rw [seqM_eq]
 unfold qoSZ
 cases hc:canTake (H.ss s).who who with
 | false =>
  simp -implicitDefEqProofs only [hc] at x2 o0
  unfold qoRZ
  simp -implicitDefEqProofs
  exact kb (hk T2 _ (o0.mono non_up) (by simp only [Hall.lock,hc]; exact ⟨sv,av,Y,x2⟩)) hc
 | true =>
  simp -implicitDefEqProofs only [hc,if_true] at x2 o0 ⊢
  have b1:(upd h2 v1 (.cells #[.int .i64 (who + 1)] qsZ (0,0))) v1=_∧T2 v1=lc:=⟨upd_same' _ _ _,t2⟩
  simp -implicitDefEqProofs only [cd_b,true_implies]
  refine ⟨?_,fun hx=>by cases hx⟩
  unfold qoQZ
  refine place_ok s 1 (by omega) ?_
  unfold qoPZ
  refine did_ok who 5 _ o0.wf gg x2 hl fun T3 h3 av3 o3 x3=>?_
  have b1:=o3.see b1 (lc_U02 gg)
  have c1:=b1.1
  have cp:=x3.hp
  simp -implicitDefEqProofs only [hallC] at cp
  obtain ⟨b,ob,rb,hb1,tb,ia,l1,l2,l3,l4,l5,l6⟩:=x3.lds (s:=s) (k:=.i64) hs
  unfold qoOZ
  simp -implicitDefEqProofs [ld_at cp,cel_of cp,stm_at cp,ld_at c1,cel_of c1,stm_at c1,stm_upd,ld_same,cel_same,over,ia]
  refine x3.stw o3.wf (off:=0) (X':={ H.ss s with who:=who + 1 }) (y':=Y s) hs rb rfl (by rfl) (by omega) (by simp) (by simp [spl,strC,Hall.did]) (x3.sr s hs) fun h4 o4 x4=>?_
  exact kb (hk T3 h4 (((o0.mono non_up).up o3 fun _=>U02.pre).up o4 fun t=>eq_pre) (by simp only [Hall.lock,hc]; exact ⟨sv,av3,_,x4⟩)) hc
theorem unlock_ok (who:Int) {s:Nat} {T:Tags} {h:Heap} {g:Tag} {p:Nat} {H:Hall} (w:Wf T h) (gg:Gd g) (x:HallR T h g p H) (hs:s < H.n) (h8:H.n ≤ 8) (hl:H.acts.length < 1000000) (hw:-1000000 ≤ (H.ss s).who∧(H.ss s).who ≤ 1000000)
  (hk:∀ T' h',Only (pre g) T h T' h' → HallR T' h' g p (H.unlock who s) → K (.bool (canGive (H.ss s).who who)) h'):callM P qcqZ #[ptr p,.int .i64 who,.int .i64 s] h K:=by
 apply qthZ
 unfold qioZ
 obtain ⟨sv,av,Y,x⟩:=x
 have cp:=x.hp
 simp -implicitDefEqProofs only [hallC] at cp
 obtain ⟨b,ob,rb,hb1,tb,ia,l1,l2,l3,l4,l5,l6⟩:=x.lds (s:=s) (k:=.i64) hs
 simp -implicitDefEqProofs [ld_at cp,cel_of cp,stm_at cp,stm_upd,ld_same,cel_same,over,ia,l1]
 refine lgive_ok _ _ hw fun h1 e1=>?_
 have o1:Only non T h T h1:=Only.of_ext w e1
 unfold qlPZ
 simp -implicitDefEqProofs only [exV_0,exV_1,ov_s,zcLatch]
 refine nw_tag o1.wf lc fun v1 T2 h2 n2 o2 t2 c2=>?_
 simp -implicitDefEqProofs [ld_at c2,cel_of c2,stm_at c2,stm_upd,ld_same,cel_same,over]
 have n0:h v1=none:=o1.fresh n2
 have o0:=(o1.trans o2).own (o':=.cells #[.int .i64 (if canGive (H.ss s).who who then 0 else (H.ss s).who)] qsZ (0,0)) n0 c2
 have x2:HallX T2 (upd h2 v1 (.cells #[.int .i64 (if canGive (H.ss s).who who then 0 else (H.ss s).who)] qsZ (0,0))) g p H sv av Y :=
  ⟨(o0.k.at x.hp x.tp (not_non _)).1,(o0.k.at x.hp x.tp (not_non _)).2,x.st.kp o0.k (not_non _),x.ac.kp o0.k (not_non _),fun i hi=>(x.sr i hi).kp o0.k (Off.non _) (not_non _)⟩
 rw [seqM_eq]
 unfold qlOZ
 cases hc:canGive (H.ss s).who who with
 | false =>
  simp -implicitDefEqProofs only [hc] at x2 o0
  unfold qlNZ
  simp -implicitDefEqProofs
  exact kb (hk T2 _ (o0.mono non_up) (by simp only [Hall.unlock,hc]; exact ⟨sv,av,Y,x2⟩)) hc
 | true =>
  simp -implicitDefEqProofs only [hc,if_true] at x2 o0 ⊢
  have b1:(upd h2 v1 (.cells #[.int .i64 0] qsZ (0,0))) v1=_∧T2 v1=lc:=⟨upd_same' _ _ _,t2⟩
  simp -implicitDefEqProofs only [cd_b,true_implies]
  refine ⟨?_,fun hx=>by cases hx⟩
  unfold qlMZ
  refine place_ok s 1 (by omega) ?_
  unfold qlLZ
  refine did_ok who 6 _ o0.wf gg x2 hl fun T3 h3 av3 o3 x3=>?_
  have b1:=o3.see b1 (lc_U02 gg)
  have c1:=b1.1
  have cp:=x3.hp
  simp -implicitDefEqProofs only [hallC] at cp
  obtain ⟨b,ob,rb,hb1,tb,ia,l1,l2,l3,l4,l5,l6⟩:=x3.lds (s:=s) (k:=.i64) hs
  unfold qlKZ
  simp -implicitDefEqProofs [ld_at cp,cel_of cp,stm_at cp,ld_at c1,cel_of c1,stm_at c1,stm_upd,ld_same,cel_same,over,ia]
  refine x3.stw o3.wf (off:=0) (X':={ H.ss s with who:=0 }) (y':=Y s) hs rb rfl (by rfl) (by omega) (by simp) (by simp [spl,strC,Hall.did]) (x3.sr s hs) fun h4 o4 x4=>?_
  exact kb (hk T3 h4 (((o0.mono non_up).up o3 fun _=>U02.pre).up o4 fun t=>eq_pre) (by simp only [Hall.unlock,hc]; exact ⟨sv,av3,_,x4⟩)) hc
end Go.Proofs.YtcnphhhcknhhaaaGreat
namespace Go.Den
open Go
set_option linter.unusedVariables false
variable {P:Program} {g:Nat → Bool}
def It (P:Program) (gf:FuncId) (lb:Array Value) (xs:List (Array Value)) (hA:Heap):Prop :=
 ∀ (yv:Value) (I:Nat → Heap → Prop) (S:Heap → Prop) (h:Heap) (K:Value → Heap → Prop),(∀ i h',I i h' → Ext hA h') → (∀ i h' h'',I i h' → Ext h' h'' → I i h'') → I 0 h →
  (∀ i (hi:i < xs.length) h' (K':Value → Heap → Prop),I i h' → (∀ h'',I (i + 1) h'' → K' (.bool true) h'') → (∀ h'',S h'' → K' (.bool false) h'') →
   nxM P (do let d ← Deferred.ofValue yv xs[i]; invoke d.target d.args) h' K') →
  (∀ v h',I xs.length h' → K v h') → (∀ v h',S h' → K v h') → callM P gf (#[yv] ++ lb) h K
theorem getD_fold {ps:List Tmp}:∀ {xs:List Value} {tmps:Array Value} {s:Env},(∀ i,tmps.getD i undef=s i) → (ps.all fun t=>Nat.blt t tmps.size)=true →
  (∀ i,((ps.zip xs).foldl (fun tmps (x:Tmp × Value)=>tmps.setIfInBounds x.1 x.2) tmps).getD i undef=puts s (ps.zip xs) i)∧((ps.zip xs).foldl (fun tmps (x:Tmp × Value)=>tmps.setIfInBounds x.1 x.2) tmps).size=tmps.size:=by
 induction ps with
 | nil=>intro xs tmps s hs _; exact ⟨by simpa using hs,by simp⟩
 | cons p ps ih =>
  intro xs tmps s hs hp
  cases xs with
  | nil=>exact ⟨by simpa using hs,by simp⟩
  | cons x xs =>
   simp only [List.all_cons,Bool.and_eq_true,Nat.blt_eq] at hp
   simp only [List.zip_cons_cons,List.foldl_cons,puts]
   have h1:∀ i,(tmps.setIfInBounds p x).getD i undef=put s p x i:=fun i=>by
    by_cases hi:i=p
    ·subst hi
     simp [put,hp.1]
    ·have:=hs i
     simp only [Array.getD_eq_getD_getElem?] at this ⊢
     rw [Array.getElem?_setIfInBounds_ne (Ne.symm hi),this]
     have:Nat.beq i p=false:=by cases hh:Nat.beq i p with
      | false=>rfl
      | true=>exact absurd (Nat.eq_of_beq_eq_true hh) hi
     simp [put,this]
   obtain ⟨h2,h3⟩:=ih (xs:=xs) h1 (by simpa using hp.2)
   exact ⟨h2,by rw [h3]; simp⟩
theorem keep_upd {h:Heap} {l:Nat} {o:Obj}:Keep (some l) h (upd h l o):=fun b x e n=>by rw [upd_ne (fun hb=>n (by rw [hb]))]; exact e
variable {K:Value → Heap → Prop}
theorem round_of_den2 (hg:GoodP P g) (hm:P.follows .mixedOrders=true) {l:Nat} {fn:FuncId} {tmps:Array Value} {zas bd:Code} {s:Env} {h:Heap}
  (hs:∀ i,tmps.getD i undef=s i) (hf:(fits tmps.size zas && fits tmps.size bd && nrf zas && nrf bd)=true) {QA:Post} (hd:den P g zas [] s h QA)
  (hQA:∀ m2 s2 h2,QA .normal m2 s2 h2 → ∃ r:Loop,h2 l=some (.loop r)∧r.state = .ready∧∃ QB:Post,den P g bd m2 s2 (upd h2 l (.loop { r with state:=.busy })) QB∧∀ e m4 s4 h4,QB e m4 s4 h4 → endM l K e m4 s4 h4)
  (hQN:∀ e m2 s2 h2,e ≠ .normal → ¬ QA e m2 s2 h2):roundM P l fn tmps zas bd h K:=by
 intro w hw
 subst hw
 simp only [Bool.and_eq_true] at hf
 obtain ⟨⟨⟨f1,f2⟩,f3⟩,f4⟩:=hf
 refine roundIn_of_wpIn (F:=Fence.wide) trivial (wpIn_mono (den_sound hg hm (n:=tmps.size) (r:=some l) zas [] s _ _ w (.inr f3) f1 ⟨rfl,hs,rfl⟩ hd) ?_)
 intro e a' w' hq
 cases e with
 | normal =>
  obtain ⟨m',s',hR',ho,hq⟩:=hq
  obtain ⟨r,hl,hst,QB,hb,hQB⟩:=hQA _ _ _ hq
  have hl':w'.heap[l]?=some (.loop r):=hl
  refine ⟨_,run_beginRound hl' hst,?_⟩
  rw [← abs_putObj hl'] at hb
  have ho2:Okw w (w'.putObj l (.loop { r with state:=.busy })):=ho.trans ⟨rfl,rfl,rfl,by simp [World.putObj]⟩
  refine wpIn_mono (den_sound hg hm (n:=tmps.size) (r:=some l) bd m' s' _ _ _ (.inr f4) f2 hR' hb) ?_
  intro e2 a2 w2 hq2
  cases e2 with
  | normal =>
   obtain ⟨m2,s2,hR2,ho3,hq2⟩:=hq2
   obtain ⟨r2,hl2,hk⟩:=hQB _ _ _ _ hq2
   have hl2':w2.heap[l]?=some (.loop r2):=hl2
   refine ⟨_,_,run_endRound none hl2',_,rfl,(ho2.trans ho3).trans ⟨rfl,rfl,rfl,by simp [World.putObj]⟩,?_⟩
   rw [abs_putObj hl2']; exact hk
  | ret =>
   obtain ⟨m2,s2,hR2,ho3,hq2⟩:=hq2
   obtain ⟨r2,hl2,hk⟩:=hQB _ _ _ _ hq2
   have hl2':w2.heap[l]?=some (.loop r2):=hl2
   refine ⟨_,_,run_endRound (some .ret) hl2',_,rfl,(ho2.trans ho3).trans ⟨rfl,rfl,rfl,by simp [World.putObj]⟩,?_⟩
   rw [abs_putObj hl2']; exact hk
  | exit id =>
   obtain ⟨m2,s2,hR2,ho3,hq2⟩:=hq2
   obtain ⟨r2,hl2,hk⟩:=hQB _ _ _ _ hq2
   have hl2':w2.heap[l]?=some (.loop r2):=hl2
   refine ⟨_,_,run_endRound (some (.exit id)) hl2',_,rfl,(ho2.trans ho3).trans ⟨rfl,rfl,rfl,by simp [World.putObj]⟩,?_⟩
   rw [abs_putObj hl2']; exact hk
  | goto t=>obtain ⟨m2,s2,hR2,ho3,hq2⟩:=hq2; obtain ⟨r2,hl2,hk⟩:=hQB _ _ _ _ hq2; exact hk.elim
  | panic c=>exact hq2.elim
  | outgrown=>exact hq2.elim
 | goto t=>obtain ⟨_,_,_,_,hk⟩:=hq; exact (hQN _ _ _ _ (by simp) hk).elim
 | ret=>obtain ⟨_,_,_,_,hk⟩:=hq; exact (hQN _ _ _ _ (by simp) hk).elim
 | exit id=>obtain ⟨_,_,_,_,hk⟩:=hq; exact (hQN _ _ _ _ (by simp) hk).elim
 | panic c=>exact hq.elim
 | outgrown=>exact hq.elim
theorem rf_it (hg:GoodP P g) (hm:P.follows .mixedOrders=true) {gv:Value} {gf:FuncId} {lb:Array Value} {xs:List (Array Value)} {hA:Heap} (hgv:gv = .func (.func gf) #[] lb) (hgf:g gf=true) (it:It P gf lb xs hA)
  {ps:Array Tmp} {zas bd:Code} {m:List Nat} {s:Env} {h:Heap} {Q:Post} (J:Nat → Heap → Prop) (S:Exit → Heap → Prop)
  (h0:J 0 h) (hx:∀ i h',J i h' → Ext hA h') (hk:∀ l,h l=none → ∀ i h' h'',J i h' → Keep (some l) h' h'' → J i h'') (hkS:∀ l,h l=none → ∀ e h' h'',S e h' → Keep (some l) h' h'' → S e h'')
  (hsz:∀ i (hi:i < xs.length),xs[i].size=ps.size)
  (round:∀ i (hi:i < xs.length) l b h' h2,h l=none → h b=none → J i h' → Keep (some l) h' h2 → (∃ o,h2 l=some o) → (∃ o,h2 b=some o) →
   ∃ A:List Nat → Env → Heap → Prop,(∀ m2 s2 h3 h4,A m2 s2 h3 → Keep (some l) h3 h4 → A m2 s2 h4) ∧
    den P g zas [] (puts s (ps.toList.zip xs[i].toList)) h2 (fun e m2 s2 h3=>e = .normal∧A m2 s2 h3∧h3 l=h2 l∧h3 b=h2 b) ∧
    ∀ m2 s2 h3,A m2 s2 h3 → (∃ o,h3 l=some o) → (∃ o,h3 b=some o) →
     den P g bd m2 s2 h3 (fun e _ _ h4=>h4 l=h3 l∧h4 b=h3 b∧match e with
      | .normal=>J (i + 1) h4
      | .ret=>S .ret h4
      | .exit id=>S (.exit id) h4
      | _=>False))
  (hend:∀ b h',h b=none → h' b=some (.deferred (some [])) → J xs.length h' → Q .normal (b :: m) s h')
  (hret:∀ b h',h b=none → h' b=some (.deferred (some [])) → S .ret h' → Q .ret (b :: m) s h')
  (hexit:∀ id b h',h b=none → h' b=some (.deferred (some [])) → S (.exit id) h' → Q (.exit id) (b :: m) s h'):rfM P g gv ps zas bd m s h Q:=by
 refine ⟨gf,lb,hgv,hgf,fun fn tmps b l hs hf hb hl hlb=>?_⟩
 obtain ⟨R,hR⟩:∃ R:Loop,R={ state:=.ready,pending:=none,fn,tmps,params:=ps,assign:=zas,body:=bd,defers:=b }:=⟨_,rfl⟩
 rw [← hR]
 have hfb:fz (fun _=>[]) h=h:=fz_nil h
 let I:Nat → Heap → Prop:=fun i h'=>J i h'∧h' b=some (.deferred (some []))∧h' l=some (.loop R)
 let St:Heap → Prop:=fun h'=>h' b=some (.deferred (some []))∧((∃ r:Loop,h' l=some (.loop r)∧r.state = .done∧r.pending=some .ret∧S .ret h') ∨ (∃ id,∃ r:Loop,h' l=some (.loop r)∧r.state = .done∧r.pending=some (.exit id)∧S (.exit id) h'))
 have e1:Ext h (upd (upd h b (.deferred (some []))) l (.loop R)):=ext_upd hl (Ext.upd hb _)
 have start:I 0 (upd (upd h b (.deferred (some []))) l (.loop R)):=by
  refine ⟨hk l hl 0 h _ h0 fun k o e _=>e1 k o e,?_,upd_same' _ _ _⟩
  rw [upd_ne (Ne.symm hlb),upd_same']
 refine it (.func (.yield l) #[] #[]) I St _ _ (fun i h' hi=>hx i h' hi.1) (fun i h' h'' hi e=>⟨hk l hl i h' h'' hi.1 fun k o ek _=>e k o ek,e _ _ hi.2.1,e _ _ hi.2.2⟩) start ?_ ?_ ?_
 ·intro i hi h' K' hI hK1 hK2
  obtain ⟨hJ,hb',hl'⟩:=hI
  have hps:ps=R.params:=by rw [hR]
  refine nx_yield hl' (by rw [hsz i hi,hps]) ?_
  simp only [Bool.and_eq_true] at hf
  obtain ⟨⟨⟨⟨f1,f2⟩,f3⟩,f4⟩,f5⟩:=hf
  have hR1:R.params=ps:=hps.symm
  have hR2:R.tmps=tmps:=by rw [hR]
  have hR3:R.assign=zas:=by rw [hR]
  have hR4:R.body=bd:=by rw [hR]
  have hR5:R.state = .ready:=by rw [hR]
  rw [hR1,hR2,hR3,hR4]
  have hfold:(ps.zip xs[i]).foldl (fun tmps (t,a)=>tmps.setIfInBounds t a) tmps=(ps.toList.zip xs[i].toList).foldl (fun tmps (x:Tmp × Value)=>tmps.setIfInBounds x.1 x.2) tmps:=by
   rw [← Array.foldl_toList,Array.toList_zip]
  rw [hfold]
  obtain ⟨g1,g2⟩:=getD_fold (ps:=ps.toList) (xs:=xs[i].toList) hs f1
  obtain ⟨A,a1,a2,a3⟩:=round i hi l b h' h' hl hb hJ (fun k o e _=>e) ⟨_,hl'⟩ ⟨_,hb'⟩
  refine round_of_den2 hg hm g1 (by rw [g2]; simp [f2,f3,f4,f5]) a2 (fun m2 s2 h2 hq=>?_) (fun e m2 s2 h2 he hq=>he hq.1)
  obtain ⟨_,hA2,hl2,hb2⟩:=hq
  have hl2':h2 l=some (.loop R):=by rw [hl2]; exact hl'
  have hb2':h2 b=some (.deferred (some [])):=by rw [hb2]; exact hb'
  refine ⟨R,hl2',hR5,_,a3 m2 s2 _ (a1 _ _ _ _ hA2 keep_upd) ⟨_,upd_same' _ _ _⟩ ⟨_,by rw [upd_ne (Ne.symm hlb)]; exact hb2'⟩,fun e m4 s4 h4 hq=>?_⟩
  obtain ⟨hl4,hb4,hq⟩:=hq
  rw [upd_same'] at hl4
  rw [upd_ne (Ne.symm hlb)] at hb4
  have hb4':h4 b=some (.deferred (some [])):=by rw [hb4]; exact hb2'
  refine ⟨_,hl4,?_⟩
  cases e with
  | normal =>
   refine hK1 _ ⟨hk l hl _ _ _ hq keep_upd,by rw [upd_ne (Ne.symm hlb)]; exact hb4',?_⟩
   rw [upd_same',hR]
  | ret =>
   refine hK2 _ ⟨by rw [upd_ne (Ne.symm hlb)]; exact hb4',.inl ⟨_,upd_same' _ _ _,rfl,rfl,hkS l hl _ _ _ hq keep_upd⟩⟩
  | exit id =>
   refine hK2 _ ⟨by rw [upd_ne (Ne.symm hlb)]; exact hb4',.inr ⟨id,_,upd_same' _ _ _,rfl,rfl,hkS l hl _ _ _ hq keep_upd⟩⟩
  | _=>exact hq.elim
 ·intro v h' hI
  refine ⟨R,hI.2.2,by rw [hR]; simp,?_⟩
  have:R.pending=none:=by rw [hR]
  rw [this]
  exact hend b _ hb (by rw [upd_ne (Ne.symm hlb)]; exact hI.2.1) (hk l hl _ _ _ hI.1 keep_upd)
 ·intro v h' hS
  obtain ⟨hb',hS⟩:=hS
  rcases hS with ⟨r,hl',hst,hp,hs'⟩ | ⟨id,r,hl',hst,hp,hs'⟩
  ·refine ⟨r,hl',by rw [hst]; simp,?_⟩
   rw [hp]
   exact hret b _ hb (by rw [upd_ne (Ne.symm hlb)]; exact hb') (hkS l hl _ _ _ hs' keep_upd)
  ·refine ⟨r,hl',by rw [hst]; simp,?_⟩
   rw [hp]
   exact hexit id b _ hb (by rw [upd_ne (Ne.symm hlb)]; exact hb') (hkS l hl _ _ _ hs' keep_upd)
@[simp] theorem retM_1 {P:Program} {rs:List ResultVar} {R:Value → Heap → Prop} {b:Nat} {s:Env} {h:Heap}:retM P rs R .ret [b] s h=(h b=some (.deferred (some []))∧resL P s (upd h b (.deferred none)) rs (fun l=>R (tupV l) (upd h b (.deferred none)))):=rfl
end Go.Den
namespace Go.Proofs.YtcnphhhcknhhaaaGreat
open Go Go.Den Go.MapKept
set_option linter.unusedSimpArgs false
set_option linter.unusedVariables false
set_option maxRecDepth 20000
variable {K:Value → Heap → Prop}
theorem late_ok (a b:Int) {h:Heap} (hk:K (.bool (late a b)) h):callM P qlyZ #[.int .u64 a,.int .u64 b] h K:=by
 apply qvkZ
 unfold qqCZ
 simpa [late] using hk
theorem better_ok (a b:Sess) {h:Heap} (hk:∀ h',Ext h h' → K (.bool (better a b)) h'):callM P qnTZ #[.agg (sessC a).toArray,.agg (sessC b).toArray] h K:=by
 apply quQZ
 unfold qppZ
 refine nw_agg fun v1 h1 n1 e1 c1=>?_
 refine nw_agg fun v3 h2 n3 e3 c3=>?_
 have c1:=e3 _ _ c1
 simp -implicitDefEqProofs only [sessC] at c1 c3
 simp +contextual -implicitDefEqProofs [ld_at c1,cel_of c1,stm_at c1,ld_at c3,cel_of c3,stm_at c3,stm_upd,ld_same,cel_same,over]
 exact kb (hk _ (e1.trans e3)) (by simp [better])
theorem zcSess:zc P qfZ=some #[.int .i64 0,.int .i64 0,.int .i64 0,.int .u64 0]:=by kernel_rfl
theorem zcPres:zc P qqZ=some #[.int .i64 0,.int .i64 0,.int .i64 0]:=by kernel_rfl
theorem zcInt:zc P qjZ=some #[.int .i64 0]:=by kernel_rfl
def liveS (l:List Sess) (now:Int):List Sess:=l.filter fun s=>!late now s.un
def liveX (l:List Sess) (now:Int):List (Array Value):=(liveS l now).map fun s=>#[.agg (sessC s).toArray]
theorem filter_at {α:Type} (p:α → Bool):∀ (l:List α) (k:Nat) (hk:k < l.length),p l[k]=true → (l.filter p)[((l.take k).filter p).length]?=some l[k]
 | x :: l,0,_,h=>by simp only [List.getElem_cons_zero] at h; simp [List.filter_cons,h]
 | x :: l,k + 1,hk,h=>by
  simp -implicitDefEqProofs only [List.getElem_cons_succ] at h ⊢
  have:=filter_at p l k (by simpa using hk) h
  rw [List.take_succ_cons,List.filter_cons,List.filter_cons]
  split
  ·simpa using this
  ·exact this
theorem filter_take {α:Type} (p:α → Bool) (l:List α) (k:Nat) (hk:k < l.length):((l.take (k + 1)).filter p).length=((l.take k).filter p).length + if p l[k] then 1 else 0:=by
 rw [List.take_succ_eq_append_getElem hk,List.filter_append,List.length_append]
 congr 1
 simp -implicitDefEqProofs [List.filter_cons]
 split <;> simp
theorem live_it {hA : Heap} {a b : Nat} {v : Value} {now : Int} {l : List Sess} (ca : hA a = some (.cells #[v] qhZ (0, 0))) (cb : hA b = some (.cells #[.int .u64 now] qamZ (0, 0))) (x : Sl 4 SessR hA v l) :
    It P qlxZ #[ptr a, ptr b] (liveX l now) hA := by
  intro yv I S h K hx hs h0 hround hK1 hK2
  apply quGZ
  unfold qoeZ
  have ca0 := hx _ _ h0 _ _ ca
  have hlen := x.len
  simp -implicitDefEqProofs [ld_at ca0, cel_of ca0, stm_at ca0, stm_upd, ld_same, cel_same, over, hlen]
  refine loop_on [0, 2, 6, 7] (fun s h' => ∃ k : Nat, k ≤ l.length ∧ s 8 = .int .i64 k ∧ I ((l.take k).filter fun s => !late now s.un).length h') (fun s _ => (l.length - num (s 8)).toNat) ⟨0, by omega, rfl, by simpa using h0⟩ ?_
  rintro s h1 hf ⟨k, hk, s8, hI⟩
  have s0 : s 0 = yv := by simpa using hf 0 (by simp)
  have s2 : s 2 = ptr b := by simpa using hf 2 (by simp)
  have s6 : s 6 = v := by simpa using hf 6 (by simp)
  have s7 : s 7 = .int .i64 l.length := by simpa using hf 7 (by simp)
  unfold qpRZ
  simp -implicitDefEqProofs only [s8, s7, bin_lss, ov_s, cd_b]
  refine ⟨fun hc => ?_, fun hc => ?_⟩
  rotate_left
  · have : k = l.length := by have : ¬ ((k : Int) < l.length) := by simpa using hc
                              omega
    subst this
    simp -implicitDefEqProofs
    rw [List.take_length] at hI
    exact hK1 _ _ (by simpa [liveX, liveS] using hI)
  have hlt : k < l.length := by have : ((k : Int) < l.length) := by simpa using hc
                                omega
  have x1 := x.ext (R := SessR) (@SessR.ext) (hx _ _ hI)
  obtain ⟨eb, eo, c, i1, i2, i3⟩ := x1.at (k := .i64) (i := k) (by omega) (by omega)
  simp -implicitDefEqProofs only [Int.toNat_natCast] at i3
  have hmx := x.max
  have hw : IntKind.i64.wrap ((k : Int) + 1) = k + 1 := wrap64_id (by omega) (by omega)
  unfold qpQZ
  simp -implicitDefEqProofs only [s6, s8, i1, ov_s, ldV_n i2, zcSess]
  rw [show c = sessC l[k] from i3]
  refine nw_st rfl rfl (by simp [sessC]) fun v9 h2 n2 e2 c2 => ?_
  simp -implicitDefEqProofs only [sessC, cells_agg] at c2
  have hI2 := hs _ _ _ hI e2
  have cb2 := hx _ _ hI2 _ _ cb
  simp -implicitDefEqProofs [s2, ld_at c2, cel_of c2, stm_at c2, ld_at cb2, cel_of cb2, stm_at cb2, stm_upd, ld_same, cel_same, over]
  refine late_ok _ _ ?_
  unfold qpPZ
  cases hl : late now l[k].un with
  | true =>
    simp -implicitDefEqProofs
    unfold qkuZ
    simp -implicitDefEqProofs [s8, hw, s0, s2, s6, s7]
    refine ⟨⟨k + 1, by omega, by simp, ?_⟩, by omega⟩
    rw [filter_take _ _ _ hlt]
    simpa [hl] using hI2
  | false =>
    have hat := filter_at (fun s => !late now s.un) l k hlt (by simp [hl])
    obtain ⟨hj, hat⟩ := List.getElem?_eq_some_iff.1 hat
    have hj' : ((l.take k).filter fun s => !late now s.un).length < (liveX l now).length := by simpa [liveX, liveS] using hj
    have hx' : (liveX l now)[((l.take k).filter fun s => !late now s.un).length] = #[.agg (sessC l[k]).toArray] := by simp [liveX, liveS, hat]
    simp -implicitDefEqProofs [s0, ld_at c2, cel_of c2, stm_at c2, stm_upd, ld_same, cel_same, over]
    have hr := hround _ hj' h2
    rw [hx'] at hr
    refine hr _ hI2 (fun h3 hI3 => ?_) (fun h3 hS => ?_)
    · simp -implicitDefEqProofs
      unfold qkuZ
      simp -implicitDefEqProofs [s8, hw, s0, s2, s6, s7]
      refine ⟨⟨k + 1, by omega, by simp, ?_⟩, by omega⟩
      rw [filter_take _ _ _ hlt]
      simpa [hl] using hI3
    · simp -implicitDefEqProofs
      unfold qpOZ
      simp -implicitDefEqProofs
      exact hK2 _ _ hS
end Go.Proofs.YtcnphhhcknhhaaaGreat
namespace Go.Proofs.YtcnphhhcknhhaaaGreat
open Go Go.Den Go.MapKept
set_option linter.unusedSimpArgs false
set_option linter.unusedVariables false
set_option maxRecDepth 20000
theorem tgPres:tagg P qqZ=some (some 3):=by kernel_rfl
def stepL (x:Sess × Nat) (s:Sess):Sess × Nat:=(if x.2=0 || better s x.1 then s else x.1,x.2 + 1)
def accL (l:List Sess) (now:Int) (i:Nat):Sess × Nat:=((liveS l now).take i).foldl stepL (⟨0,0,0,0⟩,0)
theorem accL_s {l:List Sess} {now:Int} {i:Nat} (hi:i < (liveS l now).length):accL l now (i + 1)=stepL (accL l now i) (liveS l now)[i]:=by
 unfold accL
 rw [List.take_succ_eq_append_getElem hi,List.foldl_append]; rfl
theorem accL_all (l:List Sess) (now:Int):accL l now (liveS l now).length=ofAcc l now:=by
 unfold accL ofAcc liveS
 rw [List.take_length,List.foldl_filter]
 congr 1
 funext x s
 simp -implicitDefEqProofs only [ofStep,stepL]
 cases late now s.un <;> simp
theorem accL_n (l:List Sess) (now:Int):∀ i,i ≤ (liveS l now).length → (accL l now i).2=i
 | 0,_=>rfl
 | i + 1,h=>by rw [accL_s (by omega)]; simp only [stepL]; rw [accL_n l now i (by omega)]
def OfJ (hA h:Heap) (v1 v3 v5:Nat) (l:List Sess) (now:Int) (i:Nat) (h':Heap):Prop:=Ext hA h'∧Ext h h'∧h' v1=some (.cells #[.int .i64 0,.int .i64 0,.int .i64 0] qqZ (0,0)) ∧
 h' v3=some (.cells (sessC (accL l now i).1).toArray qfZ (0,0))∧h' v5=some (.cells #[.int .i64 i] qjZ (0,0))
def OfA (hA h:Heap) (v1 v3 v5:Nat) (l:List Sess) (now:Int) (i:Nat) (s:Sess) (l' b':Nat) (m2:List Nat) (s2:Env) (h3:Heap):Prop :=
 m2=[]∧∃ sb,s2 7=ptr sb∧s2 5=ptr v3∧s2 6=ptr v5∧sb ≠ l'∧sb ≠ b'∧h3 sb=some (.cells (sessC s).toArray qfZ (0,0))∧sb ≠ v3∧sb ≠ v5∧OfJ hA h v1 v3 v5 l now i h3
variable {K:Value → Heap → Prop}
theorem aggOf_ok (l:List Sess) (now:Int) {h:Heap} {v:Value} (x:Sl 4 SessR h v l) (hl:l.length < 1000000) (hk:∀ h',Ext h h' → K (.agg (presC (presOf l now)).toArray) h'):callM P qfmZ #[v,.int .u64 now] h K:=by
 apply qvsZ
 unfold qtjZ
 rw [zcPres,zcSess,zcInt]
 refine nw_tag (wf_nil h) lc fun v1 T1 h1 n1 o1 t1 c1=>?_
 refine nw_tag o1.wf lc fun v3 T3 h3 n3 o3 t3 c3=>?_
 refine nw_tag o3.wf lc fun v5 T5 h5 n5 o5 t5 c5=>?_
 have b1:=o5.see (o3.see ⟨c1,t1⟩ (not_non _)) (not_non _)
 have b3:=o5.see ⟨c3,t3⟩ (not_non _)
 have ne13:v1 ≠ v3:=ne_fresh c1 n3
 have ne15:v1 ≠ v5:=ne_fresh (o3.see ⟨c1,t1⟩ (not_non _)).1 n5
 have ne35:v3 ≠ v5:=ne_fresh c3 n5
 have o0:Only non (fun _=>[]) h T5 h5:=(o1.trans o3).trans o5
 have e0:Ext h h5:=fun b o e=>o0.kp b o e (not_non _)
 have xF:Sl 4 SessR (fz T5 h5) v l:=x.ext (R:=SessR) (@SessR.ext) (by have:=o0.ext (not_non _); rwa [fz_nil] at this)
 simp -implicitDefEqProofs [ld_at c5,cel_of c5,stm_at c5,stm_upd,ld_same,cel_same,over]
 have ec5:upd h5 v5 (.cells #[.int .i64 0] qjZ (0,0))=h5:=(upd_of (fun _ _=>rfl) c5).symm
 rw [ec5,seqM_eq]
 unfold qtZZ
 apply qviZ
 unfold qqAZ
 simp -implicitDefEqProofs only [xF.one.2]
 refine nw_tag o5.wf [] fun a T6 h6 n6 o6 t6 c6=>?_
 refine nw_tag o6.wf [] fun b T7 h7 n7 o7 t7 c7=>?_
 simp -implicitDefEqProofs only [ov_s]
 have b1:=o7.see (o6.see b1 (not_non _)) (not_non _)
 have b3:=o7.see (o6.see b3 (not_non _)) (not_non _)
 have b5:=o7.see (o6.see ⟨c5,t5⟩ (not_non _)) (not_non _)
 have ba:=o7.see ⟨c6,t6⟩ (not_non _)
 have o9:Only non T5 h5 T7 h7:=o6.trans o7
 have xA:Sl 4 SessR (fz T7 h7) v l:=xF.ext (R:=SessR) (@SessR.ext) (o9.ext (not_non _))
 have e7:Ext h h7:=e0.trans fun b o e=>o9.kp b o e (not_non _)
 have n1':h v1=none:=n1
 have n3':h v3=none:=o1.fresh n3
 have n5':h v5=none:=(o1.trans o3).fresh n5
 refine rf_it good mixed rfl (by kernel_rfl) (live_it (hA:=fz T7 h7) (fz_at ba.1 ba.2) (fz_at c7 t7) xA) (OfJ (fz T7 h7) h v1 v3 v5 l now) (fun _ _=>False)
  ⟨fz_ext _ _,e7,b1.1,b3.1,b5.1⟩ (fun i h' hJ=>hJ.1) ?_ (fun _ _ _ _ _ h _=>h) ?_ ?_ ?_ (fun _ _ _ _ h=>h.elim) (fun _ _ _ _ _ h=>h.elim)
 ·intro l' hl' i h' h'' hJ k
  have nl:∀ c o,h7 c=some o → some c ≠ some l':=fun c o e he=>by cases he; rw [hl'] at e; cases e
  exact ⟨fun c o e=>k c o (hJ.1 c o e) (nl c o (fz_ext _ _ c o e)),fun c o e=>k c o (hJ.2.1 c o e) (nl c o (e7 c o e)),k _ _ hJ.2.2.1 (nl _ _ b1.1),k _ _ hJ.2.2.2.1 (nl _ _ b3.1),k _ _ hJ.2.2.2.2 (nl _ _ b5.1)⟩
 ·intro i hi; simp [liveX]
 ·intro i hi l' b' h' h2 hl' hb' hJ k ⟨ol,hol⟩ ⟨ob,hob⟩
  have nl:∀ c o,h7 c=some o → some c ≠ some l':=fun c o e he=>by cases he; rw [hl'] at e; cases e
  have nb:∀ c o,h7 c=some o → c ≠ b':=fun c o e he=>by cases he; rw [hb'] at e; cases e
  have hJ2:OfJ (fz T7 h7) h v1 v3 v5 l now i h2:=⟨fun c o e=>k c o (hJ.1 c o e) (nl c o (fz_ext _ _ c o e)),fun c o e=>k c o (hJ.2.1 c o e) (nl c o (e7 c o e)),k _ _ hJ.2.2.1 (nl _ _ b1.1),k _ _ hJ.2.2.2.1 (nl _ _ b3.1),k _ _ hJ.2.2.2.2 (nl _ _ b5.1)⟩
  have hi':i < (liveS l now).length:=by simpa [liveX] using hi
  have hxi:(liveX l now)[i]=#[.agg (sessC (liveS l now)[i]).toArray]:=by simp [liveX]
  rw [hxi]
  refine ⟨OfA (fz T7 h7) h v1 v3 v5 l now i (liveS l now)[i] l' b',?_,?_,?_⟩
  ·rintro m2 s2 h3 h4 ⟨rfl,sb,q1,q2,q3,q4,q4',q5,q6,q7,q8⟩ k4
   exact ⟨rfl,sb,q1,q2,q3,q4,q4',k4 _ _ q5 (by simpa using q4),q6,q7,⟨fun c o e=>k4 c o (q8.1 c o e) (nl c o (fz_ext _ _ c o e)),fun c o e=>k4 c o (q8.2.1 c o e) (nl c o (e7 c o e)),k4 _ _ q8.2.2.1 (nl _ _ b1.1),k4 _ _ q8.2.2.2.1 (nl _ _ b3.1),k4 _ _ q8.2.2.2.2 (nl _ _ b5.1)⟩⟩
  ·rw [quXZ]
   unfold qtkZ
   rw [zcSess]
   simp -implicitDefEqProofs
   refine nw_st rfl rfl (by simp [sessC]) fun sb h4 n4 e4 c4=>?_
   refine ⟨⟨rfl,sb,by simp,by simp,by simp,fun e=>(by subst e; rw [hol] at n4; cases n4),fun e=>(by subst e; rw [hob] at n4; cases n4),c4,fun e=>(by subst e; rw [hJ2.2.2.2.1] at n4; cases n4),fun e=>(by subst e; rw [hJ2.2.2.2.2] at n4; cases n4),?_⟩,by rw [hol,e4 _ _ hol],by rw [hob,e4 _ _ hob]⟩
   exact ⟨hJ2.1.trans e4,hJ2.2.1.trans e4,e4 _ _ hJ2.2.2.1,e4 _ _ hJ2.2.2.2.1,e4 _ _ hJ2.2.2.2.2⟩
  ·rintro m2 s2 h3 ⟨rfl,sb,q1,q2,q3,q4,q4',q5,q6,q7,q8⟩ ⟨ol3,hol3⟩ ⟨ob3,hob3⟩
   obtain ⟨r1,r2,r3,r4,r5⟩:=q8
   rw [quYZ]
   unfold qtlZ
   have hn:=accL_n l now i (by omega)
   have hlen:(liveS l now).length ≤ l.length:=List.length_filter_le _ _
   have hw:IntKind.i64.wrap ((i:Int) + 1)=i + 1:=wrap64_id (by omega) (by omega)
   have hb5:=nb _ _ b5.1
   have hb3:=nb _ _ b3.1
   have hl5:v5 ≠ l':=fun e=>nl _ _ b5.1 (by rw [e])
   have hl3:v3 ≠ l':=fun e=>nl _ _ b3.1 (by rw [e])
   have hst:=accL_s hi'
   rw [show accL l now i=((accL l now i).1,i) from Prod.ext rfl hn] at hst
   have hne:sb ≠ v3:=q6
   have ax:∀ h4,Ext h3 h4 → h4 l'=h3 l'∧h4 b'=h3 b':=fun h4 e=>⟨by rw [hol3,e _ _ hol3],by rw [hob3,e _ _ hob3]⟩
   have finT:∀ h4,Ext h3 h4 → (accL l now (i + 1)).1=(liveS l now)[i] → ∀ h5,h5=upd (upd h4 v3 (.cells (sessC (liveS l now)[i]).toArray qfZ (0,0))) v5 (.cells #[.int .i64 (i + 1:Nat)] qjZ (0,0)) →
     h5 l'=h3 l'∧h5 b'=h3 b'∧OfJ (fz T7 h7) h v1 v3 v5 l now (i + 1) h5:=fun h4 e hacc h5 e5=>by
    subst e5
    have:=ax h4 e
    refine ⟨by rw [upd_ne (Ne.symm hl5),upd_ne (Ne.symm hl3)]; exact this.1,by rw [upd_ne (Ne.symm hb5),upd_ne (Ne.symm hb3)]; exact this.2,fun c o ec=>?_,fun c o ec=>?_,?_,?_,upd_same' _ _ _⟩
    ·have h1:c ≠ v5:=fun hc=>by
      subst hc
      have:fz T7 h7 c=none:=by unfold fz; rw [if_neg]; rw [b5.2]; simp
      rw [this] at ec; cases ec
     have h2:c ≠ v3:=fun hc=>by
      subst hc
      have:fz T7 h7 c=none:=by unfold fz; rw [if_neg]; rw [b3.2]; simp
      rw [this] at ec; cases ec
     rw [upd_ne h1,upd_ne h2]; exact e _ _ (r1 _ _ ec)
    ·rw [upd_ne (fun hc=>by subst hc; rw [n5'] at ec; cases ec),upd_ne (fun hc=>by subst hc; rw [n3'] at ec; cases ec)]; exact e _ _ (r2 _ _ ec)
    ·rw [upd_ne ne15,upd_ne ne13]; exact e _ _ r3
    ·rw [upd_ne ne35,upd_same',hacc]
   have finF:∀ h4,Ext h3 h4 → (accL l now (i + 1)).1=(accL l now i).1 → ∀ h5,h5=upd h4 v5 (.cells #[.int .i64 (i + 1:Nat)] qjZ (0,0)) →
     h5 l'=h3 l'∧h5 b'=h3 b'∧OfJ (fz T7 h7) h v1 v3 v5 l now (i + 1) h5:=fun h4 e hacc h5 e5=>by
    subst e5
    have:=ax h4 e
    refine ⟨by rw [upd_ne (Ne.symm hl5)]; exact this.1,by rw [upd_ne (Ne.symm hb5)]; exact this.2,fun c o ec=>?_,fun c o ec=>?_,?_,?_,upd_same' _ _ _⟩
    ·have h1:c ≠ v5:=fun hc=>by
      subst hc
      have:fz T7 h7 c=none:=by unfold fz; rw [if_neg]; rw [b5.2]; simp
      rw [this] at ec; cases ec
     rw [upd_ne h1]; exact e _ _ (r1 _ _ ec)
    ·rw [upd_ne (fun hc=>by subst hc; rw [n5'] at ec; cases ec)]; exact e _ _ (r2 _ _ ec)
    ·rw [upd_ne ne15]; exact e _ _ r3
    ·rw [upd_ne ne35,hacc]; exact e _ _ r4
   rw [seqM_eq]
   have hw5:(↑(i + 1:Nat):Int)=i + 1:=by omega
   simp -implicitDefEqProofs only [sessC] at q5 r4
   by_cases hi0:i=0
   ·subst hi0
    simp -implicitDefEqProofs [q1,q2,q3,ld_at q5,cel_of q5,stm_at q5,ld_at r4,cel_of r4,stm_at r4,ld_at r5,cel_of r5,stm_at r5,stm_skip ne35,stm_skip (Ne.symm ne35),ld_skip ne35,ld_skip (Ne.symm ne35),cel_skip ne35,cel_skip (Ne.symm ne35),stm_upd,ld_same,cel_same,over,sessC,cel_skip (Ne.symm ne35),stm_skip (Ne.symm ne35),cel_of r5,stm_at r5]
    refine finT h3 (Ext.refl _) (by rw [hst]; simp [stepL]) _ ?_
    rw [upd_comm (Ne.symm ne35)]
    rfl
   ·have hi0':¬ ((i:Int)=0):=by omega
    simp -implicitDefEqProofs [q1,q2,q3,ld_at q5,cel_of q5,stm_at q5,ld_at r4,cel_of r4,stm_at r4,ld_at r5,cel_of r5,stm_at r5,stm_upd,ld_same,cel_same,over,hi0',hi0]
    refine better_ok (liveS l now)[i] (accL l now i).1 fun h4 e4=>?_
    have q5:=e4 _ _ q5
    have r4':=e4 _ _ r4
    have r5':=e4 _ _ r5
    cases hb:better (liveS l now)[i] (accL l now i).1 with
    | true =>
     simp -implicitDefEqProofs [ld_at q5,cel_of q5,stm_at q5,ld_at r4',cel_of r4',stm_at r4',ld_at r5',cel_of r5',stm_at r5',stm_skip ne35,stm_skip (Ne.symm ne35),ld_skip ne35,ld_skip (Ne.symm ne35),cel_skip ne35,cel_skip (Ne.symm ne35),stm_upd,ld_same,cel_same,over,hw]
     refine finT h4 e4 (by rw [hst]; simp [stepL,hb]) _ ?_
     rw [upd_comm (Ne.symm ne35)]
     rfl
    | false =>
     simp -implicitDefEqProofs [ld_at q5,cel_of q5,stm_at q5,ld_at r4',cel_of r4',stm_at r4',ld_at r5',cel_of r5',stm_at r5',stm_upd,ld_same,cel_same,over,hw]
     exact finF h4 e4 (by rw [hst]; simp [stepL,hb,hi0]) _ rfl
 ·intro b' h' hb' hd hJ
  simp -implicitDefEqProofs only [blkM_n,thenM_n]
  obtain ⟨r1,r2,r3,r4,r5⟩:=hJ
  have hlx:(liveX l now).length=(liveS l now).length:=by simp [liveX]
  rw [hlx] at r4 r5
  simp -implicitDefEqProofs only [sessC] at r4
  unfold quaZ
  have nb1:v1 ≠ b':=fun e=>by subst e; rw [b1.1] at hb'; cases hb'
  have bdP:∀ a b c:Int,bdV (binf P qqZ) [(0,.int .i64 a),(1,.int .i64 b),(2,.int .i64 c)]=some (.agg #[.int .i64 a,.int .i64 b,.int .i64 c]):=fun a b c=>by kernel_rfl
  simp -implicitDefEqProofs [ld_at r3,cel_of r3,stm_at r3,ld_at r4,cel_of r4,stm_at r4,ld_at r5,cel_of r5,stm_at r5,stm_upd,ld_same,cel_same,over,bdP,upd_ne (Ne.symm nb1),hd,tgPres,ld_skip nb1]
  refine kv (hk _ ?_) (by rw [presOf,← accL_all,accL_n _ _ _ (Nat.le_refl _)]; rfl)
  intro c o ec
  rw [upd_ne (fun hc=>by subst hc; rw [e7 _ _ ec] at hb'; cases hb'),upd_ne (fun hc=>by subst hc; rw [n1'] at ec; cases ec)]
  exact r2 _ _ ec
end Go.Proofs.YtcnphhhcknhhaaaGreat
namespace Go.Den
open Go
set_option linter.unusedVariables false
set_option linter.unusedSimpArgs false
def ltS (a b:ByteArray):Bool:=Op.bytesLess a.toList b.toList
theorem bl_irrefl:∀ x:List UInt8,Op.bytesLess x x=false
 | []=>rfl
 | a :: x=>by
  have:¬ a < a:=UInt8.lt_irrefl a
  simp [Op.bytesLess,this,bl_irrefl x]
theorem bl_trans:∀ {x y z:List UInt8},Op.bytesLess x y=true → Op.bytesLess y z=true → Op.bytesLess x z=true
 | _,_,[],_,h=>by simp [Op.bytesLess] at h
 | [],_,_ :: _,_,_=>rfl
 | _ :: _,[],_,h,_=>by simp [Op.bytesLess] at h
 | a :: x,b :: y,c :: z,h1,h2=>by
  simp only [Op.bytesLess,Bool.or_eq_true,decide_eq_true_eq,Bool.and_eq_true,beq_iff_eq] at *
  rcases h1 with h1 | ⟨rfl,h1⟩
  ·rcases h2 with h2 | ⟨rfl,h2⟩
   ·exact .inl (UInt8.lt_trans h1 h2)
   ·exact .inl h1
  ·rcases h2 with h2 | ⟨rfl,h2⟩
   ·exact .inl h2
   ·exact .inr ⟨rfl,bl_trans h1 h2⟩
theorem bl_total:∀ x y:List UInt8,Op.bytesLess x y=false → Op.bytesLess y x=false → x=y
 | [],[],_,_=>rfl
 | [],_ :: _,h,_=>by simp [Op.bytesLess] at h
 | _ :: _,[],_,h=>by simp [Op.bytesLess] at h
 | a :: x,b :: y,h1,h2=>by
  simp only [Op.bytesLess,Bool.or_eq_false_iff,decide_eq_false_iff_not,Bool.and_eq_false_iff,beq_eq_false_iff_ne] at *
  have hab:a=b:=by
   have h3:=h1.1
   have h4:=h2.1
   rw [UInt8.lt_iff_toNat_lt] at h3 h4
   exact UInt8.toNat_inj.1 (by omega)
  subst hab
  congr 1
  exact bl_total x y (by rcases h1.2 with h | h; exact absurd rfl h; exact h) (by rcases h2.2 with h | h; exact absurd rfl h; exact h)
theorem ltS_irrefl (a:ByteArray):ltS a a=false:=bl_irrefl _
theorem ltS_trans {a b c:ByteArray} (h:ltS a b=true) (k:ltS b c=true):ltS a c=true:=bl_trans h k
theorem ltS_total {a b:ByteArray} (h:ltS a b=false) (k:ltS b a=false):a=b:=str_inj (bl_total _ _ h k)
theorem ltS_asymm {a b:ByteArray} (h:ltS a b=true):ltS b a=false:=by
 cases k:ltS b a with
 | false=>rfl
 | true=>have:=ltS_trans h k; rw [ltS_irrefl] at this; cases this
def SrtK (l:List ByteArray):Prop:=l.Pairwise fun a b=>ltS a b=true
def pos (l:List ByteArray) (u:ByteArray):Nat:=(l.takeWhile fun k=>ltS k u).length
theorem SrtK.at {l:List ByteArray} (s:SrtK l) {i j:Nat} (hi:i < j) (hj:j < l.length):ltS (l[i]'(by omega)) l[j]=true:=List.pairwise_iff_getElem.1 s i j (by omega) hj hi
theorem pos_of {l:List ByteArray} (u:ByteArray) {i:Nat} (hi:i ≤ l.length) (h1:∀ k (hk:k < l.length),k < i → ltS l[k] u=true) (h2:∀ (hk:i < l.length),ltS l[i] u=false):pos l u=i:=by
 induction l generalizing i with
 | nil=>simp at hi; subst hi; rfl
 | cons a l ih =>
  unfold pos
  cases i with
  | zero =>
   have:=h2 (by simp)
   simp only [List.getElem_cons_zero] at this
   simp [List.takeWhile_cons,this]
  | succ i =>
   have h0:=h1 0 (by simp) (by omega)
   simp only [List.getElem_cons_zero] at h0
   have:=ih (i:=i) (by simpa using hi) (fun k hk hki=>by have:=h1 (k + 1) (by simpa using hk) (by omega); rwa [List.getElem_cons_succ] at this) (fun hk=>by have:=h2 (by simpa using hk); rwa [List.getElem_cons_succ] at this)
   unfold pos at this
   simp [List.takeWhile_cons,h0,this]
theorem pos_spec {l:List ByteArray} (s:SrtK l) (u:ByteArray):pos l u ≤ l.length∧(∀ k (hk:k < l.length),k < pos l u → ltS l[k] u=true)∧(∀ k (hk:k < l.length),pos l u ≤ k → ltS l[k] u=false):=by
 induction l with
 | nil=>simp [pos]
 | cons a l ih =>
  have s':SrtK l:=(List.pairwise_cons.1 s).2
  obtain ⟨h1,h2,h3⟩:=ih s'
  cases ha:ltS a u with
  | true =>
   have e:pos (a :: l) u=pos l u + 1:=by simp [pos,List.takeWhile_cons,ha]
   rw [e]
   refine ⟨by simpa using h1,fun k hk hkp=>?_,fun k hk hkp=>?_⟩
   ·cases k with
    | zero=>simpa using ha
    | succ k=>rw [List.getElem_cons_succ]; exact h2 k (by simpa using hk) (by omega)
   ·cases k with
    | zero=>omega
    | succ k=>rw [List.getElem_cons_succ]; exact h3 k (by simpa using hk) (by omega)
  | false =>
   have e:pos (a :: l) u=0:=by simp [pos,List.takeWhile_cons,ha]
   rw [e]
   refine ⟨by omega,fun k hk hkp=>by omega,fun k hk _=>?_⟩
   cases k with
   | zero=>simpa using ha
   | succ k =>
    have hk':k < l.length:=by simpa using hk
    have:=(List.pairwise_cons.1 s).1 l[k] (List.getElem_mem _)
    rw [List.getElem_cons_succ]
    cases hk2:ltS l[k] u with
    | false=>rfl
    | true=>rw [ltS_trans this hk2] at ha; cases ha
theorem mem_pos {l:List ByteArray} (s:SrtK l) (u:ByteArray):u ∈ l ↔ ∃ h:pos l u < l.length,l[pos l u]=u:=by
 obtain ⟨h1,h2,h3⟩:=pos_spec s u
 constructor
 ·intro h
  obtain ⟨i,hi,rfl⟩:=List.getElem_of_mem h
  have hip:pos l l[i]=i:=by
   refine pos_of _ (by omega) (fun k hk hki=>s.at hki hi) (fun hk=>ltS_irrefl _)
  exact ⟨by rw [hip]; exact hi,by simp only [hip]⟩
 ·rintro ⟨h,e⟩; rw [← e]; exact List.getElem_mem _
def keysB (b:Book):List ByteArray:=b.map (·.1)
def hasB (b:Book) (u:ByteArray):Bool:=(keysB b).any fun k=>decide (k=u)
theorem hasB_iff {b:Book} {u:ByteArray}:hasB b u=true ↔ u ∈ keysB b:=by simp [hasB]
theorem entOf_mem {b:Book} (s:SrtK (keysB b)) {i:Nat} (hi:i < b.length):entOf b b[i].1=b[i].2:=by
 induction b generalizing i with
 | nil=>simp at hi
 | cons x b ih =>
  obtain ⟨k,e⟩:=x
  have s':SrtK (keysB b):=(List.pairwise_cons.1 s).2
  cases i with
  | zero=>simp [entOf]
  | succ i =>
   have hi':i < b.length:=by simpa using hi
   have hne:¬ k=b[i].1:=fun h=>by
    have:=(List.pairwise_cons.1 s).1 b[i].1 (List.mem_map_of_mem (List.getElem_mem _))
    rw [h,ltS_irrefl] at this; cases this
   simp only [List.getElem_cons_succ,entOf,if_neg hne]
   exact ih s' hi'
theorem entOf_none {b:Book} {u:ByteArray} (h:u ∉ keysB b):entOf b u=ent0:=by
 induction b with
 | nil=>rfl
 | cons x b ih =>
  obtain ⟨k,e⟩:=x
  simp only [keysB,List.map_cons,List.mem_cons,not_or] at h
  simp only [entOf,if_neg (Ne.symm h.1)]
  exact ih h.2
structure BkG (b:Book):Prop where
 so:SrtK (keysB b)
 len:b.length < 1000000
 ss:∀ u,(entOf b u).ss.length < 1000000
end Go.Den
namespace Go.Proofs.YtcnphhhcknhhaaaGreat
open Go Go.Den Go.MapKept
set_option linter.unusedSimpArgs false
set_option linter.unusedVariables false
set_option maxRecDepth 20000
variable {K:Value → Heap → Prop}
theorem isNaN_ok (a:ByteArray) {h:Heap} (hk:K (.bool false) h):callM P qeAZ #[.string a] h K:=by
 apply qtCZ
 unfold qiAZ
 simpa using hk
theorem sisNaN_ok (a:ByteArray) {h:Heap} (hk:K (.bool false) h):callM P qcQZ #[.string a] h K:=by
 apply qruZ
 unfold qfZZ
 simpa using hk
theorem cmpLess_ok (a b:ByteArray) {h:Heap} (hk:K (.bool (ltS a b)) h):callM P qieZ #[.string a,.string b] h K:=by
 apply qtXZ
 unfold qjiZ
 refine isNaN_ok a ?_
 unfold qnNZ
 have e:binV .lss 3 false (.string a) (.string b)=some (.bool (ltS a b)):=rfl
 simp -implicitDefEqProofs [e]
 exact hk
theorem str_at {F:Heap} {v:Value} {l:List ByteArray} (x:Sl 1 StrR F v l) {i:Nat} (hi:i < l.length) {k:IntKind}:∃ b p,iaV (some (none,1)) v (.int k i)=some (.pointer (some ⟨b,p,none⟩))∧∀ h',Ext F h' → cel h' b p=some (.string l[i]):=by
 obtain ⟨b,p,c,h1,h2,h3⟩:=x.at (k:=k) (i:=i) (by omega) (by omega)
 refine ⟨b,p,h1,fun h' e=>?_⟩
 have hc:c=[.string l[i]]:=h3.1
 subst hc
 have:=(cels_get (cels_ext e h2)).2 0 (by simp)
 simpa using this
set_option maxHeartbeats 1000000 in
theorem bs_ok (l : List ByteArray) (so : SrtK l) (u : ByteArray) {h : Heap} {v : Value} (x : Sl 1 StrR h v l) (hl : l.length < 1000000) (hk : K (.tuple #[.int .i64 (pos l u), .bool (l.any fun k => decide (k = u))]) h) :
    callM P qKZ #[v, .string u] h K := by
  apply qiIZ
  unfold qaKZ
  have hlen := x.len
  simp -implicitDefEqProofs only [hlen, ov_s]
  rw [seqM_eq]
  unfold qcNZ
  refine loop_on [0, 1, 6] (fun s h' => h' = h ∧ ∃ i j : Nat, i ≤ j ∧ j ≤ l.length ∧ s 7 = .int .i64 i ∧ s 8 = .int .i64 j ∧ (∀ k (hk : k < l.length), k < i → ltS l[k] u = true) ∧ ∀ k (hk : k < l.length), j ≤ k → ltS l[k] u = false)
    (fun s _ => (num (s 8) - num (s 7)).toNat) ⟨rfl, 0, l.length, by omega, by omega, rfl, by simp, fun k _ h => by omega, fun k hk h => by omega⟩ ?_
  rintro s h1 hf ⟨rfl, i, j, hij, hj, s7, s8, hlo, hhi⟩
  have s0 : s 0 = v := by simpa using hf 0 (by simp)
  have s1 : s 1 = .string u := by simpa using hf 1 (by simp)
  have s6 : s 6 = .int .i64 l.length := by simpa using hf 6 (by simp)
  unfold qcMZ
  simp -implicitDefEqProofs only [s7, s8, bin_lss, ov_s, cd_b]
  refine ⟨fun hc => ?_, fun hc => ?_⟩
  · have hlt : i < j := by have : ((i : Int) < j) := by simpa using hc
                           omega
    obtain ⟨m, hm⟩ : ∃ m : Nat, m = (i + j) / 2 := ⟨_, rfl⟩
    have hm1 : i ≤ m ∧ m < j := by omega
    have w1 : IntKind.i64.wrap ((i : Int) + j) = (i + j : Nat) := by rw [wrap64_id (by omega) (by omega)]; omega
    have w2 : IntKind.u64.wrap ((i + j : Nat) : Int) = (i + j : Nat) := wrapU_id (by omega) (by omega)
    have w3 : binV .shr 2 true (.int .u64 ((i + j : Nat) : Int)) (.int .u64 1) = some (.int .u64 m) := by
      have : ((i + j : Nat) : Int).fdiv 2 = m := by rw [Int.fdiv_eq_ediv_of_nonneg _ (by omega)]; omega
      simp -implicitDefEqProofs [binV, intV, IntKind.bits]
      rw [← this]; rfl
    have w4 : IntKind.i64.wrap (m : Int) = m := wrap64_id (by omega) (by omega)
    have w5 : IntKind.i64.wrap ((m : Int) + 1) = m + 1 := wrap64_id (by omega) (by omega)
    obtain ⟨b, p, i1, i2⟩ := str_at x (k := .i64) (i := m) (by omega)
    unfold qcLZ
    simp -implicitDefEqProofs only [s0, s1, s7, s8, bin_add, ov_s, w1, cvV_i, w2, w3, w4, i1, ldV_c, i2 _ (Ext.refl _)]
    refine cmpLess_ok _ _ ?_
    unfold qcKZ qcIZ qcJZ
    cases hlm : ltS l[m] u with
    | true =>
      simp -implicitDefEqProofs [w5, s0, s1, s6, s7, s8]
      refine ⟨⟨m + 1, j, by omega, by omega, by simp, rfl, fun k hk hkm => ?_, hhi⟩, by omega⟩
      by_cases e : k = m
      · subst e; exact hlm
      · exact ltS_trans (so.at (show k < m by omega) (by omega)) hlm
    | false =>
      simp -implicitDefEqProofs [s0, s1, s6, s7, s8]
      refine ⟨⟨i, m, by omega, by omega, rfl, rfl, hlo, fun k hk hkm => ?_⟩, by omega⟩
      by_cases e : k = m
      · subst e; exact hlm
      · cases hh : ltS l[k] u with
        | false => rfl
        | true => rw [ltS_trans (so.at (show m < k by omega) hk) hh] at hlm; cases hlm
  · have : i = j := by have : ¬ ((i : Int) < j) := by simpa using hc
                       omega
    subst this
    have hp : pos l u = i := pos_of u hj (fun k hk hki => hlo k hk hki) (fun hk => hhi i hk (by omega))
    have hany : (l.any fun k => decide (k = u)) = true ↔ u ∈ l := by simp
    have hmem := mem_pos so u
    rw [hp] at hk
    simp -implicitDefEqProofs only [lpM_e, blkM_e, if_true, thenM_n]
    unfold qcOZ
    by_cases hil : i < l.length
    · obtain ⟨b, p, i1, i2⟩ := str_at x (k := .i64) (i := i) hil
      have hil' : (i : Int) < l.length := by omega
      by_cases heq : l[i] = u
      · have : (l.any fun k => decide (k = u)) = true := hany.2 (heq ▸ List.getElem_mem hil)
        simp -implicitDefEqProofs [s0, s1, s6, s7, s8, hil', hil, i1, i2 _ (Ext.refl _), heq]
        rw [this] at hk; exact hk
      · have : (l.any fun k => decide (k = u)) = false := by
          cases hh : (l.any fun k => decide (k = u)) with
          | false => rfl
          | true => obtain ⟨h3, h4⟩ := hmem.1 (hany.1 hh); simp only [hp] at h4; exact absurd h4 heq
        simp -implicitDefEqProofs [s0, s1, s6, s7, s8, hil', hil, i1, i2 _ (Ext.refl _), heq]
        refine sisNaN_ok _ ?_
        rw [this] at hk; exact hk
    · have hil' : ¬ ((i : Int) < l.length) := by omega
      have : (l.any fun k => decide (k = u)) = false := by
        cases hh : (l.any fun k => decide (k = u)) with
        | false => rfl
        | true => obtain ⟨h3, h4⟩ := hmem.1 (hany.1 hh); rw [hp] at h3; exact absurd h3 hil
      simp -implicitDefEqProofs [s0, s1, s6, s7, s8, hil', hil]
      rw [this] at hk; exact hk
theorem zcEnt:zc P qrZ=some #[.slice none 0 0,.int .i64 0,.int .i64 0,.int .i64 0]:=by kernel_rfl
theorem find_ok (l:List ByteArray) (so:SrtK l) (u:ByteArray) {h:Heap} {kw vw:Value} (ov_:vw.cells=#[vw]) (x:Sl 1 StrR h kw l) (hl:l.length < 1000000) (hk:∀ h',Ext h h' → K (.tuple #[.int .i64 (pos l u),.bool (l.any fun k=>decide (k=u))]) h') :
  callM P qDZ #[.agg #[kw,vw],.string u] h K:=by
 apply qjSZ
 unfold qbdZ
 refine nw_agg fun v1 h1 n1 e1 c1=>?_
 simp -implicitDefEqProofs [ld_at c1,cel_of c1,stm_at c1,stm_upd,ld_same,cel_same,over]
 refine bs_ok l so u (x.ext (@StrR.ext) e1) hl ?_
 simp -implicitDefEqProofs
 exact hk _ e1
theorem get_ok (b:Book) (so:SrtK (keysB b)) (u:ByteArray) {F h:Heap} (eF:Ext F h) {kw vw:Value} (x:BookR F kw vw b) (hl:b.length < 1000000)
  (hk:∀ h' sv,Ext h h' → Sl 4 SessR F sv (entOf b u).ss → Sn sv → K (.tuple #[.agg (sv :: presC (entOf b u).told).toArray,.bool (hasB b u)]) h'):callM P qEZ #[.agg #[kw,vw],.string u] h K:=by
 apply qkpZ
 unfold qbqZ
 rw [zcEnt]
 refine nw_agg fun v1 h1 n1 e1 c1=>?_
 refine nw_intro fun v3 h3 n3 e3 c3=>?_
 refine nw_intro fun v5 h5 n5 e5 c5=>?_
 have c1:=e5 _ _ (e3 _ _ c1)
 have ne35:=ne_fresh c3 n5
 have c3:=e5 _ _ c3
 have e0:=(e1.trans e3).trans e5
 have n3:=fresh_of e1 n3
 simp -implicitDefEqProofs [ld_at c1,cel_of c1,stm_at c1,stm_upd,ld_same,cel_same,over]
 refine find_ok (keysB b) so u x.2.1.one.2 (x.1.ext (@StrR.ext) (eF.trans e0)) (by simpa [keysB] using hl) fun h6 e6=>?_
 have c1:=e6 _ _ c1
 have c3:=e6 _ _ c3
 have c5:=e6 _ _ c5
 have e0:=e0.trans e6
 unfold qdHZ
 simp -implicitDefEqProofs only [exV_0,exV_1,ov_s,unV_n,cd_b]
 refine ⟨fun hn=>?_,fun hy=>?_⟩
 ·have hno:u ∉ keysB b:=fun hh=>by
   have:=hasB_iff.2 hh
   unfold hasB at this
   rw [this] at hn; cases hn
  unfold qdFZ
  simp -implicitDefEqProofs [ld_at c3,cel_of c3,stm_at c3,ld_at c5,cel_of c5,stm_at c5,stm_upd,ld_same,cel_same,over]
  have he:=entOf_none hno
  refine kv (hk _ (.slice none 0 0) (ext_upd n3 e0) (by rw [he]; exact .inl ⟨rfl,_,_,rfl⟩) Sn.nil) ?_
  have:hasB b u=false:=by
   cases hh:hasB b u with
   | false=>rfl
   | true=>exact absurd (hasB_iff.1 hh) hno
  rw [he,this]; rfl
 ·have hyes:hasB b u=true:=by
   unfold hasB
   simpa using hy
  obtain ⟨h1,h2⟩:=(mem_pos so u).1 (hasB_iff.1 hyes)
  have hlen:(keysB b).length=b.length:=by simp [keysB]
  have hp:pos (keysB b) u < b.length:=by omega
  have hu:b[pos (keysB b) u].1=u:=by simpa [keysB] using h2
  have he:entOf b u=b[pos (keysB b) u].2:=by
   have:=entOf_mem so hp
   rw [hu] at this; exact this
  obtain ⟨eb,eo,c,i1,i2,sv,i3,i4,i5⟩:=x.2.1.at (k:=.i64) (i:=pos (keysB b) u) (by omega) (by simpa using hp)
  simp -implicitDefEqProofs only [Int.toNat_natCast,List.getElem_map] at i3 i4
  have i2:=cels_ext (eF.trans e0) i2
  rw [← he] at i3 i4
  subst i3
  unfold qdGZ
  simp -implicitDefEqProofs only [presC] at i2
  simp -implicitDefEqProofs [ld_at c1,cel_of c1,stm_at c1,ld_at c3,cel_of c3,stm_at c3,stm_upd,ld_same,cel_same,over,i1,ldV_n i2,i4.one.1,i4.one.2]
  refine kv (hk _ sv (ext_upd n3 e0) i4 i5) ?_
  rw [hyes]; rfl
theorem presence_ok (b:Book) (so:SrtK (keysB b)) (u:ByteArray) (now:Int) {F h:Heap} (eF:Ext F h) {kw vw:Value} (x:BookR F kw vw b) (hl:b.length < 1000000) (hs:(entOf b u).ss.length < 1000000)
  (hk:∀ h',Ext h h' → K (.agg (presC (presB b u now)).toArray) h'):callM P qkcZ #[.agg #[kw,vw],.string u,.int .u64 now] h K:=by
 apply quAZ
 unfold qmhZ
 rw [zcPres]
 refine nw_agg fun v1 h1 n1 e1 c1=>?_
 refine nw_intro fun v3 h3 n3 e3 c3=>?_
 have c1:=e3 _ _ c1
 have e0:=e1.trans e3
 have n3:=fresh_of e1 n3
 simp -implicitDefEqProofs [ld_at c1,cel_of c1,stm_at c1,stm_upd,ld_same,cel_same,over]
 refine get_ok b so u (eF.trans e0) x hl fun h5 sv e5 hsv _=>?_
 have c3:=e5 _ _ c3
 have e0:=e0.trans e5
 unfold qpzZ
 simp -implicitDefEqProofs only [exV_0,exV_1,ov_s,zcEnt]
 refine nw_intro fun v10 h6 n6 e6 c6=>?_
 have ne:=ne_fresh c3 n6
 have c3:=e6 _ _ c3
 have e1':=e0.trans e6
 have n10:=fresh_of e0 n6
 have os:=hsv.one
 simp -implicitDefEqProofs [ld_at c6,cel_of c6,stm_at c6,stm_upd,ld_same,cel_same,over,presC,os.1,os.2]
 refine aggOf_ok _ now (hsv.ext (R:=SessR) (@SessR.ext) (eF.trans (ext_upd n10 e1'))) hs fun h7 e7=>?_
 have c3:=e7 _ _ (by rw [upd_ne ne]; exact c3)
 simp -implicitDefEqProofs [ld_at c3,cel_of c3,stm_at c3,stm_upd,ld_same,cel_same,over,presC]
 exact kv (hk _ (ext_upd n3 ((ext_upd n10 e1').trans e7))) rfl
end Go.Proofs.YtcnphhhcknhhaaaGreat
namespace Go.Proofs.YtcnphhhcknhhaaaGreat
open Go Go.Den Go.MapKept
set_option linter.unusedSimpArgs false
set_option linter.unusedVariables false
set_option maxRecDepth 20000
theorem bsStr:bsI P qiZ=some (qQZ,1,#[.string ⟨#[]⟩]):=by kernel_rfl
theorem unSlStr:P.underlying qiZ=some (.slice qQZ):=by kernel_rfl
theorem apStr:apC P qQZ=some (1,16,1):=by kernel_rfl
def strC1 (s:ByteArray):List Value:=[.string s]
def StrE (_:Heap) (c:List Value) (s:ByteArray):Prop:=c=strC1 s
theorem strE_of {h:Heap} {v:Value} {l:List ByteArray} (x:Sl 1 StrR h v l):Sl 1 StrE h v l:=by
 rcases x with h1 | ⟨b,o,cap,rfl,h1,h2,h3⟩
 ·exact .inl h1
 ·exact .inr ⟨b,o,cap,rfl,h1,h2,fun i hi=>let ⟨c,h4,h5⟩:=h3 i hi; ⟨c,h4,h5.1⟩⟩
theorem strR_of {h:Heap} {v:Value} {l:List ByteArray} (x:Sl 1 StrE h v l) (hs:∀ s ∈ l,s.size ≤ maxLen):Sl 1 StrR h v l:=by
 rcases x with h1 | ⟨b,o,cap,rfl,h1,h2,h3⟩
 ·exact .inl h1
 ·exact .inr ⟨b,o,cap,rfl,h1,h2,fun i hi=>let ⟨c,h4,h5⟩:=h3 i hi; ⟨c,h4,h5,hs _ (List.getElem_mem _)⟩⟩
theorem str_sizes {h:Heap} {v:Value} {l:List ByteArray} (x:Sl 1 StrR h v l):∀ s ∈ l,s.size ≤ maxLen:=by
 intro s hs
 obtain ⟨i,hi,rfl⟩:=List.getElem_of_mem hs
 obtain ⟨b,o,c,_,_,h3⟩:=x.at (k:=.i64) (i:=i) (by omega) (by omega)
 exact h3.2
variable {K:Value → Heap → Prop}
theorem users_ok (x:OpD) (xw:OpW x) {T:Tags} {h:Heap} (w:Wf T h) {v:Value} (hv:Sl 1 StrR h v x.users) (hl:x.users.length < 1000000)
  (hk:∀ v' h',Ext h h' → Sl 1 StrR (fz T h') v' (usersOf x) → K v' h'):callM P qnSZ #[.agg (opC x v).toArray] h K:=by
 apply quJZ
 unfold qpiZ
 refine nw_agg fun v1 h1 n1 e1 c1=>?_
 simp -implicitDefEqProofs only [opC] at c1
 by_cases k4:x.kind=4
 ·simp -implicitDefEqProofs [ld_at c1,cel_of c1,stm_at c1,stm_upd,ld_same,cel_same,over,k4]
  refine bs_one bsStr rfl (by omega) fun b h2 n2 e2 c2=>?_
  refine hk _ h2 (e1.trans e2) ?_
  rw [usersOf,if_pos k4]
  refine .inr ⟨b,0,1,rfl,by simp,by unfold maxLen; omega,fun i hi=>⟨[.string x.user],?_,?_⟩⟩
  ·have:i=0:=by simpa using hi
   subst this
   have:=cels_of (fz_new w (fresh_of e1 n2) c2) (n:=1) (o:=0) (l:=[.string x.user]) (by simp) rfl
   simpa using this
  ·have:i=0:=by simpa using hi
   subst this
   exact ⟨rfl,xw.s1⟩
 ·by_cases k5:x.kind=5
  ·unfold qlFZ qpTZ
   simp -implicitDefEqProofs [ld_at c1,cel_of c1,stm_at c1,stm_upd,ld_same,cel_same,over,k5]
   refine bs_none bsStr fun v2 h2 e2 r2 _ f2=>?_
   have c1:=e2 _ _ c1
   simp -implicitDefEqProofs [ld_at c1,cel_of c1,stm_at c1,stm_upd,ld_same,cel_same,over]
   refine copy_intro (enc:=strC1) (R:=StrE) unSlStr apStr (by omega) w (e1.trans e2) r2 (fun g hg=>fresh_of e1 (f2 g hg)) id (fun _ _=>rfl) (fun _=>rfl) (strE_of (hv.ext (@StrR.ext) (e1.trans e2))) (by simp [strC1]) (by unfold maxLen; omega) (by omega) fun v3 h3 e3 x3=>?_
   refine hk v3 h3 e3 ?_
   rw [usersOf,if_neg k4,if_pos k5]
   exact strR_of x3 (str_sizes hv)
  ·unfold qlFZ
   simp -implicitDefEqProofs [ld_at c1,cel_of c1,stm_at c1,stm_upd,ld_same,cel_same,over,k4,k5]
   refine hk _ _ e1 ?_
   rw [usersOf,if_neg k4,if_neg k5]
   exact .inl ⟨rfl,_,_,rfl⟩
theorem all_succ {α:Type} {p:α → Bool} {l:List α} {i:Nat} (h:i < l.length) (ha:(l.take i).all p=true) (hn:p l[i]=true):(l.take (i + 1)).all p=true:=by
 rw [List.take_succ_eq_append_getElem h,List.all_append,ha]; simp [hn]
set_option maxHeartbeats 1000000 in
theorem modBad_ok (x : OpD) (xw : OpW x) {h : Heap} {v : Value} (hv : Sl 1 StrR h v x.users) (hl : x.users.length < 1000000)
    (hk : ∀ h', Ext h h' → K (.bool (badB x)) h') : callM P qhRZ #[.agg (opC x v).toArray] h K := by
  apply qvdZ
  unfold qqtZ
  refine nw_agg fun v1 h1 n1 e1 c1 => ?_
  simp -implicitDefEqProofs only [opC] at c1
  have hk1 := hk h1 e1
  rw [seqM_eq]
  unfold qsaZ
  by_cases k1 : x.kind = 1
  · unfold qrUZ
    simp -implicitDefEqProofs [ld_at c1, cel_of c1, stm_at c1, stm_upd, ld_same, cel_same, over, k1]
    refine hashRight_ok _ ?_
    unfold qrTZ
    simp +contextual -implicitDefEqProofs [ld_at c1, cel_of c1, stm_at c1, stm_upd, ld_same, cel_same, over]
    refine gM_call0 (a := .bool (decide (0 ≤ x.id ∧ x.id ≤ 255 ∧ 1 ≤ x.status ∧ x.status ≤ 9 ∧ 0 ≤ x.prio ∧ x.prio ≤ 9))) (fun hc K' hk' => sessRight_ok _ _ _ hk') ?_
    simp +contextual -implicitDefEqProofs
    refine kb hk1 ?_
    rw [badB, if_pos k1]
    cases nameB x.user <;> simp
  unfold qrZZ
  simp -implicitDefEqProofs [ld_at c1, cel_of c1, stm_at c1, stm_upd, ld_same, cel_same, over, k1]
  rw [seqM_eq]
  unfold qrWZ qrVZ
  by_cases k2 : x.kind = 2 ∨ x.kind = 3
  · have hb : badB x = !(nameB x.user && decide (0 ≤ x.id ∧ x.id ≤ 255)) := by rw [badB, if_neg k1, if_pos k2]
    rw [hb] at hk1
    unfold qphZ qrYZ
    rcases k2 with k2 | k2
    all_goals
      simp -implicitDefEqProofs [ld_at c1, cel_of c1, stm_at c1, stm_upd, ld_same, cel_same, over, k2]
      refine hashRight_ok _ ?_
      unfold qrXZ
      simp +contextual -implicitDefEqProofs [ld_at c1, cel_of c1, stm_at c1, stm_upd, ld_same, cel_same, over]
      refine gM_call0 (a := .bool (decide (0 ≤ x.id ∧ x.id ≤ 255))) (fun hc K' hk' => within_ok _ _ _ hk') ?_
      simp +contextual -implicitDefEqProofs
      refine kb hk1 ?_
      cases nameB x.user <;> simp
  have k2' : ¬ x.kind = 2 := fun h => k2 (.inl h)
  have k3' : ¬ x.kind = 3 := fun h => k2 (.inr h)
  unfold qphZ qqUZ
  simp -implicitDefEqProofs [k2', k3']
  rw [seqM_eq]
  unfold qqHZ qqGZ qqFZ
  by_cases k4 : x.kind = 4 ∨ x.kind = 6 ∨ x.kind = 7
  · have hb : badB x = !nameB x.user := by rw [badB, if_neg k1, if_neg k2, if_pos k4]
    rw [hb] at hk1
    unfold qnXZ qqIZ
    rcases k4 with k4 | k4 | k4
    all_goals
      simp -implicitDefEqProofs [ld_at c1, cel_of c1, stm_at c1, stm_upd, ld_same, cel_same, over, k4]
      refine hashRight_ok _ ?_
      simp -implicitDefEqProofs
      exact hk1
  have k4' : ¬ x.kind = 4 := fun h => k4 (.inl h)
  have k6' : ¬ x.kind = 6 := fun h => k4 (.inr (.inl h))
  have k7' : ¬ x.kind = 7 := fun h => k4 (.inr (.inr h))
  unfold qnXZ qqTZ
  simp -implicitDefEqProofs [k4', k6', k7']
  by_cases k5 : x.kind = 5
  · have hb : badB x = !(decide (1 ≤ x.users.length ∧ x.users.length ≤ 8) && x.users.all nameB) := by rw [badB, if_neg k1, if_neg k2, if_neg k4, if_pos k5]
    have hlen := hv.len
    have hk' : ∀ h', Ext h1 h' → K (.bool (!(decide (1 ≤ x.users.length ∧ x.users.length ≤ 8) && x.users.all nameB))) h' := fun h' e => by rw [← hb]; exact hk h' (e1.trans e)
    unfold qqPZ
    simp -implicitDefEqProofs [k5]
    rw [seqM_eq]
    unfold qqNZ
    simp -implicitDefEqProofs [ld_at c1, cel_of c1, stm_at c1, stm_upd, ld_same, cel_same, over, hlen]
    refine loop_on [1, 47, 48] (fun s h' => h' = h1 ∧ ∃ i : Nat, i ≤ x.users.length ∧ s 49 = .int .i64 i ∧ (x.users.take i).all nameB = true) (fun s _ => (x.users.length - num (s 49)).toNat) ⟨rfl, 0, by omega, by simp, by simp⟩ ?_
    rintro s h2 hf ⟨rfl, i, hi, s49, hall⟩
    have s1 : s 1 = ptr v1 := by simpa using hf 1 (by simp)
    have s47 : s 47 = v := by simpa using hf 47 (by simp)
    have s48 : s 48 = .int .i64 x.users.length := by simpa using hf 48 (by simp)
    unfold qqMZ
    simp -implicitDefEqProofs only [s48, s49, bin_lss, ov_s, cd_b]
    refine ⟨fun hc => ?_, fun hc => ?_⟩
    · have hlt : i < x.users.length := by have : ((i : Int) < x.users.length) := by simpa using hc
                                          omega
      obtain ⟨b, o, i1, i2⟩ := str_at hv (k := .i64) hlt
      have hw : IntKind.i64.wrap ((i : Int) + 1) = i + 1 := wrap64_id (by omega) (by omega)
      unfold qqLZ
      simp -implicitDefEqProofs only [s47, s49, i1, ov_s, ldV_c, i2 _ e1]
      refine hashRight_ok _ ?_
      unfold qqKZ qqJZ
      cases hn : nameB x.users[i] with
      | true =>
        simp -implicitDefEqProofs [s49, hw, s1, s47, s48]
        refine ⟨⟨i + 1, by omega, by simp, ?_⟩, by omega⟩
        simpa using all_succ hlt hall hn
      | false =>
        simp -implicitDefEqProofs
        refine kb (hk' _ (Ext.refl _)) ?_
        have : x.users.all nameB = false := by rw [List.all_eq_false]; exact ⟨_, List.getElem_mem hlt, by simp [hn]⟩
        simp -implicitDefEqProofs [this]
    · have : i = x.users.length := by have : ¬ ((i : Int) < x.users.length) := by simpa using hc
                                      omega
      subst this
      rw [List.take_length] at hall
      unfold qqOZ
      simp -implicitDefEqProofs [s1, ld_at c1, cel_of c1, stm_at c1, stm_upd, ld_same, cel_same, over, hlen]
      refine within_ok _ _ _ ?_
      simp -implicitDefEqProofs
      refine kb (hk' _ (Ext.refl _)) ?_
      have e : decide (1 ≤ x.users.length ∧ x.users.length ≤ 8) = decide ((1 : Int) ≤ x.users.length ∧ (x.users.length : Int) ≤ 8) := decide_eq_decide.2 (by omega)
      rw [hall, e]; simp
  · have hb : badB x = !decide (x.kind = 8 ∨ x.kind = 9) := by rw [badB, if_neg k1, if_neg k2, if_neg k4, if_neg k5]
    rw [hb] at hk1
    unfold qqSZ
    simp -implicitDefEqProofs [k5]
    rw [seqM_eq]
    unfold qqRZ qqQZ
    by_cases k8 : x.kind = 8
    · simp -implicitDefEqProofs [ld_at c1, cel_of c1, stm_at c1, stm_upd, ld_same, cel_same, over, k8]
      exact kb hk1 (by simp [k8])
    · by_cases k9 : x.kind = 9
      · simp -implicitDefEqProofs [ld_at c1, cel_of c1, stm_at c1, stm_upd, ld_same, cel_same, over, k9]
        exact kb hk1 (by simp [k9])
      · simp -implicitDefEqProofs [ld_at c1, cel_of c1, stm_at c1, stm_upd, ld_same, cel_same, over, k1, k2', k3', k4', k5, k6', k7', k8, k9]
        exact kb hk1 (by simp [k8, k9])
set_option maxHeartbeats 1000000 in
theorem short_ok (x : OpD) {h : Heap} {v : Value} (hv : Sl 1 StrR h v x.users) (hk : ∀ h', Ext h h' → K (.bool (shortB x)) h') : callM P qdrZ #[.agg (opC x v).toArray] h K := by
  apply qrAZ
  unfold qgMZ
  refine nw_agg fun v1 h1 n1 e1 c1 => ?_
  simp -implicitDefEqProofs only [opC] at c1
  have hlen := hv.len
  have hk1 := hk h1 e1
  by_cases h40 : x.user.size ≤ 40
  rotate_left
  · have : (40 : Int) < x.user.size := by omega
    simp -implicitDefEqProofs [ld_at c1, cel_of c1, stm_at c1, stm_upd, ld_same, cel_same, over, this]
    exact kb hk1 (by simp [shortB, h40])
  have h40' : ¬ (40 : Int) < x.user.size := by omega
  by_cases h20 : x.users.length ≤ 20
  rotate_left
  · have : (20 : Int) < x.users.length := by omega
    simp -implicitDefEqProofs [ld_at c1, cel_of c1, stm_at c1, stm_upd, ld_same, cel_same, over, h40', this, hlen]
    exact kb hk1 (by simp [shortB, h20])
  have h20' : ¬ (20 : Int) < x.users.length := by omega
  unfold qjIZ
  simp -implicitDefEqProofs [ld_at c1, cel_of c1, stm_at c1, stm_upd, ld_same, cel_same, over, h40', h20', hlen]
  rw [seqM_eq]
  unfold qjHZ
  refine loop_on [1] (fun s h' => h' = h1 ∧ ∃ i : Nat, i ≤ x.users.length ∧ s 3 = .int .i64 i ∧ (x.users.take i).all (fun s => decide (s.size ≤ 40)) = true) (fun s _ => (x.users.length - num (s 3)).toNat) ⟨rfl, 0, by omega, rfl, by simp⟩ ?_
  rintro s h2 hf ⟨rfl, i, hi, s3, hall⟩
  have s1 : s 1 = ptr v1 := by simpa using hf 1 (by simp)
  unfold qjGZ
  simp -implicitDefEqProofs only [s1, faV_p, ov_s, ldV_c, Nat.zero_add, cel_of c1, List.getElem?_toArray, List.getElem?_cons_succ, List.getElem?_cons_zero, hlen, s3, bin_lss, cd_b]
  refine ⟨fun hc => ?_, fun hc => ?_⟩
  · have hlt : i < x.users.length := by have : ((i : Int) < x.users.length) := by simpa using hc
                                        omega
    obtain ⟨b, o, i1, i2⟩ := str_at hv (k := .i64) hlt
    have hw : IntKind.i64.wrap ((i : Int) + 1) = i + 1 := wrap64_id (by omega) (by omega)
    unfold qjFZ qjDZ qjEZ
    by_cases hn : x.users[i].size ≤ 40
    · have hn' : ¬ (40 : Int) < x.users[i].size := by omega
      simp -implicitDefEqProofs [s1, s3, ld_at c1, cel_of c1, stm_at c1, stm_upd, ld_same, cel_same, over, i1, i2 _ e1, hn', hw]
      refine ⟨⟨i + 1, by omega, by simp, ?_⟩, by omega⟩
      simpa using all_succ (p := fun s : ByteArray => decide (s.size ≤ 40)) hlt hall (by simp [hn])
    · have hn' : (40 : Int) < x.users[i].size := by omega
      simp -implicitDefEqProofs [s1, s3, ld_at c1, cel_of c1, stm_at c1, stm_upd, ld_same, cel_same, over, i1, i2 _ e1, hn']
      refine kb hk1 ?_
      have : (x.users.all fun s => decide (s.size ≤ 40)) = false := by rw [List.all_eq_false]; exact ⟨_, List.getElem_mem hlt, by simp [hn]⟩
      simp -implicitDefEqProofs [shortB, this]
  · have : i = x.users.length := by have : ¬ ((i : Int) < x.users.length) := by simpa using hc
                                    omega
    subst this
    rw [List.take_length] at hall
    simp -implicitDefEqProofs
    refine kb hk1 ?_
    simp -implicitDefEqProofs [shortB, hall, h40, h20]
end Go.Proofs.YtcnphhhcknhhaaaGreat
namespace Go.Proofs.YtcnphhhcknhhaaaGreat
open Go Go.Den Go.MapKept
set_option linter.unusedSimpArgs false
set_option linter.unusedVariables false
set_option maxRecDepth 20000
theorem unSlInt:P.underlying quIZ=some (.slice qjZ):=by kernel_rfl
theorem apInt:apC P qjZ=some (1,8,1):=by kernel_rfl
def NatR (_:Heap) (c:List Value) (n:Nat):Prop:=c=[.int .i64 n]
theorem NatR.ext {h h':Heap} {c:List Value} {x:Nat} (_:Ext h h') (r:NatR h c x):NatR h' c x:=r
end Go.Proofs.YtcnphhhcknhhaaaGreat
namespace Go.Den
open Go
set_option linter.unusedVariables false
set_option linter.unusedSimpArgs false
theorem RP.next_lt {p:RP} {ph:Int} (h:p.at_ + 1 < p.k):p.next ph={ p with at_:=p.at_ + 1 }:=if_pos h
theorem RP.next_ge {p:RP} {ph:Int} (h:¬ p.at_ + 1 < p.k):p.next ph={ p with ph:=ph,at_:=0 }:=if_neg h
end Go.Den
namespace Go.Den
open Go
set_option linter.unusedVariables false
set_option linter.unusedSimpArgs false
structure RG (r:RP):Prop where
 us:r.users.length ≤ 1000
 of:r.of ≤ 1000
 k8:r.k ≤ 8
 tr:0 ≤ r.tries∧r.tries ≤ 4
 at_:r.at_ < 1000000
 sn:∀ i b,r.seen i=some b → BkG b
structure HG (H:Hall):Prop where
 n8:H.n ≤ 8
 ac:H.acts.length < 900000
 sn:∀ s,s < H.n → BkG (H.ss s).snap∧BkG (H.ss s).book
 uv:∀ s,s < H.n → U64 (H.ss s).v∧U64 (H.ss s).bound
 wh:∀ s,s < H.n → 0 ≤ (H.ss s).who∧(H.ss s).who ≤ 1000
 cw:CfgW H.c
 c8:H.c.stripes ≤ 8
theorem RP.s_lt {r:RP} (h:r.at_ < r.k):r.s=r.ss[r.at_]'h:=by
 show r.ss.getD r.at_ 0=_
 rw [List.getD_eq_getElem?_getD,List.getElem?_eq_getElem h]; rfl
theorem HG.did {H:Hall} (x:HG H) (w k p:Int) (h:H.acts.length + 1 < 900000):HG (H.did w k p):=⟨x.n8,by simp [Hall.did]; omega,x.sn,x.uv,x.wh,x.cw,x.c8⟩
theorem HG.put {H:Hall} (x:HG H) {s:Nat} {y:Strp} (h1:BkG y.snap∧BkG y.book) (h2:U64 y.v∧U64 y.bound) (h3:0 ≤ y.who∧y.who ≤ 1000):HG (H.put s y) :=
 ⟨x.n8,x.ac,fun t ht=>by simp only [Hall.put,sput]; split; exact h1; exact x.sn t ht,fun t ht=>by simp only [Hall.put,sput]; split; exact h2; exact x.uv t ht,fun t ht=>by simp only [Hall.put,sput]; split; exact h3; exact x.wh t ht,x.cw,x.c8⟩
theorem HG.lock {H:Hall} (x:HG H) {w:Int} {s:Nat} (hs:s < H.n) (hw:w ≤ 900) (h:H.acts.length + 1 < 900000):HG (H.lock w s):=by
 unfold Hall.lock
 split
 ·rename_i hc
  have hc':0 ≤ w∧(H.ss s).who=0:=by simpa [canTake] using hc
  exact (x.did _ _ _ h).put (x.sn s hs) (x.uv s hs) (by simp; omega)
 ·exact x
theorem HG.unlock {H:Hall} (x:HG H) {w:Int} {s:Nat} (hs:s < H.n) (h:H.acts.length + 1 < 900000):HG (H.unlock w s):=by
 unfold Hall.unlock
 split
 ·exact (x.did _ _ _ h).put (x.sn s hs) (x.uv s hs) (by simp)
 ·exact x
theorem lock_n (H:Hall) (w:Int) (s:Nat):(H.lock w s).n=H.n∧(H.lock w s).c=H.c∧(H.lock w s).acts.length ≤ H.acts.length + 1:=by
 unfold Hall.lock; split
 ·exact ⟨rfl,rfl,by simp [Hall.put,Hall.did]⟩
 ·exact ⟨rfl,rfl,by omega⟩
theorem unlock_n (H:Hall) (w:Int) (s:Nat):(H.unlock w s).n=H.n∧(H.unlock w s).c=H.c∧(H.unlock w s).acts.length ≤ H.acts.length + 1:=by
 unfold Hall.unlock; split
 ·exact ⟨rfl,rfl,by simp [Hall.put,Hall.did]⟩
 ·exact ⟨rfl,rfl,by omega⟩
structure RK (n:Nat) (r:RP):Prop where
 rg:RG r
 at_:r.ph ≠ 8 → r.ss ≠ [] → r.at_ < r.k
 ss:∀ s ∈ r.ss,s < n
 vn:r.ph ≠ 8 → r.vals=[]
 ph:0 ≤ r.ph∧r.ph ≤ 8
 e0:r.ss=[] → r.ph=0 ∨ r.ph=8
 ep:∀ i,i < r.k → U64 (r.ep i)
 wr:-1000 ≤ r.who∧r.who ≤ 900
theorem RK.next {n:Nat} {r:RP} (x:RK n r) (h8:r.ph ≠ 8) (h0:r.ss ≠ []) {ph:Int} (hp:0 ≤ ph∧ph ≤ 8):RK n (r.next ph):=by
 have hk:0 < r.k:=by unfold RP.k; exact List.length_pos_iff.2 h0
 have g:=x.rg
 have k8:=g.k8
 by_cases hl:r.at_ + 1 < r.k
 ·rw [RP.next_lt hl]
  exact ⟨⟨g.us,g.of,g.k8,g.tr,by simp; omega,g.sn⟩,fun _ _=>hl,x.ss,fun _=>x.vn h8,x.ph,fun h=>absurd h h0,x.ep,x.wr⟩
 ·rw [RP.next_ge hl]
  exact ⟨⟨g.us,g.of,g.k8,g.tr,by simp,g.sn⟩,fun _ _=>hk,x.ss,fun _=>x.vn h8,hp,fun h=>absurd h h0,x.ep,x.wr⟩
theorem RK.begin {n:Nat} {r:RP} (x:RK n r) (hv:r.vals=[]):RK n r.begin:=by
 have g:=x.rg
 exact ⟨⟨g.us,g.of,g.k8,g.tr,by simp [RP.begin],fun i b h=>by simp [RP.begin] at h⟩,fun _ h0=>by show 0 < r.k; unfold RP.k; exact List.length_pos_iff.2 h0,x.ss,fun _=>hv,by simp [RP.begin],fun _=>.inl rfl,fun i _=>by simp [RP.begin,U64],x.wr⟩
theorem RK.answer {n:Nat} {r:RP} (x:RK n r) (h0:r.ss ≠ []) {ph:Int} (hp:ph=8):RK n { r.answer with ph:=ph }:=by
 have g:=x.rg
 subst hp
 unfold RP.answer
 split
 ·exact ⟨⟨g.us,g.of,g.k8,g.tr,g.at_,g.sn⟩,fun h=>absurd rfl h,x.ss,fun h=>absurd rfl h,by simp,fun h=>absurd h h0,x.ep,x.wr⟩
 ·exact ⟨⟨g.us,g.of,g.k8,g.tr,g.at_,g.sn⟩,fun h=>absurd rfl h,x.ss,fun h=>absurd rfl h,by simp,fun h=>absurd h h0,x.ep,x.wr⟩
theorem answer_ph (r:RP):r.answer.ph=r.ph:=by unfold RP.answer; split <;> rfl
theorem RK.judge {n:Nat} {r:RP} (x:RK n r) (h0:r.ss ≠ []) (hv:r.vals=[]) (hat:r.at_ < r.k):RK n r.judge:=by
 have g:=x.rg
 unfold RP.judge
 split
 ·exact x.answer h0 rfl
 ·split
  ·exact ⟨⟨g.us,g.of,g.k8,g.tr,g.at_,g.sn⟩,fun _ _=>hat,x.ss,fun _=>hv,by simp,fun h=>absurd h h0,x.ep,x.wr⟩
  ·rename_i h1 h2
   have ht:¬ r.tries=0:=by intro h; simp [h] at h2
   have:=g.tr
   refine RK.begin (r:={ r with tries:=r.tries - 1 }) ⟨⟨g.us,g.of,g.k8,by simp; omega,g.at_,g.sn⟩,x.at_,x.ss,x.vn,x.ph,x.e0,x.ep,x.wr⟩ hv
theorem RK.step {r:RP} {H:Hall} (x:RK H.n r) (g:HG H) (n:Int) (ha:H.acts.length + 1 < 900000) :
  RK H.n (r.step H n).1∧HG (r.step H n).2∧(r.step H n).2.n=H.n∧(r.step H n).2.c=H.c∧(r.step H n).2.acts.length ≤ H.acts.length + 1:=by
 have rg:=x.rg
 unfold RP.step
 split
 ·exact ⟨x,g,rfl,rfl,Nat.le_succ _⟩
 rename_i hen
 have hen:r.enabled H=true:=by simpa using hen
 have h8:¬ r.ph=8:=fun h=>by simp [RP.enabled,h] at hen
 split
 ·rename_i h0
  exact ⟨⟨⟨rg.us,rg.of,rg.k8,rg.tr,rg.at_,rg.sn⟩,fun h=>absurd rfl h,x.ss,fun _=>rfl,by simp,fun _=>.inr rfl,x.ep,x.wr⟩,g,rfl,rfl,Nat.le_succ _⟩
 rename_i h0
 have hat:=x.at_ h8 h0
 have hs:r.s < H.n:=by rw [RP.s_lt hat]; exact x.ss _ (List.getElem_mem _)
 have hv:=x.vn h8
 have hw:=x.wr
 have did:∀ k p:Int,HG (H.did r.who k p)∧(H.did r.who k p).n=H.n∧(H.did r.who k p).c=H.c∧(H.did r.who k p).acts.length ≤ H.acts.length + 1:=fun k p=>⟨g.did _ _ _ ha,rfl,rfl,by simp [Hall.did]⟩
 unfold RP.go
 split
 ·refine ⟨RK.next (r:={ r with ep:=epset r.ep r.at_ (H.ss r.s).v,spent:=r.spent || decide (evn H.c.epochs ≤ (H.ss r.s).v) }) ⟨⟨rg.us,rg.of,rg.k8,rg.tr,rg.at_,rg.sn⟩,x.at_,x.ss,x.vn,x.ph,x.e0,fun i hi=>?_,x.wr⟩ h8 h0 (by omega),did _ _⟩
  simp only [epset]; split
  ·exact (g.uv _ hs).1
  ·exact x.ep i hi
 split
 ·refine ⟨RK.next (r:={ r with seen:=seenset r.seen r.s (H.ss r.s).snap }) ⟨⟨rg.us,rg.of,rg.k8,rg.tr,rg.at_,fun i b h=>?_⟩,x.at_,x.ss,x.vn,x.ph,x.e0,x.ep,x.wr⟩ h8 h0 (by omega),did _ _⟩
  simp only [seenset] at h; split at h
  ·cases h; exact (g.sn _ hs).1
  ·exact rg.sn i b h
 split
 ·exact ⟨⟨⟨rg.us,rg.of,rg.k8,rg.tr,rg.at_,rg.sn⟩,fun _ _=>hat,x.ss,fun _=>hv,by simp,fun h=>absurd h h0,x.ep,x.wr⟩,did _ _⟩
 split
 ·exact ⟨⟨⟨rg.us,rg.of,rg.k8,rg.tr,rg.at_,rg.sn⟩,fun _ _=>hat,x.ss,fun _=>hv,by simp,fun h=>absurd h h0,x.ep,x.wr⟩,did _ _⟩
 split
 ·have y:RK H.n { r with valid:=r.valid && validB (r.ep r.at_) (H.ss r.s).v H.c.epochs }:=⟨⟨rg.us,rg.of,rg.k8,rg.tr,rg.at_,rg.sn⟩,x.at_,x.ss,x.vn,x.ph,x.e0,x.ep,x.wr⟩
  refine ⟨?_,did _ _⟩
  have yn:=y.next h8 h0 (ph:=8) (by omega)
  show RK H.n (if RP.last { r with valid:=r.valid && validB (r.ep r.at_) (H.ss r.s).v H.c.epochs } then RP.judge (RP.next { r with valid:=r.valid && validB (r.ep r.at_) (H.ss r.s).v H.c.epochs } 8) else RP.next { r with valid:=r.valid && validB (r.ep r.at_) (H.ss r.s).v H.c.epochs } 8)
  split
  ·rename_i hl
   have hl':(!decide (r.at_ + 1 < r.k))=true:=hl
   have hge:¬ r.at_ + 1 < r.k:=by simpa using hl'
   have e:=RP.next_ge (p:={ r with valid:=r.valid && validB (r.ep r.at_) (H.ss r.s).v H.c.epochs }) (ph:=8) hge
   refine yn.judge (by rw [e]; exact h0) (by rw [e]; exact hv) (by rw [e]; show 0 < r.k; omega)
  ·exact yn
 split
 ·exact ⟨x.next h8 h0 (by omega),g.lock hs hw.2 ha,lock_n _ _ _⟩
 split
 ·refine ⟨RK.next (r:={ r with seen:=seenset r.seen r.s (H.ss r.s).book }) ⟨⟨rg.us,rg.of,rg.k8,rg.tr,rg.at_,fun i b h=>?_⟩,x.at_,x.ss,x.vn,x.ph,x.e0,x.ep,x.wr⟩ h8 h0 (by omega),did _ _⟩
  simp only [seenset] at h; split at h
  ·cases h; exact (g.sn _ hs).2
  ·exact rg.sn i b h
 ·refine ⟨?_,g.unlock hs ha,unlock_n _ _ _⟩
  have yn:=x.next h8 h0 (ph:=8) (by omega)
  show RK H.n (if r.last then (r.next 8).answer else r.next 8)
  split
  ·rename_i hl
   have hl':(!decide (r.at_ + 1 < r.k))=true:=hl
   have hge:¬ r.at_ + 1 < r.k:=by simpa using hl'
   have e:=RP.next_ge (p:=r) (ph:=8) hge
   have:=yn.answer (by rw [e]; exact h0) rfl (ph:=8)
   have e8:(r.next 8).answer.ph=8:=by rw [answer_ph,e]
   have ee:∀ q:RP,q.ph=8 → { q with ph:=8 }=q:=fun q h=>by cases q; simp at h; subst h; rfl
   rw [ee _ e8] at this
   exact this
  ·exact yn
end Go.Den
namespace Go.Proofs.YtcnphhhcknhhaaaGreat
open Go Go.Den Go.MapKept
set_option linter.unusedSimpArgs false
set_option linter.unusedVariables false
set_option maxRecDepth 20000
def rpC (r:RP) (uv sv ev:Value) (mr:Nat) (vv:Value):List Value:=[.int .i64 r.who,uv,.int .i64 r.of,sv,.int .i64 r.ph,.int .i64 r.at_,.int .i64 r.tries,ev,.bool r.valid,.bool r.spent,.map (some mr),
 .int .u64 r.t.now,.int .u64 r.t.seq,.bool r.t.closed,.int .i64 r.looked,.int .i64 r.placed,.int .i64 r.err,vv,.slice none 0 0,.bool false]
def SeenR (F h:Heap) (mr:Nat) (s:Int → Option Book):Prop:=∃ f,MapR (.int .i64) h mr f∧∀ i:Int,match s i with
 | some b=>∃ a c,f (.int .i64 i)=some (.agg #[a,c])∧BookR F a c b
 | none=>f (.int .i64 i)=none
structure RPX (T:Tags) (h:Heap) (g:Tag) (p:Nat) (r:RP) (uv sv ev:Value) (mr:Nat) (vv:Value):Prop where
 hp:h p=some (.cells (rpC r uv sv ev mr vv).toArray quSZ (0,0))
 tp:T p=g ++ [0]
 us:Sl 1 StrR (fz T h) uv r.users
 ss:Sl 1 NatR (fz T h) sv r.ss
 ep:Rw T h (g ++ [1]) 1 qamZ ev r.k (seqF r.k fun i=>[.int .u64 (r.ep i)])
 mt:T mr=g ++ [2]
 sn:SeenR (fz T h) h mr r.seen
 vs:Sl 3 PresR (fz T h) vv r.vals
 vn:r.vals=[] → vv = .slice none 0 0
def RPR (T:Tags) (h:Heap) (g:Tag) (p:Nat) (r:RP):Prop:=∃ uv sv ev mr vv,RPX T h g p r uv sv ev mr vv
theorem SeenR.kp {U:Tag → Prop} {T T':Tags} {h h':Heap} {g:Tag} {mr:Nat} {s:Int → Option Book} (x:SeenR (fz T h) h mr s) (k:Kp U T h T' h') (ht:T mr=g) (u:¬ U g) (n:¬ U []):SeenR (fz T' h') h' mr s:=by
 obtain ⟨f,m,hs⟩:=x
 obtain ⟨o,ho⟩:=m.lt
 refine ⟨f,m.of (by rw [(k.at ho ht u).1,ho]),fun i=>?_⟩
 have:=hs i
 cases hsi:s i with
 | none=>simpa [hsi] using this
 | some b=>simp only [hsi] at this ⊢; obtain ⟨a,c,h1,h2⟩:=this; exact ⟨a,c,h1,h2.ext (k.ext n)⟩
theorem RPX.kp {U:Tag → Prop} {T T':Tags} {h h':Heap} {g:Tag} {p:Nat} {r:RP} {uv sv ev:Value} {mr:Nat} {vv:Value} (x:RPX T h g p r uv sv ev mr vv) (k:Kp U T h T' h') (o:Off U g) (n:¬ U []):RPX T' h' g p r uv sv ev mr vv:=by
 obtain ⟨f,m,_⟩:=x.sn
 obtain ⟨om,hom⟩:=m.lt
 exact ⟨(k.at x.hp x.tp (o.at _)).1,(k.at x.hp x.tp (o.at _)).2,x.us.ext (@StrR.ext) (k.ext n),x.ss.ext (@NatR.ext) (k.ext n),x.ep.kp k (o.at _),(k.at hom x.mt (o.at _)).2,x.sn.kp k x.mt (o.at _) n,
  x.vs.ext (@PresR.ext) (k.ext n),x.vn⟩
theorem RPR.kp {U:Tag → Prop} {T T':Tags} {h h':Heap} {g:Tag} {p:Nat} {r:RP} (x:RPR T h g p r) (k:Kp U T h T' h') (o:Off U g) (n:¬ U []):RPR T' h' g p r:=by
 obtain ⟨uv,sv,ev,mr,vv,x⟩:=x
 exact ⟨uv,sv,ev,mr,vv,x.kp k o n⟩
end Go.Proofs.YtcnphhhcknhhaaaGreat
namespace Go.Proofs.YtcnphhhcknhhaaaGreat
open Go Go.Den Go.MapKept
set_option linter.unusedSimpArgs false
set_option linter.unusedVariables false
set_option maxRecDepth 20000
theorem bsPres:bsI P qbvZ=some (qqZ,3,#[.int .i64 0,.int .i64 0,.int .i64 0]):=by kernel_rfl
theorem unSlPres:P.underlying qbvZ=some (.slice qqZ):=by kernel_rfl
theorem apPres:apC P qqZ=some (3,24,3):=by kernel_rfl
end Go.Proofs.YtcnphhhcknhhaaaGreat
