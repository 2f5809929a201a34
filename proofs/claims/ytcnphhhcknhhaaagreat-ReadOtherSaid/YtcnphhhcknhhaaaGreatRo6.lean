/- Words, plain data and contracts of the Go functions that this claim reaches. No condition beyond the hypotheses that each theorem states. -/
import Derived.Test.YtcnphhhcknhhaaaGreatRo5
set_option linter.unusedSimpArgs false
set_option linter.unusedVariables false
namespace Go.Proofs.YtcnphhhcknhhaaaGreat
open Go Go.Den Go.MapKept
set_option linter.unusedSimpArgs false
set_option linter.unusedVariables false
set_option maxRecDepth 20000
variable {K:KTy}
set_option maxHeartbeats 4000000 in
theorem readOther_ok (x y:OpD)(xw:OpW x)(yw:OpW y){h:Heap}{ux uy tv:Value}(hx:Sl 1 StrR h ux x.users)(hy:Sl 1 StrR h uy y.users)(ts:List Int)(ht:Sl 1 (IntR .u8) h tv ts)(hk:∀ h',Ext h h'→K (.bool true) h') :
  callM P qcWZ #[.agg (opC x ux).toArray,.agg (opC y uy).toArray,tv] h K:=by
 apply qlyZ
 unfold qdcZ
 have ox:=hx.one
 have oy:=hy.one
 have tl:=ht.len
 refine nw_agg fun v1 h1 n1 e1 c1=>?_
 refine nw_agg fun v3 h3 n3 e3 c3=>?_
 have c1:=e3 _ _ c1
 have e0:=e1.trans e3
 refine awake_ok fun h4 e4=>?_
 have c1:=e4 _ _ c1
 have c3:=e4 _ _ c3
 have e0:=e0.trans e4
 unfold qfkZ
 have og:∀ (h':Heap) (v:Nat) (o:OpD × Value),h' v=some (.cells (opC o.1 o.2).toArray qeZ (0,0))→ldV (some (some 7)) (ptr v) h'=some (.agg (opC o.1 o.2).toArray):=fun h' v o hc=>by simp[ld_at hc,opC]
 simp -implicitDefEqProofs[og _ _ (x,ux) c1]
 refine short_ok x (hx.ext (@StrR.ext) e0) fun h5 e5=>?_
 have c1:=e5 _ _ c1
 have c3:=e5 _ _ c3
 have e0:=e0.trans e5
 cases hsx:shortB x with
 | false =>
  simp -implicitDefEqProofs
  exact awake_ok fun h6 e6=>hk _ (e0.trans e6)
 | true =>
 simp -implicitDefEqProofs[og _ _ (y,uy) c3]
 refine short_ok y (hy.ext (@StrR.ext) e0) fun hB e6=>?_
 have c1:=e6 _ _ c1
 have c3:=e6 _ _ c3
 have e0:=e0.trans e6
 cases hsy:shortB y with
 | false =>
  simp -implicitDefEqProofs
  exact awake_ok fun h7 e7=>hk _ (e0.trans e7)
 | true =>
 by_cases tn:ts.length≤300
 rotate_left
 ·have tn':(300:Int)<ts.length:=by omega
  simp -implicitDefEqProofs[tl,tn']
  exact awake_ok fun h7 e7=>hk _ (e0.trans e7)
 have tn':¬ (300:Int)<ts.length:=by omega
 simp -implicitDefEqProofs[tl,tn']
 unfold qfjZ
 rw[seqM_eq]
 have fin:∀ (h5:Heap) (va vb:Nat) (s:Env),Ext hB h5→h5 va=some (.cells (opC (rdOp x) ux).toArray qeZ (0,0))→h5 vb=some (.cells (opC (wrOp y) uy).toArray qeZ (0,0))→s 2=tv→s 7=ptr va→s 8=ptr vb→qaKZ s h5 K []:=by
  intro h5 va vb s e5 ca cb s2 s7 s8
  exact roTail x y xw yw hsx hsy ts tn (hx.ext (@StrR.ext) (e0.trans e5)) (hy.ext (@StrR.ext) (e0.trans e5)) (ht.ext (fun _ r=>r) (e0.trans e5)) (fun h' e=>hk h' ((e0.trans e5).trans e)) va vb s ca cb s2 s7 s8
 have eB:=Ext.refl hB
 unfold qfiZ
 simp -implicitDefEqProofs only[og _ _ (x,ux) c1,og _ _ (y,uy) c3,ov_s]
 refine⟨?_,?_,?_⟩
 ·unfold qfhZ
  refine reading_ok x ox fun h56 e56=>?_
  have c1:=e56 _ _ c1
  have c3:=e56 _ _ c3
  have eB:=eB.trans e56
  unfold qfgZ
  refine⟨og _ _ (y,uy) c3,?_⟩
  refine⟨?_,?_,?_⟩
  ·refine writing16_ok y oy fun h58 e58=>?_
   have c1:=e58 _ _ c1
   have c3:=e58 _ _ c3
   have eB:=eB.trans e58
   unfold qfeZ
   refine⟨?_,?_⟩
   ·unfold qfcZ
    try rw[zcOp]
    refine nw_intro fun v59 h60 n59 e60 c59=>?_
    have c1:=e60 _ _ c1
    have c3:=e60 _ _ c3
    have m59:hB v59=none:=fresh_of eB n59
    have eB:=eB.trans e60
    try rw[zcOp]
    refine nw_intro fun v61 h62 n61 e62 c61=>?_
    have c1:=e62 _ _ c1
    have c3:=e62 _ _ c3
    have ne59_61:v59≠v61:=ne_fresh c59 n61
    have c59:=e62 _ _ c59
    have m61:hB v61=none:=fresh_of eB n61
    have eB:=eB.trans e62
    refine st2 eB m59 m61 c59 c61 ne59_61 (by simp[opC]) (by simp[opC]) (by simp[opC,ox.1,oy.1]) (by simp[opC,ox.1,oy.1]) rfl rfl fun h5 e5 ca cb=>?_
    try simp only[thenM_n]
    exact fin h5 v59 v61 _ e5 ca cb (by simp) (by simp) (by simp)
   ·unfold qfdZ
    try rw[zcOp]
    refine nw_intro fun v65 h66 n65 e66 c65=>?_
    have c1:=e66 _ _ c1
    have c3:=e66 _ _ c3
    have m65:hB v65=none:=fresh_of eB n65
    have eB:=eB.trans e66
    try rw[zcOp]
    refine nw_intro fun v67 h68 n67 e68 c67=>?_
    have c1:=e68 _ _ c1
    have c3:=e68 _ _ c3
    have ne65_67:v65≠v67:=ne_fresh c65 n67
    have c65:=e68 _ _ c65
    have m67:hB v67=none:=fresh_of eB n67
    have eB:=eB.trans e68
    refine st2 eB m67 m65 c67 c65 (Ne.symm ne65_67) (by simp[opC]) (by simp[opC]) (by simp[opC,ox.1,oy.1]) (by simp[opC,ox.1,oy.1]) rfl rfl fun h5 e5 ca cb=>?_
    try simp only[thenM_n]
    exact fin h5 v67 v65 _ e5 ca cb (by simp) (by simp) (by simp)
  ·try rw[zcOp]
   refine nw_intro fun v71 h72 n71 e72 c71=>?_
   have c1:=e72 _ _ c1
   have c3:=e72 _ _ c3
   have m71:hB v71=none:=fresh_of eB n71
   have eB:=eB.trans e72
   refine⟨og _ _ (y,uy) c3,?_⟩
   refine⟨?_,?_⟩
   ·refine writing16_ok y oy fun h74 e74=>?_
    have c1:=e74 _ _ c1
    have c3:=e74 _ _ c3
    have c71:=e74 _ _ c71
    have eB:=eB.trans e74
    unfold qffZ
    try rw[zcOp]
    refine nw_intro fun v75 h76 n75 e76 c75=>?_
    have c1:=e76 _ _ c1
    have c3:=e76 _ _ c3
    have ne71_75:v71≠v75:=ne_fresh c71 n75
    have c71:=e76 _ _ c71
    have m75:hB v75=none:=fresh_of eB n75
    have eB:=eB.trans e76
    refine st2 eB m71 m75 c71 c75 ne71_75 (by simp[opC]) (by simp[opC]) (by simp[opC,ox.1,oy.1]) (by simp[opC,ox.1,oy.1]) rfl rfl fun h5 e5 ca cb=>?_
    try simp only[thenM_n]
    exact fin h5 v71 v75 _ e5 ca cb (by simp) (by simp) (by simp)
   ·try rw[zcOp]
    refine nw_intro fun v79 h80 n79 e80 c79=>?_
    have c1:=e80 _ _ c1
    have c3:=e80 _ _ c3
    have ne71_79:v71≠v79:=ne_fresh c71 n79
    have c71:=e80 _ _ c71
    have m79:hB v79=none:=fresh_of eB n79
    have eB:=eB.trans e80
    refine⟨og _ _ (y,uy) c3,?_⟩
    refine writing16_ok y oy fun h82 e82=>?_
    have c1:=e82 _ _ c1
    have c3:=e82 _ _ c3
    have c71:=e82 _ _ c71
    have c79:=e82 _ _ c79
    have eB:=eB.trans e82
    refine st2 eB m71 m79 c71 c79 ne71_79 (by simp[opC]) (by simp[opC]) (by simp[opC,ox.1,oy.1]) (by simp[opC,ox.1,oy.1]) rfl rfl fun h5 e5 ca cb=>?_
    try simp only[thenM_n]
    exact fin h5 v71 v79 _ e5 ca cb (by simp) (by simp) (by simp)
  ·try rw[zcOp]
   refine nw_intro fun v85 h86 n85 e86 c85=>?_
   have c1:=e86 _ _ c1
   have c3:=e86 _ _ c3
   have m85:hB v85=none:=fresh_of eB n85
   have eB:=eB.trans e86
   refine⟨og _ _ (y,uy) c3,?_⟩
   refine⟨?_,?_⟩
   ·refine writing16_ok y oy fun h88 e88=>?_
    have c1:=e88 _ _ c1
    have c3:=e88 _ _ c3
    have c85:=e88 _ _ c85
    have eB:=eB.trans e88
    unfold qeaZ
    try rw[zcOp]
    refine nw_intro fun v89 h90 n89 e90 c89=>?_
    have c1:=e90 _ _ c1
    have c3:=e90 _ _ c3
    have ne85_89:v85≠v89:=ne_fresh c85 n89
    have c85:=e90 _ _ c85
    have m89:hB v89=none:=fresh_of eB n89
    have eB:=eB.trans e90
    refine st2 eB m89 m85 c89 c85 (Ne.symm ne85_89) (by simp[opC]) (by simp[opC]) (by simp[opC,ox.1,oy.1]) (by simp[opC,ox.1,oy.1]) rfl rfl fun h5 e5 ca cb=>?_
    try simp only[thenM_n]
    exact fin h5 v89 v85 _ e5 ca cb (by simp) (by simp) (by simp)
   ·try rw[zcOp]
    refine nw_intro fun v93 h94 n93 e94 c93=>?_
    have c1:=e94 _ _ c1
    have c3:=e94 _ _ c3
    have ne85_93:v85≠v93:=ne_fresh c85 n93
    have c85:=e94 _ _ c85
    have m93:hB v93=none:=fresh_of eB n93
    have eB:=eB.trans e94
    refine⟨og _ _ (y,uy) c3,?_⟩
    refine writing16_ok y oy fun h96 e96=>?_
    have c1:=e96 _ _ c1
    have c3:=e96 _ _ c3
    have c85:=e96 _ _ c85
    have c93:=e96 _ _ c93
    have eB:=eB.trans e96
    refine st2 eB m93 m85 c93 c85 (Ne.symm ne85_93) (by simp[opC]) (by simp[opC]) (by simp[opC,ox.1,oy.1]) (by simp[opC,ox.1,oy.1]) rfl rfl fun h5 e5 ca cb=>?_
    try simp only[thenM_n]
    exact fin h5 v93 v85 _ e5 ca cb (by simp) (by simp) (by simp)
 ·unfold qedZ
  try rw[zcOp]
  refine nw_intro fun v99 h100 n99 e100 c99=>?_
  have c1:=e100 _ _ c1
  have c3:=e100 _ _ c3
  have m99:hB v99=none:=fresh_of eB n99
  have eB:=eB.trans e100
  refine⟨og _ _ (x,ux) c1,?_⟩
  refine⟨og _ _ (y,uy) c3,?_⟩
  refine⟨?_,?_⟩
  ·refine reading_ok x ox fun h102 e102=>?_
   have c1:=e102 _ _ c1
   have c3:=e102 _ _ c3
   have c99:=e102 _ _ c99
   have eB:=eB.trans e102
   unfold qecZ
   refine⟨og _ _ (y,uy) c3,?_⟩
   refine⟨?_,?_⟩
   ·refine writing16_ok y oy fun h104 e104=>?_
    have c1:=e104 _ _ c1
    have c3:=e104 _ _ c3
    have c99:=e104 _ _ c99
    have eB:=eB.trans e104
    unfold qebZ
    try rw[zcOp]
    refine nw_intro fun v105 h106 n105 e106 c105=>?_
    have c1:=e106 _ _ c1
    have c3:=e106 _ _ c3
    have ne99_105:v99≠v105:=ne_fresh c99 n105
    have c99:=e106 _ _ c99
    have m105:hB v105=none:=fresh_of eB n105
    have eB:=eB.trans e106
    refine st2 eB m99 m105 c99 c105 ne99_105 (by simp[opC]) (by simp[opC]) (by simp[opC,ox.1,oy.1]) (by simp[opC,ox.1,oy.1]) rfl rfl fun h5 e5 ca cb=>?_
    try simp only[thenM_n]
    exact fin h5 v99 v105 _ e5 ca cb (by simp) (by simp) (by simp)
   ·try rw[zcOp]
    refine nw_intro fun v109 h110 n109 e110 c109=>?_
    have c1:=e110 _ _ c1
    have c3:=e110 _ _ c3
    have ne99_109:v99≠v109:=ne_fresh c99 n109
    have c99:=e110 _ _ c99
    have m109:hB v109=none:=fresh_of eB n109
    have eB:=eB.trans e110
    refine⟨og _ _ (y,uy) c3,?_⟩
    refine writing16_ok y oy fun h112 e112=>?_
    have c1:=e112 _ _ c1
    have c3:=e112 _ _ c3
    have c99:=e112 _ _ c99
    have c109:=e112 _ _ c109
    have eB:=eB.trans e112
    refine st2 eB m99 m109 c99 c109 ne99_109 (by simp[opC]) (by simp[opC]) (by simp[opC,ox.1,oy.1]) (by simp[opC,ox.1,oy.1]) rfl rfl fun h5 e5 ca cb=>?_
    try simp only[thenM_n]
    exact fin h5 v99 v109 _ e5 ca cb (by simp) (by simp) (by simp)
  ·try rw[zcOp]
   refine nw_intro fun v115 h116 n115 e116 c115=>?_
   have c1:=e116 _ _ c1
   have c3:=e116 _ _ c3
   have ne99_115:v99≠v115:=ne_fresh c99 n115
   have c99:=e116 _ _ c99
   have m115:hB v115=none:=fresh_of eB n115
   have eB:=eB.trans e116
   refine⟨og _ _ (x,ux) c1,?_⟩
   refine⟨og _ _ (y,uy) c3,?_⟩
   refine reading_ok x ox fun h118 e118=>?_
   have c1:=e118 _ _ c1
   have c3:=e118 _ _ c3
   have c99:=e118 _ _ c99
   have c115:=e118 _ _ c115
   have eB:=eB.trans e118
   refine⟨og _ _ (y,uy) c3,?_⟩
   refine writing16_ok y oy fun h120 e120=>?_
   have c1:=e120 _ _ c1
   have c3:=e120 _ _ c3
   have c99:=e120 _ _ c99
   have c115:=e120 _ _ c115
   have eB:=eB.trans e120
   refine st2 eB m99 m115 c99 c115 ne99_115 (by simp[opC]) (by simp[opC]) (by simp[opC,ox.1,oy.1]) (by simp[opC,ox.1,oy.1]) rfl rfl fun h5 e5 ca cb=>?_
   try simp only[thenM_n]
   exact fin h5 v99 v115 _ e5 ca cb (by simp) (by simp) (by simp)
 ·unfold qegZ
  try rw[zcOp]
  refine nw_intro fun v123 h124 n123 e124 c123=>?_
  have c1:=e124 _ _ c1
  have c3:=e124 _ _ c3
  have m123:hB v123=none:=fresh_of eB n123
  have eB:=eB.trans e124
  refine⟨og _ _ (x,ux) c1,?_⟩
  refine⟨og _ _ (y,uy) c3,?_⟩
  refine⟨?_,?_⟩
  ·refine reading_ok x ox fun h126 e126=>?_
   have c1:=e126 _ _ c1
   have c3:=e126 _ _ c3
   have c123:=e126 _ _ c123
   have eB:=eB.trans e126
   unfold qefZ
   refine⟨og _ _ (y,uy) c3,?_⟩
   refine⟨?_,?_⟩
   ·refine writing16_ok y oy fun h128 e128=>?_
    have c1:=e128 _ _ c1
    have c3:=e128 _ _ c3
    have c123:=e128 _ _ c123
    have eB:=eB.trans e128
    unfold qeeZ
    try rw[zcOp]
    refine nw_intro fun v129 h130 n129 e130 c129=>?_
    have c1:=e130 _ _ c1
    have c3:=e130 _ _ c3
    have ne123_129:v123≠v129:=ne_fresh c123 n129
    have c123:=e130 _ _ c123
    have m129:hB v129=none:=fresh_of eB n129
    have eB:=eB.trans e130
    refine st2 eB m129 m123 c129 c123 (Ne.symm ne123_129) (by simp[opC]) (by simp[opC]) (by simp[opC,ox.1,oy.1]) (by simp[opC,ox.1,oy.1]) rfl rfl fun h5 e5 ca cb=>?_
    try simp only[thenM_n]
    exact fin h5 v129 v123 _ e5 ca cb (by simp) (by simp) (by simp)
   ·try rw[zcOp]
    refine nw_intro fun v133 h134 n133 e134 c133=>?_
    have c1:=e134 _ _ c1
    have c3:=e134 _ _ c3
    have ne123_133:v123≠v133:=ne_fresh c123 n133
    have c123:=e134 _ _ c123
    have m133:hB v133=none:=fresh_of eB n133
    have eB:=eB.trans e134
    refine⟨og _ _ (y,uy) c3,?_⟩
    refine writing16_ok y oy fun h136 e136=>?_
    have c1:=e136 _ _ c1
    have c3:=e136 _ _ c3
    have c123:=e136 _ _ c123
    have c133:=e136 _ _ c133
    have eB:=eB.trans e136
    refine st2 eB m133 m123 c133 c123 (Ne.symm ne123_133) (by simp[opC]) (by simp[opC]) (by simp[opC,ox.1,oy.1]) (by simp[opC,ox.1,oy.1]) rfl rfl fun h5 e5 ca cb=>?_
    try simp only[thenM_n]
    exact fin h5 v133 v123 _ e5 ca cb (by simp) (by simp) (by simp)
  ·try rw[zcOp]
   refine nw_intro fun v139 h140 n139 e140 c139=>?_
   have c1:=e140 _ _ c1
   have c3:=e140 _ _ c3
   have ne123_139:v123≠v139:=ne_fresh c123 n139
   have c123:=e140 _ _ c123
   have m139:hB v139=none:=fresh_of eB n139
   have eB:=eB.trans e140
   refine⟨og _ _ (x,ux) c1,?_⟩
   refine⟨og _ _ (y,uy) c3,?_⟩
   refine reading_ok x ox fun h142 e142=>?_
   have c1:=e142 _ _ c1
   have c3:=e142 _ _ c3
   have c123:=e142 _ _ c123
   have c139:=e142 _ _ c139
   have eB:=eB.trans e142
   refine⟨og _ _ (y,uy) c3,?_⟩
   refine writing16_ok y oy fun h144 e144=>?_
   have c1:=e144 _ _ c1
   have c3:=e144 _ _ c3
   have c123:=e144 _ _ c123
   have c139:=e144 _ _ c139
   have eB:=eB.trans e144
   refine st2 eB m139 m123 c139 c123 (Ne.symm ne123_139) (by simp[opC]) (by simp[opC]) (by simp[opC,ox.1,oy.1]) (by simp[opC,ox.1,oy.1]) rfl rfl fun h5 e5 ca cb=>?_
   try simp only[thenM_n]
   exact fin h5 v139 v123 _ e5 ca cb (by simp) (by simp) (by simp)
end Go.Proofs.YtcnphhhcknhhaaaGreat
namespace Go.Proofs.YtcnphhhcknhhaaaGreat
open Go Go.Den
variable {K:KTy}
theorem readOther_row {x y:OpD}{ts:List Int}{b1 b2:Array Value}{tv:Value}{h:Heap}(hx:OpR h b1.toList x)(hy:OpR h b2.toList y)(ht:Sl 1 (IntR .u8) h tv ts)(hk:∀ h',Ext h h'→K (.bool true) h') :
  callM P qcWZ #[.agg b1,.agg b2,tv] h K:=by
 obtain⟨v,e1,hv,xw⟩:=hx
 obtain⟨u,e2,hu,yw⟩:=hy
 have h1:b1=(opC x v).toArray:=by rw[← e1]
 have h2:b2=(opC y u).toArray:=by rw[← e2]
 rw[h1,h2]
 exact readOther_ok x y xw yw hv hu ts ht hk
end Go.Proofs.YtcnphhhcknhhaaaGreat
