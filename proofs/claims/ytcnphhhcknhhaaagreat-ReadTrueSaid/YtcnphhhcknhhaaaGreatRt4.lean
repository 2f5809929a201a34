/- Words, plain data and contracts of the Go functions that this claim reaches. No condition beyond the hypotheses that each theorem states. -/
import Derived.Test.YtcnphhhcknhhaaaGreatRt3
set_option linter.unusedSimpArgs false
set_option linter.unusedVariables false
namespace Go.Proofs.YtcnphhhcknhhaaaGreat
open Go Go.Den Go.MapKept
set_option linter.unusedSimpArgs false
set_option linter.unusedVariables false
set_option maxRecDepth 20000
variable {K:KTy}
theorem isNaN_ok (a:ByteArray){h:Heap}(hk:K (.bool false) h):callM P qeFZ #[.string a] h K:=by
 apply qtLZ
 unfold qiNZ
 simpa using hk
theorem sisNaN_ok (a:ByteArray){h:Heap}(hk:K (.bool false) h):callM P qcUZ #[.string a] h K:=by
 apply qrJZ
 unfold qgeZ
 simpa using hk
theorem cmpLess_ok (a b:ByteArray){h:Heap}(hk:K (.bool (ltS a b)) h):callM P qirZ #[.string a,.string b] h K:=by
 apply qugZ
 unfold qjrZ
 refine isNaN_ok a ?_
 unfold qnXZ
 have e:binV .lss 3 false (.string a) (.string b)=some (.bool (ltS a b)):=rfl
 simp -implicitDefEqProofs[e]
 exact hk
theorem str_at {F:Heap}{v:Value}{l:List ByteArray}(x:Sl 1 StrR F v l){i:Nat}(hi:i<l.length){k:IntKind}:∃ b p,iaV (some (none,1)) v (.int k i)=some (.pointer (some ⟨b,p,none⟩))∧∀ h',Ext F h'→cel h' b p=some (.string l[i]):=by
 obtain⟨b,p,c,h1,h2,h3⟩:=x.at (k:=k) (i:=i) (by omega) (by omega)
 refine⟨b,p,h1,fun h' e=>?_⟩
 have hc:c=[.string l[i]]:=h3.1
 subst hc
 have:=(cels_get (cels_ext e h2)).2 0 (by simp)
 simpa using this
set_option maxHeartbeats 1000000 in
theorem bs_ok (l : List ByteArray) (so : SrtK l) (u : ByteArray) {h : Heap} {v : Value} (x : Sl 1 StrR h v l) (hl : l.length < 1000000) (hk : K (.tuple #[.int .i64 (pos l u), .bool (l.any fun k => decide (k = u))]) h) :
    callM P qOZ #[v, .string u] h K := by
  apply qiTZ
  unfold qaOZ
  have hlen := x.len
  simp -implicitDefEqProofs only [hlen, ov_s]
  rw [seqM_eq]
  unfold qcSZ
  refine loop_on [0, 1, 6] (fun s h' => h' = h ∧ ∃ i j : Nat, i ≤ j ∧ j ≤ l.length ∧ s 7 = .int .i64 i ∧ s 8 = .int .i64 j ∧ (∀ k (hk : k < l.length), k < i → ltS l[k] u = true) ∧ ∀ k (hk : k < l.length), j ≤ k → ltS l[k] u = false)
    (fun s _ => (num (s 8) - num (s 7)).toNat) ⟨rfl, 0, l.length, by omega, by omega, rfl, by simp, fun k _ h => by omega, fun k hk h => by omega⟩ ?_
  rintro s h1 hf ⟨rfl, i, j, hij, hj, s7, s8, hlo, hhi⟩
  have s0 : s 0 = v := by simpa using hf 0 (by simp)
  have s1 : s 1 = .string u := by simpa using hf 1 (by simp)
  have s6 : s 6 = .int .i64 l.length := by simpa using hf 6 (by simp)
  unfold qcRZ
  simp -implicitDefEqProofs only [s7, s8, bin_lss, ov_s, cd_b]
  refine ⟨fun hc => ?_, fun hc => ?_⟩
  · have hlt : i < j := by have : ((i : Int) < j) := by simpa using hc
                           omega
    obtain ⟨m, hm⟩ : ∃ m : Nat, m = (i + j) / 2 := ⟨_, rfl⟩
    have hm1 : i ≤ m ∧ m < j := by omega
    have w1 : IntKind.i64.wrap ((i : Int) + j) = (i + j : Nat) := by rw [wrap64_id (by omega) (by omega)]; omega
    have w2 : IntKind.u64.wrap ((i + j : Nat) : Int) = (i + j : Nat) := wrapU_id (by omega) (by omega)
    have w3 : binV .shr 2 true (.int .u64 ((i + j : Nat) : Int)) (.int .u64 1) = some (.int .u64 m) := by
      have : ((i + j : Nat) : Int).fdiv 2 = m := by rw [Int.fdiv_eq_ediv_of_nonneg _ (by omega)]; omega
      simp -implicitDefEqProofs [binV, intV, IntKind.bits]
      rw [← this]; rfl
    have w4 : IntKind.i64.wrap (m : Int) = m := wrap64_id (by omega) (by omega)
    have w5 : IntKind.i64.wrap ((m : Int) + 1) = m + 1 := wrap64_id (by omega) (by omega)
    obtain ⟨b, p, i1, i2⟩ := str_at x (k := .i64) (i := m) (by omega)
    unfold qcQZ
    simp -implicitDefEqProofs only [s0, s1, s7, s8, bin_add, ov_s, w1, cvV_i, w2, w3, w4, i1, ldV_c, i2 _ (Ext.refl _)]
    refine cmpLess_ok _ _ ?_
    unfold qcPZ qcNZ qcOZ
    cases hlm : ltS l[m] u with
    | true =>
      simp -implicitDefEqProofs [w5, s0, s1, s6, s7, s8]
      refine ⟨⟨m + 1, j, by omega, by omega, by simp, rfl, fun k hk hkm => ?_, hhi⟩, by omega⟩
      by_cases e : k = m
      · subst e; exact hlm
      · exact ltS_trans (so.at (show k < m by omega) (by omega)) hlm
    | false =>
      simp -implicitDefEqProofs [s0, s1, s6, s7, s8]
      refine ⟨⟨i, m, by omega, by omega, rfl, rfl, hlo, fun k hk hkm => ?_⟩, by omega⟩
      by_cases e : k = m
      · subst e; exact hlm
      · cases hh : ltS l[k] u with
        | false => rfl
        | true => rw [ltS_trans (so.at (show m < k by omega) hk) hh] at hlm; cases hlm
  · have : i = j := by have : ¬ ((i : Int) < j) := by simpa using hc
                       omega
    subst this
    have hp : pos l u = i := pos_of u hj (fun k hk hki => hlo k hk hki) (fun hk => hhi i hk (by omega))
    have hany : (l.any fun k => decide (k = u)) = true ↔ u ∈ l := by simp
    have hmem := mem_pos so u
    rw [hp] at hk
    simp -implicitDefEqProofs only [lpM_e, blkM_e, if_true, thenM_n]
    unfold qcTZ
    by_cases hil : i < l.length
    · obtain ⟨b, p, i1, i2⟩ := str_at x (k := .i64) (i := i) hil
      have hil' : (i : Int) < l.length := by omega
      by_cases heq : l[i] = u
      · have : (l.any fun k => decide (k = u)) = true := hany.2 (heq ▸ List.getElem_mem hil)
        simp -implicitDefEqProofs [s0, s1, s6, s7, s8, hil', hil, i1, i2 _ (Ext.refl _), heq]
        rw [this] at hk; exact hk
      · have : (l.any fun k => decide (k = u)) = false := by
          cases hh : (l.any fun k => decide (k = u)) with
          | false => rfl
          | true => obtain ⟨h3, h4⟩ := hmem.1 (hany.1 hh); simp only [hp] at h4; exact absurd h4 heq
        simp -implicitDefEqProofs [s0, s1, s6, s7, s8, hil', hil, i1, i2 _ (Ext.refl _), heq]
        refine sisNaN_ok _ ?_
        rw [this] at hk; exact hk
    · have hil' : ¬ ((i : Int) < l.length) := by omega
      have : (l.any fun k => decide (k = u)) = false := by
        cases hh : (l.any fun k => decide (k = u)) with
        | false => rfl
        | true => obtain ⟨h3, h4⟩ := hmem.1 (hany.1 hh); rw [hp] at h3; exact absurd h3 hil
      simp -implicitDefEqProofs [s0, s1, s6, s7, s8, hil', hil]
      rw [this] at hk; exact hk
theorem zcEnt:zc P qrZ=some #[.slice none 0 0,.int .i64 0,.int .i64 0,.int .i64 0]:=by kernel_rfl
theorem find_ok (l:List ByteArray)(so:SrtK l)(u:ByteArray){h:Heap}{kw vw:Value}(ov_:vw.cells=#[vw])(x:Sl 1 StrR h kw l)(hl:l.length<1000000)(hk:∀ h',Ext h h'→K (.tuple #[.int .i64 (pos l u),.bool (l.any fun k=>decide (k=u))]) h') :
  callM P qGZ #[.agg #[kw,vw],.string u] h K:=by
 apply qjUZ
 unfold qbiZ
 refine nw_agg fun v1 h1 n1 e1 c1=>?_
 simp -implicitDefEqProofs[ld_at c1,cel_of c1,stm_at c1,stm_upd,ld_same,cel_same,over]
 refine bs_ok l so u (x.ext (@StrR.ext) e1) hl ?_
 simp -implicitDefEqProofs
 exact hk _ e1
theorem get_ok (b:Book)(so:SrtK (keysB b))(u:ByteArray){F h:Heap}(eF:Ext F h){kw vw:Value}(x:BookR F kw vw b)(hl:b.length<1000000)
  (hk:∀ h' sv,Ext h h'→Sl 4 SessR F sv (entOf b u).ss→Sn sv→K (.tuple #[.agg (sv::presC (entOf b u).told).toArray,.bool (hasB b u)]) h'):callM P qHZ #[.agg #[kw,vw],.string u] h K:=by
 apply qkmZ
 unfold qbwZ
 rw[zcEnt]
 refine nw_agg fun v1 h1 n1 e1 c1=>?_
 refine nw_intro fun v3 h3 n3 e3 c3=>?_
 refine nw_intro fun v5 h5 n5 e5 c5=>?_
 have c1:=e5 _ _ (e3 _ _ c1)
 have ne35:=ne_fresh c3 n5
 have c3:=e5 _ _ c3
 have e0:=(e1.trans e3).trans e5
 have n3:=fresh_of e1 n3
 simp -implicitDefEqProofs[ld_at c1,cel_of c1,stm_at c1,stm_upd,ld_same,cel_same,over]
 refine find_ok (keysB b) so u x.2.1.one.2 (x.1.ext (@StrR.ext) (eF.trans e0)) (by simpa [keysB] using hl) fun h6 e6=>?_
 have c1:=e6 _ _ c1
 have c3:=e6 _ _ c3
 have c5:=e6 _ _ c5
 have e0:=e0.trans e6
 unfold qdPZ
 simp -implicitDefEqProofs only[exV_0,exV_1,ov_s,unV_n,cd_b]
 refine⟨fun hn=>?_,fun hy=>?_⟩
 ·have hno:u ∉ keysB b:=fun hh=>by
   have:=hasB_iff.2 hh
   unfold hasB at this
   rw[this] at hn; cases hn
  unfold qdNZ
  simp -implicitDefEqProofs[ld_at c3,cel_of c3,stm_at c3,ld_at c5,cel_of c5,stm_at c5,stm_upd,ld_same,cel_same,over]
  have he:=entOf_none hno
  refine kv (hk _ (.slice none 0 0) (ext_upd n3 e0) (by rw[he]; exact .inl ⟨rfl,_,_,rfl⟩) Sn.nil) ?_
  have:hasB b u=false:=by
   cases hh:hasB b u with
   | false=>rfl
   | true=>exact absurd (hasB_iff.1 hh) hno
  rw[he,this]; rfl
 ·have hyes:hasB b u=true:=by
   unfold hasB
   simpa using hy
  obtain⟨h1,h2⟩:=(mem_pos so u).1 (hasB_iff.1 hyes)
  have hlen:(keysB b).length=b.length:=by simp[keysB]
  have hp:pos (keysB b) u<b.length:=by omega
  have hu:b[pos (keysB b) u].1=u:=by simpa [keysB] using h2
  have he:entOf b u=b[pos (keysB b) u].2:=by
   have:=entOf_mem so hp
   rw[hu] at this; exact this
  obtain⟨eb,eo,c,i1,i2,sv,i3,i4,i5⟩:=x.2.1.at (k:=.i64) (i:=pos (keysB b) u) (by omega) (by simpa using hp)
  simp -implicitDefEqProofs only[Int.toNat_natCast,List.getElem_map] at i3 i4
  have i2:=cels_ext (eF.trans e0) i2
  rw[← he] at i3 i4
  subst i3
  unfold qdOZ
  simp -implicitDefEqProofs only[presC] at i2
  simp -implicitDefEqProofs[ld_at c1,cel_of c1,stm_at c1,ld_at c3,cel_of c3,stm_at c3,stm_upd,ld_same,cel_same,over,i1,ldV_n i2,i4.one.1,i4.one.2]
  refine kv (hk _ sv (ext_upd n3 e0) i4 i5) ?_
  rw[hyes]; rfl
theorem presence_ok (b:Book)(so:SrtK (keysB b))(u:ByteArray)(now:Int){F h:Heap}(eF:Ext F h){kw vw:Value}(x:BookR F kw vw b)(hl:b.length<1000000)(hs:(entOf b u).ss.length<1000000)
  (hk:∀ h',Ext h h'→K (.agg (presC (presB b u now)).toArray) h'):callM P qgpZ #[.agg #[kw,vw],.string u,.int .u64 now] h K:=by
 apply quGZ
 unfold qmcZ
 rw[zcPres]
 refine nw_agg fun v1 h1 n1 e1 c1=>?_
 refine nw_intro fun v3 h3 n3 e3 c3=>?_
 have c1:=e3 _ _ c1
 have e0:=e1.trans e3
 have n3:=fresh_of e1 n3
 simp -implicitDefEqProofs[ld_at c1,cel_of c1,stm_at c1,stm_upd,ld_same,cel_same,over]
 refine get_ok b so u (eF.trans e0) x hl fun h5 sv e5 hsv _=>?_
 have c3:=e5 _ _ c3
 have e0:=e0.trans e5
 unfold qpGZ
 simp -implicitDefEqProofs only[exV_0,exV_1,ov_s,zcEnt]
 refine nw_intro fun v10 h6 n6 e6 c6=>?_
 have ne:=ne_fresh c3 n6
 have c3:=e6 _ _ c3
 have e1':=e0.trans e6
 have n10:=fresh_of e0 n6
 have os:=hsv.one
 simp -implicitDefEqProofs[ld_at c6,cel_of c6,stm_at c6,stm_upd,ld_same,cel_same,over,presC,os.1,os.2]
 refine aggOf_ok _ now (hsv.ext (R:=SessR) (@SessR.ext) (eF.trans (ext_upd n10 e1'))) hs fun h7 e7=>?_
 have c3:=e7 _ _ (by rw[upd_ne ne]; exact c3)
 simp -implicitDefEqProofs[ld_at c3,cel_of c3,stm_at c3,stm_upd,ld_same,cel_same,over,presC]
 exact kv (hk _ (ext_upd n3 ((ext_upd n10 e1').trans e7))) rfl
end Go.Proofs.YtcnphhhcknhhaaaGreat
namespace Go.Proofs.YtcnphhhcknhhaaaGreat
open Go Go.Den Go.MapKept
set_option linter.unusedSimpArgs false
set_option linter.unusedVariables false
set_option maxRecDepth 20000
theorem bsStr:bsI P qiZ=some (qaHZ,1,#[.string ⟨#[]⟩]):=by kernel_rfl
theorem unSlStr:P.underlying qiZ=some (.slice qaHZ):=by kernel_rfl
theorem apStr:apC P qaHZ=some (1,16,1):=by kernel_rfl
def strC1 (s:ByteArray):List Value:=[.string s]
def StrE (_:Heap)(c:List Value)(s:ByteArray):Prop:=c=strC1 s
theorem strE_of {h:Heap}{v:Value}{l:List ByteArray}(x:Sl 1 StrR h v l):Sl 1 StrE h v l:=by
 rcases x with h1 | ⟨b,o,cap,rfl,h1,h2,h3⟩
 ·exact .inl h1
 ·exact .inr ⟨b,o,cap,rfl,h1,h2,fun i hi=>let ⟨c,h4,h5⟩:=h3 i hi; ⟨c,h4,h5.1⟩⟩
theorem strR_of {h:Heap}{v:Value}{l:List ByteArray}(x:Sl 1 StrE h v l)(hs:∀ s∈l,s.size≤maxLen):Sl 1 StrR h v l:=by
 rcases x with h1 | ⟨b,o,cap,rfl,h1,h2,h3⟩
 ·exact .inl h1
 ·exact .inr ⟨b,o,cap,rfl,h1,h2,fun i hi=>let ⟨c,h4,h5⟩:=h3 i hi; ⟨c,h4,h5,hs _ (List.getElem_mem _)⟩⟩
theorem str_sizes {h:Heap}{v:Value}{l:List ByteArray}(x:Sl 1 StrR h v l):∀ s∈l,s.size≤maxLen:=by
 intro s hs
 obtain⟨i,hi,rfl⟩:=List.getElem_of_mem hs
 obtain⟨b,o,c,_,_,h3⟩:=x.at (k:=.i64) (i:=i) (by omega) (by omega)
 exact h3.2
variable {K:KTy}
theorem users_ok (x:OpD)(xw:OpW x){T:Tags}{h:Heap}(w:Wf T h){v:Value}(hv:Sl 1 StrR h v x.users)(hl:x.users.length<1000000)
  (hk:∀ v' h',Ext h h'→Sl 1 StrR (fz T h') v' (usersOf x)→K v' h'):callM P qiOZ #[.agg (opC x v).toArray] h K:=by
 apply quOZ
 unfold qpoZ
 refine nw_agg fun v1 h1 n1 e1 c1=>?_
 simp -implicitDefEqProofs only[opC] at c1
 by_cases k4:x.kind=4
 ·simp -implicitDefEqProofs[ld_at c1,cel_of c1,stm_at c1,stm_upd,ld_same,cel_same,over,k4]
  refine bs_one bsStr rfl (by omega) fun b h2 n2 e2 c2=>?_
  refine hk _ h2 (e1.trans e2) ?_
  rw[usersOf,if_pos k4]
  refine .inr ⟨b,0,1,rfl,by simp,by unfold maxLen; omega,fun i hi=>⟨[.string x.user],?_,?_⟩⟩
  ·have:i=0:=by simpa using hi
   subst this
   have:=cels_of (fz_new w (fresh_of e1 n2) c2) (n:=1) (o:=0) (l:=[.string x.user]) (by simp) rfl
   simpa using this
  ·have:i=0:=by simpa using hi
   subst this
   exact⟨rfl,xw.s1⟩
 ·by_cases k5:x.kind=5
  ·unfold qlwZ qqlZ
   simp -implicitDefEqProofs[ld_at c1,cel_of c1,stm_at c1,stm_upd,ld_same,cel_same,over,k5]
   refine bs_none bsStr fun v2 h2 e2 r2 _ f2=>?_
   have c1:=e2 _ _ c1
   simp -implicitDefEqProofs[ld_at c1,cel_of c1,stm_at c1,stm_upd,ld_same,cel_same,over]
   refine copy_intro (enc:=strC1) (R:=StrE) unSlStr apStr (by omega) w (e1.trans e2) r2 (fun g hg=>fresh_of e1 (f2 g hg)) id (fun _ _=>rfl) (fun _=>rfl) (strE_of (hv.ext (@StrR.ext) (e1.trans e2))) (by simp[strC1]) (by unfold maxLen; omega) (by omega) fun v3 h3 e3 x3=>?_
   refine hk v3 h3 e3 ?_
   rw[usersOf,if_neg k4,if_pos k5]
   exact strR_of x3 (str_sizes hv)
  ·unfold qlwZ
   simp -implicitDefEqProofs[ld_at c1,cel_of c1,stm_at c1,stm_upd,ld_same,cel_same,over,k4,k5]
   refine hk _ _ e1 ?_
   rw[usersOf,if_neg k4,if_neg k5]
   exact .inl ⟨rfl,_,_,rfl⟩
theorem all_succ {α:Type}{p:α→Bool}{l:List α}{i:Nat}(h:i<l.length)(ha:(l.take i).all p=true)(hn:p l[i]=true):(l.take (i+1)).all p=true:=by
 rw[List.take_succ_eq_append_getElem h,List.all_append,ha]; simp[hn]
set_option maxHeartbeats 1000000 in
theorem modBad_ok (x : OpD) (xw : OpW x) {h : Heap} {v : Value} (hv : Sl 1 StrR h v x.users) (hl : x.users.length < 1000000)
    (hk : ∀ h', Ext h h' → K (.bool (badB x)) h') : callM P qigZ #[.agg (opC x v).toArray] h K := by
  apply qvgZ
  unfold qqHZ
  refine nw_agg fun v1 h1 n1 e1 c1 => ?_
  simp -implicitDefEqProofs only [opC] at c1
  have hk1 := hk h1 e1
  rw [seqM_eq]
  unfold qsjZ
  by_cases k1 : x.kind = 1
  · unfold qsdZ
    simp -implicitDefEqProofs [ld_at c1, cel_of c1, stm_at c1, stm_upd, ld_same, cel_same, over, k1]
    refine hashRight_ok _ ?_
    unfold qscZ
    simp +contextual -implicitDefEqProofs [ld_at c1, cel_of c1, stm_at c1, stm_upd, ld_same, cel_same, over]
    refine gM_call0 (a := .bool (decide (0 ≤ x.id ∧ x.id ≤ 255 ∧ 1 ≤ x.status ∧ x.status ≤ 9 ∧ 0 ≤ x.prio ∧ x.prio ≤ 9))) (fun hc K' hk' => sessRight_ok _ _ _ hk') ?_
    simp +contextual -implicitDefEqProofs
    refine kb hk1 ?_
    rw [badB, if_pos k1]
    cases nameB x.user <;> simp
  unfold qsiZ
  simp -implicitDefEqProofs [ld_at c1, cel_of c1, stm_at c1, stm_upd, ld_same, cel_same, over, k1]
  rw [seqM_eq]
  unfold qsfZ qseZ
  by_cases k2 : x.kind = 2 ∨ x.kind = 3
  · have hb : badB x = !(nameB x.user && decide (0 ≤ x.id ∧ x.id ≤ 255)) := by rw [badB, if_neg k1, if_pos k2]
    rw [hb] at hk1
    unfold qpnZ qshZ
    rcases k2 with k2 | k2
    all_goals
      simp -implicitDefEqProofs [ld_at c1, cel_of c1, stm_at c1, stm_upd, ld_same, cel_same, over, k2]
      refine hashRight_ok _ ?_
      unfold qsgZ
      simp +contextual -implicitDefEqProofs [ld_at c1, cel_of c1, stm_at c1, stm_upd, ld_same, cel_same, over]
      refine gM_call0 (a := .bool (decide (0 ≤ x.id ∧ x.id ≤ 255))) (fun hc K' hk' => within_ok _ _ _ hk') ?_
      simp +contextual -implicitDefEqProofs
      refine kb hk1 ?_
      cases nameB x.user <;> simp
  have k2' : ¬ x.kind = 2 := fun h => k2 (.inl h)
  have k3' : ¬ x.kind = 3 := fun h => k2 (.inr h)
  unfold qpnZ qrkZ
  simp -implicitDefEqProofs [k2', k3']
  rw [seqM_eq]
  unfold qqXZ qqWZ qqVZ
  by_cases k4 : x.kind = 4 ∨ x.kind = 6 ∨ x.kind = 7
  · have hb : badB x = !nameB x.user := by rw [badB, if_neg k1, if_neg k2, if_pos k4]
    rw [hb] at hk1
    unfold qofZ qqYZ
    rcases k4 with k4 | k4 | k4
    all_goals
      simp -implicitDefEqProofs [ld_at c1, cel_of c1, stm_at c1, stm_upd, ld_same, cel_same, over, k4]
      refine hashRight_ok _ ?_
      simp -implicitDefEqProofs
      exact hk1
  have k4' : ¬ x.kind = 4 := fun h => k4 (.inl h)
  have k6' : ¬ x.kind = 6 := fun h => k4 (.inr (.inl h))
  have k7' : ¬ x.kind = 7 := fun h => k4 (.inr (.inr h))
  unfold qofZ qrjZ
  simp -implicitDefEqProofs [k4', k6', k7']
  by_cases k5 : x.kind = 5
  · have hb : badB x = !(decide (1 ≤ x.users.length ∧ x.users.length ≤ 8) && x.users.all nameB) := by rw [badB, if_neg k1, if_neg k2, if_neg k4, if_pos k5]
    have hlen := hv.len
    have hk' : ∀ h', Ext h1 h' → K (.bool (!(decide (1 ≤ x.users.length ∧ x.users.length ≤ 8) && x.users.all nameB))) h' := fun h' e => by rw [← hb]; exact hk h' (e1.trans e)
    unfold qrfZ
    simp -implicitDefEqProofs [k5]
    rw [seqM_eq]
    unfold qrdZ
    simp -implicitDefEqProofs [ld_at c1, cel_of c1, stm_at c1, stm_upd, ld_same, cel_same, over, hlen]
    refine loop_on [1, 47, 48] (fun s h' => h' = h1 ∧ ∃ i : Nat, i ≤ x.users.length ∧ s 49 = .int .i64 i ∧ (x.users.take i).all nameB = true) (fun s _ => (x.users.length - num (s 49)).toNat) ⟨rfl, 0, by omega, by simp, by simp⟩ ?_
    rintro s h2 hf ⟨rfl, i, hi, s49, hall⟩
    have s1 : s 1 = ptr v1 := by simpa using hf 1 (by simp)
    have s47 : s 47 = v := by simpa using hf 47 (by simp)
    have s48 : s 48 = .int .i64 x.users.length := by simpa using hf 48 (by simp)
    unfold qrcZ
    simp -implicitDefEqProofs only [s48, s49, bin_lss, ov_s, cd_b]
    refine ⟨fun hc => ?_, fun hc => ?_⟩
    · have hlt : i < x.users.length := by have : ((i : Int) < x.users.length) := by simpa using hc
                                          omega
      obtain ⟨b, o, i1, i2⟩ := str_at hv (k := .i64) hlt
      have hw : IntKind.i64.wrap ((i : Int) + 1) = i + 1 := wrap64_id (by omega) (by omega)
      unfold qrbZ
      simp -implicitDefEqProofs only [s47, s49, i1, ov_s, ldV_c, i2 _ e1]
      refine hashRight_ok _ ?_
      unfold qraZ qqZZ
      cases hn : nameB x.users[i] with
      | true =>
        simp -implicitDefEqProofs [s49, hw, s1, s47, s48]
        refine ⟨⟨i + 1, by omega, by simp, ?_⟩, by omega⟩
        simpa using all_succ hlt hall hn
      | false =>
        simp -implicitDefEqProofs
        refine kb (hk' _ (Ext.refl _)) ?_
        have : x.users.all nameB = false := by rw [List.all_eq_false]; exact ⟨_, List.getElem_mem hlt, by simp [hn]⟩
        simp -implicitDefEqProofs [this]
    · have : i = x.users.length := by have : ¬ ((i : Int) < x.users.length) := by simpa using hc
                                      omega
      subst this
      rw [List.take_length] at hall
      unfold qreZ
      simp -implicitDefEqProofs [s1, ld_at c1, cel_of c1, stm_at c1, stm_upd, ld_same, cel_same, over, hlen]
      refine within_ok _ _ _ ?_
      simp -implicitDefEqProofs
      refine kb (hk' _ (Ext.refl _)) ?_
      have e : decide (1 ≤ x.users.length ∧ x.users.length ≤ 8) = decide ((1 : Int) ≤ x.users.length ∧ (x.users.length : Int) ≤ 8) := decide_eq_decide.2 (by omega)
      rw [hall, e]; simp
  · have hb : badB x = !decide (x.kind = 8 ∨ x.kind = 9) := by rw [badB, if_neg k1, if_neg k2, if_neg k4, if_neg k5]
    rw [hb] at hk1
    unfold qriZ
    simp -implicitDefEqProofs [k5]
    rw [seqM_eq]
    unfold qrhZ qrgZ
    by_cases k8 : x.kind = 8
    · simp -implicitDefEqProofs [ld_at c1, cel_of c1, stm_at c1, stm_upd, ld_same, cel_same, over, k8]
      exact kb hk1 (by simp [k8])
    · by_cases k9 : x.kind = 9
      · simp -implicitDefEqProofs [ld_at c1, cel_of c1, stm_at c1, stm_upd, ld_same, cel_same, over, k9]
        exact kb hk1 (by simp [k9])
      · simp -implicitDefEqProofs [ld_at c1, cel_of c1, stm_at c1, stm_upd, ld_same, cel_same, over, k1, k2', k3', k4', k5, k6', k7', k8, k9]
        exact kb hk1 (by simp [k8, k9])
set_option maxHeartbeats 1000000 in
theorem short_ok (x : OpD) {h : Heap} {v : Value} (hv : Sl 1 StrR h v x.users) (hk : ∀ h', Ext h h' → K (.bool (shortB x)) h') : callM P qdtZ #[.agg (opC x v).toArray] h K := by
  apply qrNZ
  unfold qguZ
  refine nw_agg fun v1 h1 n1 e1 c1 => ?_
  simp -implicitDefEqProofs only [opC] at c1
  have hlen := hv.len
  have hk1 := hk h1 e1
  by_cases h40 : x.user.size ≤ 40
  rotate_left
  · have : (40 : Int) < x.user.size := by omega
    simp -implicitDefEqProofs [ld_at c1, cel_of c1, stm_at c1, stm_upd, ld_same, cel_same, over, this]
    exact kb hk1 (by simp [shortB, h40])
  have h40' : ¬ (40 : Int) < x.user.size := by omega
  by_cases h20 : x.users.length ≤ 20
  rotate_left
  · have : (20 : Int) < x.users.length := by omega
    simp -implicitDefEqProofs [ld_at c1, cel_of c1, stm_at c1, stm_upd, ld_same, cel_same, over, h40', this, hlen]
    exact kb hk1 (by simp [shortB, h20])
  have h20' : ¬ (20 : Int) < x.users.length := by omega
  unfold qjAZ
  simp -implicitDefEqProofs [ld_at c1, cel_of c1, stm_at c1, stm_upd, ld_same, cel_same, over, h40', h20', hlen]
  rw [seqM_eq]
  unfold qjzZ
  refine loop_on [1] (fun s h' => h' = h1 ∧ ∃ i : Nat, i ≤ x.users.length ∧ s 3 = .int .i64 i ∧ (x.users.take i).all (fun s => decide (s.size ≤ 40)) = true) (fun s _ => (x.users.length - num (s 3)).toNat) ⟨rfl, 0, by omega, rfl, by simp⟩ ?_
  rintro s h2 hf ⟨rfl, i, hi, s3, hall⟩
  have s1 : s 1 = ptr v1 := by simpa using hf 1 (by simp)
  unfold qjyZ
  simp -implicitDefEqProofs only [s1, faV_p, ov_s, ldV_c, Nat.zero_add, cel_of c1, List.getElem?_toArray, List.getElem?_cons_succ, List.getElem?_cons_zero, hlen, s3, bin_lss, cd_b]
  refine ⟨fun hc => ?_, fun hc => ?_⟩
  · have hlt : i < x.users.length := by have : ((i : Int) < x.users.length) := by simpa using hc
                                        omega
    obtain ⟨b, o, i1, i2⟩ := str_at hv (k := .i64) hlt
    have hw : IntKind.i64.wrap ((i : Int) + 1) = i + 1 := wrap64_id (by omega) (by omega)
    unfold qjxZ qjvZ qjwZ
    by_cases hn : x.users[i].size ≤ 40
    · have hn' : ¬ (40 : Int) < x.users[i].size := by omega
      simp -implicitDefEqProofs [s1, s3, ld_at c1, cel_of c1, stm_at c1, stm_upd, ld_same, cel_same, over, i1, i2 _ e1, hn', hw]
      refine ⟨⟨i + 1, by omega, by simp, ?_⟩, by omega⟩
      simpa using all_succ (p := fun s : ByteArray => decide (s.size ≤ 40)) hlt hall (by simp [hn])
    · have hn' : (40 : Int) < x.users[i].size := by omega
      simp -implicitDefEqProofs [s1, s3, ld_at c1, cel_of c1, stm_at c1, stm_upd, ld_same, cel_same, over, i1, i2 _ e1, hn']
      refine kb hk1 ?_
      have : (x.users.all fun s => decide (s.size ≤ 40)) = false := by rw [List.all_eq_false]; exact ⟨_, List.getElem_mem hlt, by simp [hn]⟩
      simp -implicitDefEqProofs [shortB, this]
  · have : i = x.users.length := by have : ¬ ((i : Int) < x.users.length) := by simpa using hc
                                    omega
    subst this
    rw [List.take_length] at hall
    simp -implicitDefEqProofs
    refine kb hk1 ?_
    simp -implicitDefEqProofs [shortB, hall, h40, h20]
end Go.Proofs.YtcnphhhcknhhaaaGreat
namespace Go.Proofs.YtcnphhhcknhhaaaGreat
open Go Go.Den Go.MapKept
set_option linter.unusedSimpArgs false
set_option linter.unusedVariables false
set_option maxRecDepth 20000
theorem inS_s {users:List ByteArray}{n:Int}{i s:Nat}(h:i<users.length):inS (users.take (i+1)) n s=(inS (users.take i) n s || decide (stripeOf users[i] n=s)):=by
 unfold inS; rw[List.take_succ_eq_append_getElem h,List.any_append]; simp
def inC (users:List ByteArray)(n:Int):List Value:=(List.range 8).map fun s=>.bool (inS users n s)
theorem inC_len (users:List ByteArray)(n:Int):(inC users n).length=8:=by simp[inC]
theorem zc8:zc P ty_8_bool=some #[.bool false,.bool false,.bool false,.bool false,.bool false,.bool false,.bool false,.bool false]:=by kernel_rfl
theorem bsInt:bsI P qitZ=some (qpZ,1,#[.int .i64 0]):=by kernel_rfl
theorem unSlInt:P.underlying qitZ=some (.slice qpZ):=by kernel_rfl
theorem apInt:apC P qpZ=some (1,8,1):=by kernel_rfl
def NatR (_:Heap)(c:List Value)(n:Nat):Prop:=c=[.int .i64 n]
theorem NatR.ext {h h':Heap}{c:List Value}{x:Nat}(_:Ext h h')(r:NatR h c x):NatR h' c x:=r
def natC (n:Nat):List Value:=[.int .i64 n]
def ssTo (users:List ByteArray)(n:Int)(k:Nat):List Nat:=(List.range k).filter (inS users n)
theorem ssTo_s (users:List ByteArray)(n:Int)(k:Nat):ssTo users n (k+1)=ssTo users n k++if inS users n k then [k] else []:=by
 unfold ssTo
 rw[List.range_succ,List.filter_append]
 congr 1
 cases hh:inS users n k<;>simp[List.filter_cons,hh]
theorem ssTo_le (users:List ByteArray)(n:Int):∀ k,(ssTo users n k).length≤k
 | 0=>by simp[ssTo]
 | k+1=>by have:=ssTo_le users n k; rw[ssTo_s,List.length_append]; split<;>simp<;>omega
def StripesI (users:List ByteArray)(n:Int)(h:Heap)(v27 v9:Value)(h':Heap):Prop:=Ext h h'∧∃ k:Nat,k≤8∧v27 = .int .i64 k∧Row 1 qpZ h' v9 (ssTo users n k).length ((ssTo users n k).flatMap natC)∧∀ b,rowOf v9=some b→h b=none
variable {K:KTy}
theorem stripes_ok (users : List ByteArray) (n : Int) (hn : n ≤ 8) {T : Tags} {h : Heap} (w : Wf T h) {v : Value} (x : Sl 1 StrR h v users) (hl : users.length < 1000000)
    (hk : ∀ v' h', Ext h h' → Sl 1 NatR (fz T h') v' (stripesOf users n) → K v' h') : callM P qlpZ #[v, .int .i64 n] h K := by
  apply quLZ
  unfold qokZ
  rw [zc8]
  refine nw_intro fun p h1 n1 e1 c1 => ?_
  rw [seqM_eq]
  unfold qpYZ
  have hlen := x.len
  simp -implicitDefEqProofs [hlen]
  refine loop_on [1, 4, 5, 12, 13] (fun s h' => (∃ h0, Ext h h0 ∧ h0 p = none ∧ True) ∧ Keep (some p) h1 h' ∧ ∃ i : Nat, i ≤ users.length ∧ s 14 = .int .i64 i ∧ h' p = some (.cells (inC (users.take i) n).toArray ty_8_bool (0, 0))) (fun s _ => (users.length - num (s 14)).toNat) ⟨⟨h, Ext.refl _, n1, trivial⟩, fun _ _ e _ => e, 0, by omega, rfl, by rw [c1]; simp [inC, inS, List.range_succ]⟩ ?_
  rintro s h2 hf ⟨_, k2, i, hi, s14, hp⟩
  have s1 : s 1 = .int .i64 n := by simpa using hf 1 (by simp)
  have s4 : s 4 = .slice none 0 0 := by simpa using hf 4 (by simp)
  have s5 : s 5 = ptr p := by simpa using hf 5 (by simp)
  have s12 : s 12 = v := by simpa using hf 12 (by simp)
  have s13 : s 13 = .int .i64 users.length := by simpa using hf 13 (by simp)
  have e2 : Ext h h2 := e1.keep k2 (fun b e => by cases e; exact n1)
  unfold qpXZ
  simp -implicitDefEqProofs only [s13, s14, bin_lss, ov_s, cd_b]
  refine ⟨fun hc => ?_, fun hc => ?_⟩
  · have hlt : i < users.length := by have : ((i : Int) < users.length) := by simpa using hc
                                      omega
    obtain ⟨b, o, i1, i2⟩ := str_at x (k := .i64) hlt
    have hw : IntKind.i64.wrap ((i : Int) + 1) = i + 1 := wrap64_id (by omega) (by omega)
    have hsz := str_sizes x _ (List.getElem_mem hlt)
    unfold qpWZ
    rw [seqM_eq]
    unfold qpVZ
    simp -implicitDefEqProofs only [s12, s14, i1, ov_s, ldV_c, i2 _ e2, s1]
    refine stripe_ok _ _ (by omega) hsz ?_
    unfold qpUZ
    have hrng : 0 ≤ stripeOf users[i] n ∧ stripeOf users[i] n < 8 := by
      by_cases hn1 : 1 ≤ n
      · have := stripeOf_rng users[i] hn1; omega
      · unfold stripeOf; rw [if_pos (by omega)]; omega
    obtain ⟨q, hq⟩ : ∃ q : Nat, stripeOf users[i] n = q := ⟨(stripeOf users[i] n).toNat, by omega⟩
    rw [hq] at hrng ⊢
    simp -implicitDefEqProofs [hrng.2]
    unfold qpTZ
    have hq8 : q < 8 := by omega
    simp -implicitDefEqProofs [s5, ia_arr hq8, stm_at hp, inC_len, show q + 1 ≤ 8 by omega, s14, hw, s1, s4, s12, s13]
    refine ⟨⟨⟨h, Ext.refl _, n1⟩, k2.trans keep_upd, i + 1, by omega, by simp, ?_⟩, by omega⟩
    rw [upd_same']
    congr 2
    unfold inC
    rw [over_map1 hq8]
    congr 1
    apply List.map_congr_left
    intro k _
    rw [inS_s hlt, hq]
    by_cases hkq : k = q
    · subst hkq; simp
    · have : ¬ ((q : Int) = k) := by omega
      simp -implicitDefEqProofs [hkq, this]
  · have : i = users.length := by have : ¬ ((i : Int) < users.length) := by simpa using hc
                                  omega
    subst this
    rw [List.take_length] at hp
    simp -implicitDefEqProofs [s1, s4, s5, s12, s13]
    unfold qqbZ
    rw [seqM_eq]
    unfold qqaZ
    have hT : List.take 8 (inC users n) = inC users n := List.take_of_length_le (Nat.le_of_eq (inC_len users n))
    simp -implicitDefEqProofs [s5, ld_at hp, cel_of hp, stm_at hp, stm_upd, ld_same, cel_same, over, inC_len, hT]
    have hx : ∀ k : Nat, k < 8 → xaV (some (none, 8, 1)) (.agg (inC users n).toArray) (.int .i64 k) = some (.bool (inS users n k)) := fun k hk => by
      have : (0 : Int) ≤ k ∧ (k : Int) < 8 := by omega
      simp -implicitDefEqProofs [xaV, this, fdV, inC, hk]
    refine loop_on [26] (fun s h' => StripesI users n h (s 27) (s 9) h') (fun s _ => (8 - num (s 27)).toNat)
      ⟨e2, 0, by omega, by simp, ⟨by simp [ssTo], .inl ⟨by simp, by simp [ssTo]⟩⟩, fun b hb => by simp [rowOf] at hb⟩ ?_
    rintro t h3 hft ⟨e3, k, hk8, t27, r9, f9⟩
    have t26 : t 26 = .agg (inC users n).toArray := by simpa using hft 26 (by simp)
    unfold qpZZ
    simp -implicitDefEqProofs only [t27, bin_lss, ov_s, cd_b]
    refine ⟨fun hc2 => ?_, fun hc2 => ?_⟩
    · have hlt : k < 8 := by have : ((k : Int) < 8) := by simpa using hc2
                             omega
      have hw : IntKind.i64.wrap ((k : Int) + 1) = k + 1 := wrap64_id (by omega) (by omega)
      unfold qpCZ
      rw [seqM_eq]
      unfold qpBZ
      simp -implicitDefEqProofs only [t26, t27, hx k hlt, ov_s, cd_b]
      refine ⟨fun hi => ?_, fun hi => ?_⟩
      · unfold qpAZ
        rw [t27]
        have hle := ssTo_le users n k
        refine app_one bsInt unSlInt apInt (by omega) (by simp) (by simp) r9 (by unfold maxLen; omega) (by omega) (by omega) fun a v9' h4 r9' k4 ha => ?_
        unfold qpzZ
        simp -implicitDefEqProofs [t27, t26, hw]
        refine ⟨⟨e3.keep k4 f9, k + 1, by omega, by simp, ?_, fun b hb => ?_⟩, by omega⟩
        · rw [ssTo_s, hi]
          simpa [natC] using r9'
        · rcases ha with ha | ⟨j, ha, hj⟩
          · exact f9 b (by rw [← ha]; exact hb)
          · rw [ha] at hb; simp only [Option.some.injEq] at hb; subst hb; exact fresh_of e3 hj
      · simp -implicitDefEqProofs [t27, t26, hw]
        refine ⟨⟨e3, k + 1, by omega, by simp, ?_, f9⟩, by omega⟩
        rw [ssTo_s, hi]
        simpa using r9
    · have : k = 8 := by have : ¬ ((k : Int) < 8) := by simpa using hc2
                         omega
      subst this
      simp -implicitDefEqProofs
      have := r9.fz w f9
      exact hk _ h3 e3 (Row.slE (enc := natC) (R := NatR) (fun _ => rfl) (fun _ => rfl) this)
end Go.Proofs.YtcnphhhcknhhaaaGreat
namespace Go.Den
open Go
set_option linter.unusedVariables false
set_option linter.unusedSimpArgs false
theorem RP.next_lt {p:RP}{ph:Int}(h:p.at_+1<p.k):p.next ph={ p with at_:=p.at_+1 }:=if_pos h
theorem RP.next_ge {p:RP}{ph:Int}(h:¬ p.at_+1<p.k):p.next ph={ p with ph:=ph,at_:=0 }:=if_neg h
structure TrB (c:Cfg)(ss:List Nat)(us:List ByteArray)(p:RP)(H:Hall):Prop where
 ss:p.ss=ss
 err:p.err=0
 ep:∀ j,p.ep j=0
 hc:H.c=c
 cl:H.t.closed=false
 v0:∀ s,(H.ss s).v=0
 us:p.users=us
 va:p.vals=[]
def E0 (c:Cfg):Bool:=decide (evn c.epochs≤0)
inductive Tr (c:Cfg) (ss:List Nat) (us:List ByteArray) (n:Nat) (p:RP) (H:Hall):Prop
 | a (b:TrB c ss us p H) (w:∀ s,(H.ss s).who=0) (h:n<ss.length) (ph:p.ph=0) (at_:p.at_=n) (va:p.valid=true) (sp:p.spent=(decide (0<n) && E0 c))
 | b (b:TrB c ss us p H) (w:∀ s,(H.ss s).who=0) (h:ss.length≤n∧n<2*ss.length) (ph:p.ph=1) (at_:p.at_=n-ss.length) (va:p.valid=true) (sp:p.spent=E0 c)
 | c (b:TrB c ss us p H) (w:∀ s,(H.ss s).who=0) (h:n=2*ss.length) (ph:p.ph=2) (at_:p.at_=0) (va:p.valid=true) (sp:p.spent=E0 c)
 | d (b:TrB c ss us p H) (w:∀ s,(H.ss s).who=0) (h:2*ss.length<n∧n≤3*ss.length) (ph:p.ph=3) (at_:p.at_=n-2*ss.length-1) (va:p.valid=(decide (n=2*ss.length+1) || !E0 c)) (sp:p.spent=E0 c) (tc:p.t.closed=false) (lo:p.looked=(2*ss.length:Nat))
 | e (h:n=3*ss.length+1) (he:E0 c=false) (ph:p.ph=8) (pl:p.placed=(2*ss.length:Nat)) (er:p.err=0) (vl:p.vals.length=us.length)
 | f (b:TrB c ss us p H) (w:∀ j,p.at_≤j→j<ss.length→(H.ss (ss.getD j 0)).who=0) (h:3*ss.length+1≤n∧n<4*ss.length+1) (he:E0 c=true) (ph:p.ph=4) (at_:p.at_=n-3*ss.length-1)
 | g (b:TrB c ss us p H) (h:n=4*ss.length+1) (he:E0 c=true) (ph:p.ph=5) (at_:p.at_=0)
 | i (b:TrB c ss us p H) (h:4*ss.length+2≤n∧n<5*ss.length+2) (he:E0 c=true) (ph:p.ph=6) (at_:p.at_=n-4*ss.length-2) (tc:p.t.closed=false) (lo:p.looked=(4*ss.length+1:Nat)) (pl:p.placed=(4*ss.length+1:Nat))
 | j (b:TrB c ss us p H) (h:5*ss.length+2≤n∧n<6*ss.length+2) (he:E0 c=true) (ph:p.ph=7) (at_:p.at_=n-5*ss.length-2) (tc:p.t.closed=false) (lo:p.looked=(4*ss.length+1:Nat)) (pl:p.placed=(4*ss.length+1:Nat))
 | k (h:n=6*ss.length+2) (he:E0 c=true) (ph:p.ph=8) (pl:p.placed=(4*ss.length+1:Nat)) (er:p.err=0)
def Nof (c:Cfg)(ss:List Nat):Nat:=if E0 c then 6*ss.length+2 else 3*ss.length+1
theorem Tr.ph8 {c:Cfg}{ss:List Nat}{us:List ByteArray}{n:Nat}{p:RP}{H:Hall}(t:Tr c ss us n p H)(hk:0<ss.length):(p.ph=8↔n=Nof c ss)∧n≤Nof c ss:=by
 unfold Nof
 cases t with
 | a b w h ph at_ va sp=>cases hE:E0 c<;>simp[ph]<;>omega
 | b b w h ph at_ va sp=>cases hE:E0 c<;>simp[ph]<;>omega
 | c b w h ph at_ va sp=>cases hE:E0 c<;>simp[ph]<;>omega
 | d b w h ph at_ va sp tc lo=>cases hE:E0 c<;>simp[ph]<;>omega
 | e h he ph pl er vl=>simp[ph,he]; omega
 | f b w h he ph at_=>simp[ph,he]; omega
 | g b h he ph at_=>simp[ph,he]; omega
 | i b h he ph at_ tc lo pl=>simp[ph,he]; omega
 | j b h he ph at_ tc lo pl=>simp[ph,he]; omega
 | k h he ph pl er=>simp[ph,he]; omega
theorem TrB.lock {c:Cfg}{ss:List Nat}{us:List ByteArray}{p p':RP}{H:Hall}(b:TrB c ss us p H)(who:Int)(s:Nat)(h1:p'.ss=p.ss)(h2:p'.err=p.err)(h3:p'.ep=p.ep)(h4:p'.users=p.users)(h5:p'.vals=p.vals):TrB c ss us p' (H.lock who s):=by
 refine⟨h1.trans b.ss,h2.trans b.err,fun j=>by rw[h3]; exact b.ep j,?_,?_,fun t=>?_,h4.trans b.us,h5.trans b.va⟩
 ·unfold Hall.lock; split<;>exact b.hc
 ·unfold Hall.lock; split<;>exact b.cl
 ·unfold Hall.lock; split
  ·simp only[Hall.put,sput,Hall.did]; split
   ·rename_i h; exact b.v0 s
   ·exact b.v0 t
  ·exact b.v0 t
theorem TrB.unlock {c:Cfg}{ss:List Nat}{us:List ByteArray}{p p':RP}{H:Hall}(b:TrB c ss us p H)(who:Int)(s:Nat)(h1:p'.ss=p.ss)(h2:p'.err=p.err)(h3:p'.ep=p.ep)(h4:p'.users=p.users)(h5:p'.vals=p.vals):TrB c ss us p' (H.unlock who s):=by
 refine⟨h1.trans b.ss,h2.trans b.err,fun j=>by rw[h3]; exact b.ep j,?_,?_,fun t=>?_,h4.trans b.us,h5.trans b.va⟩
 ·unfold Hall.unlock; split<;>exact b.hc
 ·unfold Hall.unlock; split<;>exact b.cl
 ·unfold Hall.unlock; split
  ·simp only[Hall.put,sput,Hall.did]; split
   ·rename_i h; exact b.v0 s
   ·exact b.v0 t
  ·exact b.v0 t
theorem lock_who {H:Hall}{who:Int}{s t:Nat}(h:t≠s):((H.lock who s).ss t).who=(H.ss t).who:=by
 unfold Hall.lock; split
 ·simp[Hall.put,sput,Hall.did,h]
 ·rfl
theorem Tr.next {c:Cfg}{ss:List Nat}{us:List ByteArray}{n:Nat}{p:RP}{H:Hall}(t:Tr c ss us n p H)(hk:0<ss.length)(nd:ss.Nodup)(hn:n<Nof c ss)(h0:0≤c.epochs):Tr c ss us (n+1) (p.step H n).1 (p.step H n).2:=by
 have hne:ss≠[]:=fun h=>by rw[h] at hk; simp at hk
 have hstep:∀ (b:TrB c ss us p H),p.enabled H=true→p.step H n=p.go H n:=fun b he=>by simp[RP.step,he,b.ss,hne]
 have hep:validB 0 0 c.epochs=!E0 c:=by
  have:(decide (0<evn c.epochs))=!E0 c:=by
   unfold E0; rw[← decide_not]; exact decide_eq_decide.2 (by omega)
  simp[validB,this]
 have did:∀ (b:TrB c ss us p H) (p':RP) (who kind pl:Int),p'.ss=p.ss→p'.err=p.err→(∀ j,p'.ep j=0)→p'.users=p.users→p'.vals=p.vals→TrB c ss us p' (H.did who kind pl):=fun b p' who kind pl h1 h2 h3 h4 h5=>⟨h1.trans b.ss,h2.trans b.err,h3,b.hc,b.cl,b.v0,h4.trans b.us,h5.trans b.va⟩
 cases t with
 | a b w h ph at_ va sp =>
  rw[hstep b (by simp[RP.enabled,ph])]
  have hk':p.k=ss.length:=by simp[RP.k,b.ss]
  have hsp:(p.spent || decide (evn H.c.epochs≤(H.ss p.s).v))=E0 c:=by
   rw[b.hc,b.v0,sp]
   show ((decide (0<n) && E0 c) || E0 c)=E0 c
   cases E0 c<;>simp
  have hgo:p.go H n=(RP.next { p with ep:=epset p.ep p.at_ (H.ss p.s).v,spent:=p.spent || decide (evn H.c.epochs≤(H.ss p.s).v) } 1,H.epoch p.who p.s):=by simp[RP.go,ph]
  rw[hgo,hsp,b.v0]
  have he:∀ j,epset p.ep p.at_ 0 j=0:=fun j=>by unfold epset; split; rfl; exact b.ep j
  by_cases hl:n+1<ss.length
  ·have:RP.next { p with ep:=epset p.ep p.at_ 0,spent:=E0 c } 1={ p with ep:=epset p.ep p.at_ 0,spent:=E0 c,at_:=n+1 }:=by
    refine (RP.next_lt ?_).trans ?_
    ·show p.at_+1<p.k; omega
    ·simp[at_]
   rw[this]
   exact .a (did b _ _ _ _ rfl rfl he rfl rfl) w hl ph rfl va (by simp)
  ·have:RP.next { p with ep:=epset p.ep p.at_ 0,spent:=E0 c } 1={ p with ep:=epset p.ep p.at_ 0,spent:=E0 c,ph:=1,at_:=0 }:=by
    refine (RP.next_ge ?_).trans rfl
    show ¬ p.at_+1<p.k; omega
   rw[this]
   exact .b (did b _ _ _ _ rfl rfl he rfl rfl) w (by omega) rfl (by simp; omega) va rfl
 | b b w h ph at_ va sp =>
  rw[hstep b (by simp[RP.enabled,ph])]
  have hk':p.k=ss.length:=by simp[RP.k,b.ss]
  have hgo:p.go H n=(RP.next { p with seen:=seenset p.seen p.s (H.ss p.s).snap } 2,H.snap p.who p.s):=by simp[RP.go,ph]
  rw[hgo]
  by_cases hl:n+1<2*ss.length
  ·have:RP.next { p with seen:=seenset p.seen p.s (H.ss p.s).snap } 2={ p with seen:=seenset p.seen p.s (H.ss p.s).snap,at_:=p.at_+1 }:=by
    refine (RP.next_lt ?_).trans rfl
    show p.at_+1<p.k; omega
   rw[this]
   exact .b (did b _ _ _ _ rfl rfl b.ep rfl rfl) w (by omega) ph (by simp; omega) va sp
  ·have:RP.next { p with seen:=seenset p.seen p.s (H.ss p.s).snap } 2={ p with seen:=seenset p.seen p.s (H.ss p.s).snap,ph:=2,at_:=0 }:=by
    refine (RP.next_ge ?_).trans rfl
    show ¬ p.at_+1<p.k; omega
   rw[this]
   exact .c (did b _ _ _ _ rfl rfl b.ep rfl rfl) w (by omega) rfl rfl va sp
 | c b w h ph at_ va sp =>
  rw[hstep b (by simp[RP.enabled,ph])]
  have hgo:p.go H n=({ p with t:=H.t,looked:=n,ph:=3 },H.look p.who):=by simp[RP.go,ph]
  rw[hgo]
  exact .d (did b _ _ _ _ rfl rfl b.ep rfl rfl) w (by omega) rfl (by simp; omega) (by simp[va,h]) sp b.cl (by simp[h])
 | d b w h ph at_ va sp tc lo =>
  rw[hstep b (by simp[RP.enabled,ph])]
  have hk':p.k=ss.length:=by simp[RP.k,b.ss]
  obtain⟨q,hq⟩:∃ q:RP,q={ p with valid:=p.valid && validB (p.ep p.at_) (H.ss p.s).v H.c.epochs }:=⟨_,rfl⟩
  have hgo:p.go H n=(if q.last then (q.next 8).judge else q.next 8,H.epoch p.who p.s):=by simp[RP.go,ph,hq]
  have hqv:q.valid=!E0 c:=by
   rw[hq]
   show (p.valid && validB (p.ep p.at_) (H.ss p.s).v H.c.epochs)=!E0 c
   rw[b.ep,b.v0,b.hc,hep,va]
   cases E0 c<;>simp
  have q1:q.ss=p.ss∧q.err=p.err∧q.ep=p.ep∧q.at_=p.at_∧q.k=p.k∧q.t=p.t∧q.looked=p.looked∧q.spent=p.spent∧q.ph=p.ph∧q.users=p.users∧q.vals=p.vals:=by rw[hq]; exact⟨rfl,rfl,rfl,rfl,rfl,rfl,rfl,rfl,rfl,rfl,rfl⟩
  obtain⟨x1,x2,x3,x4,x5,x6,x7,x8,x9,x10,x11⟩:=q1
  rw[hgo]
  clear hgo hq
  by_cases hl:n+1≤3*ss.length
  ·have hlast:q.last=false:=by simp[RP.last,x4,x5,hk',at_]; omega
   rw[hlast]
   have:q.next 8={ q with at_:=q.at_+1 }:=RP.next_lt (by omega)
   simp only[Bool.false_eq_true,if_false,this]
   refine .d (did b _ _ _ _ x1 x2 (fun j=>by show q.ep j=0; rw[x3]; exact b.ep j) x10 x11) w (by omega) (x9.trans ph) (by show q.at_+1=_; omega) ?_ (x8.trans sp) (by show q.t.closed=false; rw[x6]; exact tc) (x7.trans lo)
   show q.valid=_
   rw[hqv]
   have h2:¬ n=2*ss.length:=by omega
   simp[h2]
  ·have hlast:q.last=true:=by simp[RP.last,x4,x5,hk',at_]; omega
   rw[hlast]
   have:q.next 8={ q with ph:=8,at_:=0 }:=RP.next_ge (by omega)
   simp only[if_true,this]
   cases hE:E0 c with
   | false =>
    have hj:RP.judge { q with ph:=8,at_:=0 }={ RP.answer { q with ph:=8,at_:=0 } with ph:=8 }:=by simp[RP.judge,hqv,hE]
    rw[hj]
    have ha:RP.answer { q with ph:=8,at_:=0 }={ q with ph:=8,at_:=0,placed:=q.looked,vals:=q.vals++q.users.map (RP.tell { q with ph:=8,at_:=0 }) }:=by simp[RP.answer,x6,tc]
    rw[ha]
    exact .e (by omega) hE rfl (x7.trans lo) (x2.trans b.err) (by simp[x11,b.va,x10,b.us])
   | true =>
    have hj:RP.judge { q with ph:=8,at_:=0 }={ q with ph:=4,at_:=0 }:=by simp[RP.judge,hqv,hE,x6,tc,x8,sp]
    rw[hj]
    exact .f (did b _ _ _ _ x1 x2 (fun j=>by show q.ep j=0; rw[x3]; exact b.ep j) x10 x11) (fun j _ _=>w _) (by omega) hE rfl (by simp; omega)
 | e h he ph pl er vl=>unfold Nof at hn; rw[he] at hn; simp at hn; omega
 | f b w h he ph at_ =>
  have hk':p.k=ss.length:=by simp[RP.k,b.ss]
  have hat:p.at_<ss.length:=by omega
  have hs:p.s=ss.getD p.at_ 0:=by simp[RP.s,b.ss]
  rw[hstep b (by simp[RP.enabled,ph,hs]; exact w _ (Nat.le_refl _) hat)]
  have hgo:p.go H n=(p.next 5,H.lock p.who p.s):=by simp[RP.go,ph]
  rw[hgo]
  by_cases hl:p.at_+1<ss.length
  ·have:p.next 5={ p with at_:=p.at_+1 }:=RP.next_lt (by omega)
   rw[this]
   refine .f (b.lock _ _ rfl rfl rfl rfl rfl) (fun j h1 h2=>?_) (by omega) he ph (by simp; omega)
   have h1':p.at_+1≤j:=h1
   rw[lock_who,w j (by omega) h2]
   rw[hs]
   intro e
   rw[List.getD_eq_getElem?_getD,List.getD_eq_getElem?_getD,List.getElem?_eq_getElem h2,List.getElem?_eq_getElem hat] at e
   exact List.pairwise_iff_getElem.1 nd p.at_ j hat h2 (by omega) (show ss[p.at_]=ss[j] from e.symm)
  ·have:p.next 5={ p with ph:=5,at_:=0 }:=RP.next_ge (by omega)
   rw[this]
   exact .g (b.lock _ _ rfl rfl rfl rfl rfl) (by omega) he rfl rfl
 | g b h he ph at_ =>
  rw[hstep b (by simp[RP.enabled,ph])]
  have hgo:p.go H n=({ p with t:=H.t,looked:=n,ph:=6,placed:=n },H.look p.who):=by simp[RP.go,ph]
  rw[hgo]
  exact .i (did b _ _ _ _ rfl rfl b.ep rfl rfl) (by omega) he rfl (by simp; omega) b.cl (by simp[h]) (by simp[h])
 | i b h he ph at_ tc lo pl =>
  rw[hstep b (by simp[RP.enabled,ph])]
  have hk':p.k=ss.length:=by simp[RP.k,b.ss]
  have hgo:p.go H n=(RP.next { p with seen:=seenset p.seen p.s (H.ss p.s).book } 7,H.read p.who p.s):=by simp[RP.go,ph]
  rw[hgo]
  by_cases hl:p.at_+1<ss.length
  ·have:RP.next { p with seen:=seenset p.seen p.s (H.ss p.s).book } 7={ p with seen:=seenset p.seen p.s (H.ss p.s).book,at_:=p.at_+1 }:=by
    refine (RP.next_lt ?_).trans rfl
    show p.at_+1<p.k; omega
   rw[this]
   exact .i (did b _ _ _ _ rfl rfl b.ep rfl rfl) (by omega) he ph (by simp; omega) tc lo pl
  ·have:RP.next { p with seen:=seenset p.seen p.s (H.ss p.s).book } 7={ p with seen:=seenset p.seen p.s (H.ss p.s).book,ph:=7,at_:=0 }:=by
    refine (RP.next_ge ?_).trans rfl
    show ¬ p.at_+1<p.k; omega
   rw[this]
   exact .j (did b _ _ _ _ rfl rfl b.ep rfl rfl) (by omega) he rfl (by simp; omega) tc lo pl
 | j b h he ph at_ tc lo pl =>
  rw[hstep b (by simp[RP.enabled,ph])]
  have hk':p.k=ss.length:=by simp[RP.k,b.ss]
  have hgo:p.go H n=(if p.last then (p.next 8).answer else p.next 8,H.unlock p.who p.s):=by simp[RP.go,ph]
  rw[hgo]
  by_cases hl:p.at_+1<ss.length
  ·have hlast:p.last=false:=by simp[RP.last,hk',hl]
   have:p.next 8={ p with at_:=p.at_+1 }:=RP.next_lt (by omega)
   rw[hlast]
   simp only[Bool.false_eq_true,if_false,this]
   exact .j (b.unlock _ _ rfl rfl rfl rfl rfl) (by omega) he ph (by simp; omega) tc lo pl
  ·have hlast:p.last=true:=by simp[RP.last,hk',hl]
   have:p.next 8={ p with ph:=8,at_:=0 }:=RP.next_ge (by omega)
   rw[hlast]
   simp only[if_true,this]
   have ha:RP.answer { p with ph:=8,at_:=0 }={ p with ph:=8,at_:=0,placed:=p.looked,vals:=p.vals++p.users.map (RP.tell { p with ph:=8,at_:=0 }) }:=by simp[RP.answer,tc]
   rw[ha]
   exact .k (by omega) he rfl lo b.err
 | k h he ph pl er=>unfold Nof at hn; rw[he] at hn; simp at hn; omega
end Go.Den
namespace Go.Den
open Go
set_option linter.unusedVariables false
set_option linter.unusedSimpArgs false
structure RG (r:RP):Prop where
 us:r.users.length≤1000
 of:r.of≤1000
 k8:r.k≤8
 tr:0≤r.tries∧r.tries≤4
 at_:r.at_<1000000
 sn:∀ i b,r.seen i=some b→BkG b
structure HG (H:Hall):Prop where
 n8:H.n≤8
 ac:H.acts.length<900000
 sn:∀ s,s<H.n→BkG (H.ss s).snap∧BkG (H.ss s).book
 uv:∀ s,s<H.n→U64 (H.ss s).v∧U64 (H.ss s).bound
 wh:∀ s,s<H.n→0≤(H.ss s).who∧(H.ss s).who≤1000
 cw:CfgW H.c
 c8:H.c.stripes≤8
theorem HG.ac' {H:Hall}(x:HG H):H.acts.length<1000000:=by have:=x.ac; omega
structure RS (r:RP)(H:Hall):Prop where
 at_:r.ph≠8→r.ss≠[]→r.at_<r.k
 ss:∀ s∈r.ss,s<H.n
 vn:r.ph≠8→r.vals=[]
 ph:0≤r.ph∧r.ph≤8
 e0:r.ss=[]→r.ph=0∨r.ph=8
 ep:∀ i,i<r.k→U64 (r.ep i)
 wr:-1000≤r.who∧r.who≤900
theorem RP.s_lt {r:RP}(h:r.at_<r.k):r.s=r.ss[r.at_]'h:=by
 show r.ss.getD r.at_ 0=_
 rw[List.getD_eq_getElem?_getD,List.getElem?_eq_getElem h]; rfl
theorem HG.did {H:Hall}(x:HG H)(w k p:Int)(h:H.acts.length+1<900000):HG (H.did w k p):=⟨x.n8,by simp[Hall.did]; omega,x.sn,x.uv,x.wh,x.cw,x.c8⟩
theorem HG.put {H:Hall}(x:HG H){s:Nat}{y:Strp}(h1:BkG y.snap∧BkG y.book)(h2:U64 y.v∧U64 y.bound)(h3:0≤y.who∧y.who≤1000):HG (H.put s y) :=
 ⟨x.n8,x.ac,fun t ht=>by simp only[Hall.put,sput]; split; exact h1; exact x.sn t ht,fun t ht=>by simp only[Hall.put,sput]; split; exact h2; exact x.uv t ht,fun t ht=>by simp only[Hall.put,sput]; split; exact h3; exact x.wh t ht,x.cw,x.c8⟩
theorem HG.lock {H:Hall}(x:HG H){w:Int}{s:Nat}(hs:s<H.n)(hw:w≤900)(h:H.acts.length+1<900000):HG (H.lock w s):=by
 unfold Hall.lock
 split
 ·rename_i hc
  have hc':0≤w∧(H.ss s).who=0:=by simpa [canTake] using hc
  exact (x.did _ _ _ h).put (x.sn s hs) (x.uv s hs) (by simp; omega)
 ·exact x
theorem HG.unlock {H:Hall}(x:HG H){w:Int}{s:Nat}(hs:s<H.n)(h:H.acts.length+1<900000):HG (H.unlock w s):=by
 unfold Hall.unlock
 split
 ·exact (x.did _ _ _ h).put (x.sn s hs) (x.uv s hs) (by simp)
 ·exact x
theorem lock_n (H:Hall)(w:Int)(s:Nat):(H.lock w s).n=H.n∧(H.lock w s).c=H.c∧(H.lock w s).acts.length≤H.acts.length+1:=by
 unfold Hall.lock; split
 ·exact⟨rfl,rfl,by simp[Hall.put,Hall.did]⟩
 ·exact⟨rfl,rfl,by omega⟩
theorem unlock_n (H:Hall)(w:Int)(s:Nat):(H.unlock w s).n=H.n∧(H.unlock w s).c=H.c∧(H.unlock w s).acts.length≤H.acts.length+1:=by
 unfold Hall.unlock; split
 ·exact⟨rfl,rfl,by simp[Hall.put,Hall.did]⟩
 ·exact⟨rfl,rfl,by omega⟩
structure RK (n:Nat)(r:RP):Prop where
 rg:RG r
 at_:r.ph≠8→r.ss≠[]→r.at_<r.k
 ss:∀ s∈r.ss,s<n
 vn:r.ph≠8→r.vals=[]
 ph:0≤r.ph∧r.ph≤8
 e0:r.ss=[]→r.ph=0∨r.ph=8
 ep:∀ i,i<r.k→U64 (r.ep i)
 wr:-1000≤r.who∧r.who≤900
theorem RK.rs {r:RP}{H:Hall}(x:RK H.n r):RS r H:=⟨x.at_,x.ss,x.vn,x.ph,x.e0,x.ep,x.wr⟩
theorem RK.next {n:Nat}{r:RP}(x:RK n r)(h8:r.ph≠8)(h0:r.ss≠[]){ph:Int}(hp:0≤ph∧ph≤8):RK n (r.next ph):=by
 have hk:0<r.k:=by unfold RP.k; exact List.length_pos_iff.2 h0
 have g:=x.rg
 have k8:=g.k8
 by_cases hl:r.at_+1<r.k
 ·rw[RP.next_lt hl]
  exact⟨⟨g.us,g.of,g.k8,g.tr,by simp; omega,g.sn⟩,fun _ _=>hl,x.ss,fun _=>x.vn h8,x.ph,fun h=>absurd h h0,x.ep,x.wr⟩
 ·rw[RP.next_ge hl]
  exact⟨⟨g.us,g.of,g.k8,g.tr,by simp,g.sn⟩,fun _ _=>hk,x.ss,fun _=>x.vn h8,hp,fun h=>absurd h h0,x.ep,x.wr⟩
theorem RK.begin {n:Nat}{r:RP}(x:RK n r)(hv:r.vals=[]):RK n r.begin:=by
 have g:=x.rg
 exact⟨⟨g.us,g.of,g.k8,g.tr,by simp[RP.begin],fun i b h=>by simp[RP.begin] at h⟩,fun _ h0=>by show 0<r.k; unfold RP.k; exact List.length_pos_iff.2 h0,x.ss,fun _=>hv,by simp[RP.begin],fun _=>.inl rfl,fun i _=>by simp[RP.begin,U64],x.wr⟩
theorem RK.answer {n:Nat}{r:RP}(x:RK n r)(h0:r.ss≠[]){ph:Int}(hp:ph=8):RK n { r.answer with ph:=ph }:=by
 have g:=x.rg
 subst hp
 unfold RP.answer
 split
 ·exact⟨⟨g.us,g.of,g.k8,g.tr,g.at_,g.sn⟩,fun h=>absurd rfl h,x.ss,fun h=>absurd rfl h,by simp,fun h=>absurd h h0,x.ep,x.wr⟩
 ·exact⟨⟨g.us,g.of,g.k8,g.tr,g.at_,g.sn⟩,fun h=>absurd rfl h,x.ss,fun h=>absurd rfl h,by simp,fun h=>absurd h h0,x.ep,x.wr⟩
theorem answer_ph (r:RP):r.answer.ph=r.ph:=by unfold RP.answer; split<;>rfl
theorem RK.judge {n:Nat}{r:RP}(x:RK n r)(h0:r.ss≠[])(hv:r.vals=[])(hat:r.at_<r.k):RK n r.judge:=by
 have g:=x.rg
 unfold RP.judge
 split
 ·exact x.answer h0 rfl
 ·split
  ·exact⟨⟨g.us,g.of,g.k8,g.tr,g.at_,g.sn⟩,fun _ _=>hat,x.ss,fun _=>hv,by simp,fun h=>absurd h h0,x.ep,x.wr⟩
  ·rename_i h1 h2
   have ht:¬ r.tries=0:=by intro h; simp[h] at h2
   have:=g.tr
   refine RK.begin (r:={ r with tries:=r.tries-1 }) ⟨⟨g.us,g.of,g.k8,by simp; omega,g.at_,g.sn⟩,x.at_,x.ss,x.vn,x.ph,x.e0,x.ep,x.wr⟩ hv
theorem RK.step {r:RP}{H:Hall}(x:RK H.n r)(g:HG H)(n:Int)(ha:H.acts.length+1<900000) :
  RK H.n (r.step H n).1∧HG (r.step H n).2∧(r.step H n).2.n=H.n∧(r.step H n).2.c=H.c∧(r.step H n).2.acts.length≤H.acts.length+1:=by
 have rg:=x.rg
 unfold RP.step
 split
 ·exact⟨x,g,rfl,rfl,Nat.le_succ _⟩
 rename_i hen
 have hen:r.enabled H=true:=by simpa using hen
 have h8:¬ r.ph=8:=fun h=>by simp[RP.enabled,h] at hen
 split
 ·rename_i h0
  exact⟨⟨⟨rg.us,rg.of,rg.k8,rg.tr,rg.at_,rg.sn⟩,fun h=>absurd rfl h,x.ss,fun _=>rfl,by simp,fun _=>.inr rfl,x.ep,x.wr⟩,g,rfl,rfl,Nat.le_succ _⟩
 rename_i h0
 have hat:=x.at_ h8 h0
 have hs:r.s<H.n:=by rw[RP.s_lt hat]; exact x.ss _ (List.getElem_mem _)
 have hv:=x.vn h8
 have hw:=x.wr
 have did:∀ k p:Int,HG (H.did r.who k p)∧(H.did r.who k p).n=H.n∧(H.did r.who k p).c=H.c∧(H.did r.who k p).acts.length≤H.acts.length+1:=fun k p=>⟨g.did _ _ _ ha,rfl,rfl,by simp[Hall.did]⟩
 unfold RP.go
 split
 ·refine⟨RK.next (r:={ r with ep:=epset r.ep r.at_ (H.ss r.s).v,spent:=r.spent || decide (evn H.c.epochs≤(H.ss r.s).v) }) ⟨⟨rg.us,rg.of,rg.k8,rg.tr,rg.at_,rg.sn⟩,x.at_,x.ss,x.vn,x.ph,x.e0,fun i hi=>?_,x.wr⟩ h8 h0 (by omega),did _ _⟩
  simp only[epset]; split
  ·exact (g.uv _ hs).1
  ·exact x.ep i hi
 split
 ·refine⟨RK.next (r:={ r with seen:=seenset r.seen r.s (H.ss r.s).snap }) ⟨⟨rg.us,rg.of,rg.k8,rg.tr,rg.at_,fun i b h=>?_⟩,x.at_,x.ss,x.vn,x.ph,x.e0,x.ep,x.wr⟩ h8 h0 (by omega),did _ _⟩
  simp only[seenset] at h; split at h
  ·cases h; exact (g.sn _ hs).1
  ·exact rg.sn i b h
 split
 ·exact⟨⟨⟨rg.us,rg.of,rg.k8,rg.tr,rg.at_,rg.sn⟩,fun _ _=>hat,x.ss,fun _=>hv,by simp,fun h=>absurd h h0,x.ep,x.wr⟩,did _ _⟩
 split
 ·exact⟨⟨⟨rg.us,rg.of,rg.k8,rg.tr,rg.at_,rg.sn⟩,fun _ _=>hat,x.ss,fun _=>hv,by simp,fun h=>absurd h h0,x.ep,x.wr⟩,did _ _⟩
 split
 ·have y:RK H.n { r with valid:=r.valid && validB (r.ep r.at_) (H.ss r.s).v H.c.epochs }:=⟨⟨rg.us,rg.of,rg.k8,rg.tr,rg.at_,rg.sn⟩,x.at_,x.ss,x.vn,x.ph,x.e0,x.ep,x.wr⟩
  refine⟨?_,did _ _⟩
  have yn:=y.next h8 h0 (ph:=8) (by omega)
  show RK H.n (if RP.last { r with valid:=r.valid && validB (r.ep r.at_) (H.ss r.s).v H.c.epochs } then RP.judge (RP.next { r with valid:=r.valid && validB (r.ep r.at_) (H.ss r.s).v H.c.epochs } 8) else RP.next { r with valid:=r.valid && validB (r.ep r.at_) (H.ss r.s).v H.c.epochs } 8)
  split
  ·rename_i hl
   have hl':(!decide (r.at_+1<r.k))=true:=hl
   have hge:¬ r.at_+1<r.k:=by simpa using hl'
   have e:=RP.next_ge (p:={ r with valid:=r.valid && validB (r.ep r.at_) (H.ss r.s).v H.c.epochs }) (ph:=8) hge
   refine yn.judge (by rw[e]; exact h0) (by rw[e]; exact hv) (by rw[e]; show 0<r.k; omega)
  ·exact yn
 split
 ·exact⟨x.next h8 h0 (by omega),g.lock hs hw.2 ha,lock_n _ _ _⟩
 split
 ·refine⟨RK.next (r:={ r with seen:=seenset r.seen r.s (H.ss r.s).book }) ⟨⟨rg.us,rg.of,rg.k8,rg.tr,rg.at_,fun i b h=>?_⟩,x.at_,x.ss,x.vn,x.ph,x.e0,x.ep,x.wr⟩ h8 h0 (by omega),did _ _⟩
  simp only[seenset] at h; split at h
  ·cases h; exact (g.sn _ hs).2
  ·exact rg.sn i b h
 ·refine⟨?_,g.unlock hs ha,unlock_n _ _ _⟩
  have yn:=x.next h8 h0 (ph:=8) (by omega)
  show RK H.n (if r.last then (r.next 8).answer else r.next 8)
  split
  ·rename_i hl
   have hl':(!decide (r.at_+1<r.k))=true:=hl
   have hge:¬ r.at_+1<r.k:=by simpa using hl'
   have e:=RP.next_ge (p:=r) (ph:=8) hge
   have:=yn.answer (by rw[e]; exact h0) rfl (ph:=8)
   have e8:(r.next 8).answer.ph=8:=by rw[answer_ph,e]
   have ee:∀ q:RP,q.ph=8→{ q with ph:=8 }=q:=fun q h=>by cases q; simp at h; subst h; rfl
   rw[ee _ e8] at this
   exact this
  ·exact yn
end Go.Den
namespace Go.Proofs.YtcnphhhcknhhaaaGreat
open Go Go.Den Go.MapKept
set_option linter.unusedSimpArgs false
set_option linter.unusedVariables false
set_option maxRecDepth 20000
def rpC (r:RP)(uv sv ev:Value)(mr:Nat)(vv:Value):List Value:=[.int .i64 r.who,uv,.int .i64 r.of,sv,.int .i64 r.ph,.int .i64 r.at_,.int .i64 r.tries,ev,.bool r.valid,.bool r.spent,.map (some mr),
 .int .u64 r.t.now,.int .u64 r.t.seq,.bool r.t.closed,.int .i64 r.looked,.int .i64 r.placed,.int .i64 r.err,vv,.slice none 0 0,.bool false]
def SeenR (F h:Heap)(mr:Nat)(s:Int→Option Book):Prop:=∃ f,MapR (.int .i64) h mr f∧∀ i:Int,match s i with
 | some b=>∃ a c,f (.int .i64 i)=some (.agg #[a,c])∧BookR F a c b
 | none=>f (.int .i64 i)=none
structure RPX (T:Tags)(h:Heap)(g:Tag)(p:Nat)(r:RP)(uv sv ev:Value)(mr:Nat)(vv:Value):Prop where
 hp:h p=some (.cells (rpC r uv sv ev mr vv).toArray qCZ (0,0))
 tp:T p=g++[0]
 us:Sl 1 StrR (fz T h) uv r.users
 ss:Sl 1 NatR (fz T h) sv r.ss
 ep:Rw T h (g++[1]) 1 qPZ ev r.k (seqF r.k fun i=>[.int .u64 (r.ep i)])
 mt:T mr=g++[2]
 sn:SeenR (fz T h) h mr r.seen
 vs:Sl 3 PresR (fz T h) vv r.vals
 vn:r.vals=[]→vv = .slice none 0 0
def RPR (T:Tags)(h:Heap)(g:Tag)(p:Nat)(r:RP):Prop:=∃ uv sv ev mr vv,RPX T h g p r uv sv ev mr vv
theorem SeenR.kp {U:Tag→Prop}{T T':Tags}{h h':Heap}{g:Tag}{mr:Nat}{s:Int→Option Book}(x:SeenR (fz T h) h mr s)(k:Kp U T h T' h')(ht:T mr=g)(u:¬ U g)(n:¬ U []):SeenR (fz T' h') h' mr s:=by
 obtain⟨f,m,hs⟩:=x
 obtain⟨o,ho⟩:=m.lt
 refine⟨f,m.of (by rw[(k.at ho ht u).1,ho]),fun i=>?_⟩
 have:=hs i
 cases hsi:s i with
 | none=>simpa [hsi] using this
 | some b=>simp only[hsi] at this ⊢; obtain⟨a,c,h1,h2⟩:=this; exact⟨a,c,h1,h2.ext (k.ext n)⟩
theorem RPX.kp {U:Tag→Prop}{T T':Tags}{h h':Heap}{g:Tag}{p:Nat}{r:RP}{uv sv ev:Value}{mr:Nat}{vv:Value}(x:RPX T h g p r uv sv ev mr vv)(k:Kp U T h T' h')(o:Off U g)(n:¬ U []):RPX T' h' g p r uv sv ev mr vv:=by
 obtain⟨f,m,_⟩:=x.sn
 obtain⟨om,hom⟩:=m.lt
 exact⟨(k.at x.hp x.tp (o.at _)).1,(k.at x.hp x.tp (o.at _)).2,x.us.ext (@StrR.ext) (k.ext n),x.ss.ext (@NatR.ext) (k.ext n),x.ep.kp k (o.at _),(k.at hom x.mt (o.at _)).2,x.sn.kp k x.mt (o.at _) n,
  x.vs.ext (@PresR.ext) (k.ext n),x.vn⟩
theorem RPR.kp {U:Tag→Prop}{T T':Tags}{h h':Heap}{g:Tag}{p:Nat}{r:RP}(x:RPR T h g p r)(k:Kp U T h T' h')(o:Off U g)(n:¬ U []):RPR T' h' g p r:=by
 obtain⟨uv,sv,ev,mr,vv,x⟩:=x
 exact⟨uv,sv,ev,mr,vv,x.kp k o n⟩
theorem RPX.st {T:Tags}{h:Heap}{g:Tag}{p:Nat}{r r':RP}{uv sv ev:Value}{mr:Nat}{vv vv':Value}(x:RPX T h g p r uv sv ev mr vv)(w:Wf T h){c:Array Value}(hc:c=(rpC r' uv sv ev mr vv').toArray)
  (h1:r'.users=r.users) (h2:r'.ss=r.ss) (h3:r'.ep=r.ep) (h4:r'.seen=r.seen) (h5:Sl 3 PresR (fz T h) vv' r'.vals) (h6:r'.vals=[]→vv' = .slice none 0 0) :
  Only (fun t=>t=g++[0]) T h T (upd h p (.cells c qCZ (0,0)))∧RPX T (upd h p (.cells c qCZ (0,0))) g p r' uv sv ev mr vv':=by
 have o1:Only (fun t=>t=g++[0]) T h T (upd h p (.cells c qCZ (0,0))):=Only.upd w x.hp x.tp
 have e:=o1.ext (by simp)
 have hk:r'.k=r.k:=by simp[RP.k,h2]
 refine⟨o1,by rw[upd_same',hc],x.tp,by rw[h1]; exact x.us.ext (@StrR.ext) e,by rw[h2]; exact x.ss.ext (@NatR.ext) e,by rw[hk,h3]; exact x.ep.kp o1.k (ne_tag (by simp)),x.mt,by rw[h4]; exact x.sn.kp o1.k x.mt (ne_tag (by simp)) (by simp),h5.ext (@PresR.ext) e,h6⟩
theorem mpSeen:mpC P qtZ=some (qpZ,.int .i64,.agg #[.slice none 0 0,.slice none 0 0]):=by kernel_rfl
theorem unSlU64:P.underlying qsSZ=some (.slice qPZ):=by kernel_rfl
theorem apU64:apC P qPZ=some (1,8,1):=by kernel_rfl
theorem zcU64:zc P qPZ=some #[.int .u64 0]:=by kernel_rfl
theorem rbegin_ok {T:Tags}{h:Heap}{g:Tag}{p:Nat}{r:RP}(w:Wf T h)(gg:Gd g){uv sv ev0 mv0 vv:Value}(hp:h p=some (.cells #[.int .i64 r.who,uv,.int .i64 r.of,sv,.int .i64 r.ph,.int .i64 r.at_,.int .i64 r.tries,ev0,.bool r.valid,.bool r.spent,mv0,
 .int .u64 r.t.now,.int .u64 r.t.seq,.bool r.t.closed,.int .i64 r.looked,.int .i64 r.placed,.int .i64 r.err,vv,.slice none 0 0,.bool false] qCZ (0,0))) (tp:T p=g++[0])
  (us:Sl 1 StrR (fz T h) uv r.users) (ss:Sl 1 NatR (fz T h) sv r.ss) (vs:Sl 3 PresR (fz T h) vv r.vals) (vn:r.vals=[]→vv = .slice none 0 0) (hk8:r.k≤8) {K:KTy}
  (hk:∀ T' h',Only (pre g) T h T' h'→RPR T' h' g p r.begin→K (.tuple #[]) h'):callM P qfxZ #[ptr p] h K:=by
 apply qtYZ
 unfold qjjZ
 have hlen:=ss.len
 simp -implicitDefEqProofs[ld_at hp,cel_of hp,stm_at hp,stm_upd,ld_same,cel_same,over,hlen]
 refine makeSlice_vv unSlU64 apU64 zcU64 (n:=r.ss.length) (by unfold RP.k at hk8; omega) (by unfold RP.k at hk8; omega) (by unfold RP.k at hk8; unfold maxLen; omega) fun eb h1 n1 e1 c1=>?_
 have o0:=fun o'=>Only.upd (U:=pre g) (o':=o') w hp (tp▸pre_app _ _)
 have hp0:=upd_same' h p (.cells #[.int .i64 r.who,uv,.int .i64 r.of,sv,.int .i64 0,.int .i64 0,.int .i64 r.tries,ev0,.bool r.valid,.bool r.spent,mv0,.int .u64 r.t.now,.int .u64 r.t.seq,.bool r.t.closed,.int .i64 r.looked,.int .i64 r.placed,.int .i64 r.err,vv,.slice none 0 0,.bool false] qCZ (0,0))
 have o0:=o0 (.cells #[.int .i64 r.who,uv,.int .i64 r.of,sv,.int .i64 0,.int .i64 0,.int .i64 r.tries,ev0,.bool r.valid,.bool r.spent,mv0,.int .u64 r.t.now,.int .u64 r.t.seq,.bool r.t.closed,.int .i64 r.looked,.int .i64 r.placed,.int .i64 r.err,vv,.slice none 0 0,.bool false] qCZ (0,0))
 generalize upd h p _=h0 at *
 have hp1:=e1 _ _ hp0
 have o1:Only (pre g) T h0 (tset T eb (g++[1])) h1:=Only.enew _ o0.wf e1 n1 c1
 have ne1:p≠eb:=ne_fresh hp0 n1
 have tp1:(tset T eb (g++[1])) p=g++[0]:=by rw[tset_ne ne1]; exact tp
 have te1:(tset T eb (g++[1])) eb=g++[1]:=tset_same _ _ _
 generalize tset T eb (g++[1])=T1 at *
 unfold qnLZ
 simp -implicitDefEqProofs[ld_at hp1,cel_of hp1,stm_at hp1,stm_upd,ld_same,cel_same,over]
 have o2:=Only.upd (U:=fun t=>t=g++[0]) (o':=.cells #[.int .i64 r.who,uv,.int .i64 r.of,sv,.int .i64 0,.int .i64 0,.int .i64 r.tries,.slice (some ⟨eb,0,none⟩) r.ss.length r.ss.length,.bool true,.bool false,mv0,.int .u64 r.t.now,.int .u64 r.t.seq,.bool r.t.closed,.int .i64 r.looked,.int .i64 r.placed,.int .i64 r.err,vv,.slice none 0 0,.bool false] qCZ (0,0)) o1.wf hp1 tp1
 have hp2:=upd_same' h1 p (.cells #[.int .i64 r.who,uv,.int .i64 r.of,sv,.int .i64 0,.int .i64 0,.int .i64 r.tries,.slice (some ⟨eb,0,none⟩) r.ss.length r.ss.length,.bool true,.bool false,mv0,.int .u64 r.t.now,.int .u64 r.t.seq,.bool r.t.closed,.int .i64 r.looked,.int .i64 r.placed,.int .i64 r.err,vv,.slice none 0 0,.bool false] qCZ (0,0))
 have c2:=o2.k.at c1 te1 (ne_tag (by simp))
 generalize upd h1 p _=h2 at *
 refine makeMap_vv mpSeen fun mr h3 n3 e3 m3=>?_
 obtain⟨om,hom⟩:=m3.lt
 have o3:Only (fun t=>t=g++[0]) T1 h2 (tset T1 mr (g++[2])) h3:=Only.enew _ o2.wf e3 n3 hom
 have hp3:=e3 _ _ hp2
 have ne2:p≠mr:=ne_fresh hp2 n3
 have ne3:eb≠mr:=ne_fresh c2.1 n3
 have tp3:(tset T1 mr (g++[2])) p=g++[0]:=by rw[tset_ne ne2]; exact tp1
 have te3:(tset T1 mr (g++[2])) eb=g++[1]:=by rw[tset_ne ne3]; exact te1
 have tm3:(tset T1 mr (g++[2])) mr=g++[2]:=tset_same _ _ _
 generalize tset T1 mr (g++[2])=T3 at *
 simp -implicitDefEqProofs[ld_at hp3,cel_of hp3,stm_at hp3,stm_upd,ld_same,cel_same,over]
 have o4:=Only.upd (U:=fun t=>t=g++[0]) (o':=.cells #[.int .i64 r.who,uv,.int .i64 r.of,sv,.int .i64 0,.int .i64 0,.int .i64 r.tries,.slice (some ⟨eb,0,none⟩) r.ss.length r.ss.length,.bool true,.bool false,.map (some mr),.int .u64 r.t.now,.int .u64 r.t.seq,.bool r.t.closed,.int .i64 r.looked,.int .i64 r.placed,.int .i64 r.err,vv,.slice none 0 0,.bool false] qCZ (0,0)) o3.wf hp3 tp3
 have oall:Only (pre g) T h T3 _:=(((o0.trans o1).up o2 fun t=>eq_pre).up o3 fun t=>eq_pre).up o4 fun t=>eq_pre
 have e:=oall.ext gg.nil
 refine hk T3 _ oall ⟨uv,sv,_,mr,vv,upd_same' _ _ _,tp3,us.ext (@StrR.ext) e,ss.ext (@NatR.ext) e,?_,tm3,?_,vs.ext (@PresR.ext) e,vn⟩
 ·have c4:=(o4.k.at (e3 _ _ c2.1) te3 (ne_tag (by simp))).1
  exact⟨made_row (by unfold RP.k at hk8; unfold maxLen; omega) c4,fun b hb=>by simp[rowOf] at hb; subst hb; exact te3⟩
 ·refine⟨fun _=>none,m3.of (by rw[hom]; exact (o4.k.at hom tm3 (ne_tag (by simp))).1),fun i=>?_⟩
  simp -implicitDefEqProofs[RP.begin]
theorem RPX.cp {T:Tags}{h:Heap}{g:Tag}{p:Nat}{r:RP}{uv sv ev:Value}{mr:Nat}{vv:Value}(x:RPX T h g p r uv sv ev mr vv):h p=some (.cells #[.int .i64 r.who,uv,.int .i64 r.of,sv,.int .i64 r.ph,.int .i64 r.at_,.int .i64 r.tries,ev,.bool r.valid,.bool r.spent,.map (some mr),
 .int .u64 r.t.now,.int .u64 r.t.seq,.bool r.t.closed,.int .i64 r.looked,.int .i64 r.placed,.int .i64 r.err,vv,.slice none 0 0,.bool false] qCZ (0,0)):=x.hp
variable {K:KTy}
theorem RPX.fin {T:Tags}{h:Heap}{g:Tag}{p:Nat}{r:RP}{uv sv ev:Value}{mr:Nat}{vv:Value}(x:RPX T h g p r uv sv ev mr vv)(w:Wf T h){r':RP}{vv' v:Value}{c:Array Value}
  (hk:∀ h',Only (pre g) T h T h'→RPR T h' g p r'→K v h') (hc:c=(rpC r' uv sv ev mr vv').toArray)
  (h1:r'.users=r.users) (h2:r'.ss=r.ss) (h3:r'.ep=r.ep) (h4:r'.seen=r.seen) (h5:Sl 3 PresR (fz T h) vv' r'.vals) (h6:r'.vals=[]→vv' = .slice none 0 0):K v (upd h p (.cells c qCZ (0,0))):=by
 obtain⟨o1,x1⟩:=x.st w hc h1 h2 h3 h4 h5 h6
 exact hk _ (o1.mono fun t=>eq_pre) ⟨uv,sv,ev,mr,vv',x1⟩
theorem rnext_ok (ph:Int){T:Tags}{h:Heap}{g:Tag}{p:Nat}{r:RP}(w:Wf T h)(gg:Gd g)(x:RPR T h g p r)(hat:r.at_<1000000)
  (hk:∀ h',Only (pre g) T h T h'→RPR T h' g p (r.next ph)→K (.bool r.last) h'):callM P qBZ #[ptr p,.int .i64 ph] h K:=by
 apply quyZ
 unfold qkoZ
 obtain⟨uv,sv,ev,mr,vv,x⟩:=x
 have cp:=x.cp
 have hlen:=x.ss.len
 have hw:IntKind.i64.wrap ((r.at_:Int)+1)=(r.at_+1:Nat):=by rw[wrap64_id (by omega) (by omega)]; omega
 simp -implicitDefEqProofs only[ncV_p,ov_s,faV_p,ldV_c,Nat.zero_add,cel_of cp,List.getElem?_toArray,List.getElem?_cons_succ,List.getElem?_cons_zero,bin_add,hw]
 by_cases hl:r.at_+1<r.k
 ·have hl':((r.at_+1:Nat):Int)<r.ss.length:=by unfold RP.k at hl; omega
  simp -implicitDefEqProofs[ld_at cp,cel_of cp,stm_at cp,stm_upd,ld_same,cel_same,over,hlen,hl',-Int.natCast_add]
  have e:r.next ph={ r with at_:=r.at_+1 }:=by simp[RP.next,hl]
  have e2:r.last=false:=by simp[RP.last,hl]
  rw[e,e2] at hk
  exact x.fin w hk rfl rfl rfl rfl rfl x.vs x.vn
 ·have hl':¬ ((r.at_+1:Nat):Int)<r.ss.length:=by unfold RP.k at hl; omega
  unfold qphZ
  simp -implicitDefEqProofs[ld_at cp,cel_of cp,stm_at cp,stm_upd,ld_same,cel_same,over,hlen,hl',-Int.natCast_add]
  have e:r.next ph={ r with ph:=ph,at_:=0 }:=by simp[RP.next,hl]
  have e2:r.last=true:=by simp[RP.last,hl]
  rw[e,e2] at hk
  exact x.fin w hk rfl rfl rfl rfl rfl x.vs x.vn
theorem rdone_ok {T:Tags}{h:Heap}{g:Tag}{p:Nat}{r:RP}(x:RPR T h g p r)(hk:K (.bool (decide (r.ph=8))) h):callM P qbVZ #[ptr p] h K:=by
 apply quuZ
 unfold qkjZ
 obtain⟨uv,sv,ev,mr,vv,x⟩:=x
 have cp:=x.cp
 simp -implicitDefEqProofs[ld_at cp,cel_of cp,stm_at cp,stm_upd,ld_same,cel_same,over]
 exact hk
theorem rplaced_ok {T:Tags}{h:Heap}{g:Tag}{p:Nat}{r:RP}(x:RPR T h g p r)(hk:K (.int .i64 r.placed) h):callM P qeCZ #[ptr p] h K:=by
 apply qtlZ
 unfold qiAZ
 obtain⟨uv,sv,ev,mr,vv,x⟩:=x
 have cp:=x.cp
 simp -implicitDefEqProofs[ld_at cp,cel_of cp,stm_at cp,stm_upd,ld_same,cel_same,over]
 exact hk
theorem nat_at {F:Heap}{v:Value}{l:List Nat}(x:Sl 1 NatR F v l){i:Nat}(hi:i<l.length){k:IntKind}:∃ b p,iaV (some (none,1)) v (.int k i)=some (.pointer (some ⟨b,p,none⟩))∧∀ h',Ext F h'→cel h' b p=some (.int .i64 l[i]):=by
 obtain⟨b,p,c,h1,h2,h3⟩:=x.at (k:=k) (i:=i) (by omega) (by omega)
 refine⟨b,p,h1,fun h' e=>?_⟩
 have hc:c=[.int .i64 l[i]]:=h3
 subst hc
 have:=(cels_get (cels_ext e h2)).2 0 (by simp)
 simpa using this
theorem rwaits_ok {T:Tags}{h:Heap}{g:Tag}{p:Nat}{r:RP}(x:RPR T h g p r)(hat:r.ph=4→r.at_<r.k)(hk:K (.int .i64 r.waits) h):callM P qfsZ #[ptr p] h K:=by
 apply qtSZ
 unfold qjdZ qnCZ
 obtain⟨uv,sv,ev,mr,vv,x⟩:=x
 have cp:=x.cp
 by_cases h4:r.ph=4
 ·have hat:=hat h4
  obtain⟨b,o,i1,i2⟩:=nat_at x.ss (k:=.i64) hat
  simp -implicitDefEqProofs[ld_at cp,cel_of cp,stm_at cp,stm_upd,ld_same,cel_same,over,h4,i1,i2 _ (fz_ext _ _)]
  refine kv hk ?_
  unfold RP.k at hat
  simp -implicitDefEqProofs[RP.waits,h4,RP.s,List.getD_eq_getElem?_getD,hat]
 ·simp -implicitDefEqProofs[ld_at cp,cel_of cp,stm_at cp,stm_upd,ld_same,cel_same,over,h4]
  exact kv hk (by simp[RP.waits,h4])
theorem renabled_ok {T:Tags}{h:Heap}{g gh:Tag}{p hp:Nat}{r:RP}{H:Hall}(x:RPR T h g p r)(y:HallR T h gh hp H)(hat:r.ph=4→r.at_<r.k)(hss:∀ s∈r.ss,s<H.n)
  (hk:∀ h',Ext h h'→K (.bool (r.enabled H)) h'):callM P qgkZ #[ptr p,ptr hp] h K:=by
 apply qsJZ
 unfold qhKZ
 have x0:=x
 obtain⟨uv,sv,ev,mr,vv,x⟩:=x
 have cp:=x.cp
 by_cases h8:r.ph=8
 ·simp -implicitDefEqProofs[ld_at cp,cel_of cp,stm_at cp,stm_upd,ld_same,cel_same,over,h8]
  exact kb (hk h (Ext.refl h)) (by simp[RP.enabled,h8])
 ·simp -implicitDefEqProofs[ld_at cp,cel_of cp,stm_at cp,stm_upd,ld_same,cel_same,over,h8]
  refine rwaits_ok x0 hat ?_
  by_cases h4:r.ph=4
  ·have hat:=hat h4
   have e:r.waits=r.s:=by simp[RP.waits,h4]
   have hs:r.s<H.n:=by
    unfold RP.k at hat
    have:r.s=r.ss[r.at_]:=by simp[RP.s,List.getD_eq_getElem?_getD,hat]
    rw[this]; exact hss _ (List.getElem_mem hat)
   have hneg:¬ ((r.s:Int)<0):=by omega
   rw[e]
   simp -implicitDefEqProofs[hneg]
   refine rwaits_ok x0 (fun _=>hat) ?_
   rw[e]
   refine free_ok y hs fun h' e'=>?_
   exact kb (hk h' e') (by simp[RP.enabled,h4])
  ·have e:r.waits = -1:=by simp[RP.waits,h4]
   rw[e]
   simp -implicitDefEqProofs
   exact kb (hk h (Ext.refl h)) (by simp[RP.enabled,h4,h8])
end Go.Proofs.YtcnphhhcknhhaaaGreat
namespace Go.Proofs.YtcnphhhcknhhaaaGreat
open Go Go.Den Go.MapKept
set_option linter.unusedSimpArgs false
set_option linter.unusedVariables false
set_option maxRecDepth 20000
theorem bsPres:bsI P qIZ=some (qnZ,3,#[.int .i64 0,.int .i64 0,.int .i64 0]):=by kernel_rfl
theorem unSlPres:P.underlying qIZ=some (.slice qnZ):=by kernel_rfl
theorem apPres:apC P qnZ=some (3,24,3):=by kernel_rfl
theorem bdReply (a:Int):bdV (binf P qcZ) [(0,.int .i64 a)]=some (.agg #[.int .i64 a,.slice none 0 0,.slice none 0 0,.bool false]):=by kernel_rfl
theorem bdReply0:bdV (binf P qcZ) []=some (.agg #[.int .i64 0,.slice none 0 0,.slice none 0 0,.bool false]):=by kernel_rfl
theorem zcReply:zc P qcZ=some #[.int .i64 0,.slice none 0 0,.slice none 0 0,.bool false]:=by kernel_rfl
def U03 (g t:Tag):Prop:=t=g++[0]∨t=g++[3]
theorem U03.pre {g t:Tag}(h:U03 g t):Den.pre g t:=by rcases h with rfl | rfl<;>exact pre_app _ _
theorem U03.nil (g:Tag):¬ U03 g []:=by rintro (h | h)<;>simp at h
theorem U03.n1 (g:Tag):¬ U03 g (g++[1]):=by rintro (h | h)<;>exact ne_tag (by simp) h
theorem U03.n2 (g:Tag):¬ U03 g (g++[2]):=by rintro (h | h)<;>exact ne_tag (by simp) h
def AnsI (T:Tags)(h:Heap)(g:Tag)(p:Nat)(r:RP)(uv sv ev:Value)(mr:Nat)(v25:Value)(h':Heap):Prop :=
 ∃ (T':Tags) (vv':Value) (i:Nat),Only (U03 g) T h T' h'∧T' p=g++[0]∧h' p=some (.cells (rpC { r with placed:=r.looked } uv sv ev mr vv').toArray qCZ (0,0)) ∧
  Rw T' h' (g++[3]) 3 qnZ vv' i (((r.users.take i).map r.tell).flatMap presC)∧(∀ b,rowOf vv'=some b→h b=none)∧(i=0→vv' = .slice none 0 0)∧i≤r.users.length∧v25 = .int .i64 i
variable {K:KTy}
theorem ranswer_ok {T : Tags} {h : Heap} {g : Tag} {p : Nat} {r : RP} (w : Wf T h) (gg : Gd g) (x : RPR T h g p r) (hv : r.vals = []) (hu : r.users.length ≤ 1000) (hof : r.of ≤ 1000) (hb : ∀ i b, r.seen i = some b → BkG b)
    (hk : ∀ T' h', Only (pre g) T h T' h' → RPR T' h' g p r.answer → K (.tuple #[]) h') : callM P qeEZ #[ptr p] h K := by
  apply qtxZ
  unfold qiGZ
  obtain ⟨uv, sv, ev, mr, vv, x⟩ := x
  have cp := x.cp
  have hvv := x.vn hv
  subst hvv
  cases hc : r.t.closed with
  | true =>
    unfold qlPZ
    simp -implicitDefEqProofs [ld_at cp, cel_of cp, stm_at cp, stm_upd, ld_same, cel_same, over, hc, bdReply]
    have e : r.answer = { r with placed := r.looked, err := 5, vals := [] } := by simp [RP.answer, hc]
    rw [e] at hk
    exact x.fin w (fun h' => hk T h') (by simp [rpC, hc]) rfl rfl rfl rfl (.inl ⟨rfl, _, _, rfl⟩) (fun _ => rfl)
  | false =>
    have hlen := x.us.len
    unfold qlUZ
    simp -implicitDefEqProofs [ld_at cp, cel_of cp, stm_at cp, stm_upd, ld_same, cel_same, over, hc, hlen]
    have e : r.answer = { r with placed := r.looked, vals := r.users.map r.tell } := by simp [RP.answer, hc, hv]
    have o1 := fun o' => Only.upd (U := U03 g) (o' := o') w x.hp (.inl x.tp)
    refine loop_on [0, 23, 24] (fun s h' => AnsI T h g p r uv sv ev mr (s 25) h') (fun s _ => (r.users.length - num (s 25)).toNat)
      ⟨T, .slice none 0 0, 0, o1 _, x.tp, by rw [upd_same']; simp [rpC, hc], Rw.nil _ _ _ _ _, fun b hb => by simp [rowOf] at hb, fun _ => rfl, by omega, rfl⟩ ?_
    rintro s h1 hf ⟨T1, vv1, i, o1, tp1, hp1, r1, f1, z1, hi, s25⟩
    have s0 : s 0 = ptr p := by simpa using hf 0 (by simp)
    have s23 : s 23 = uv := by simpa using hf 23 (by simp)
    have s24 : s 24 = .int .i64 r.users.length := by simpa using hf 24 (by simp)
    unfold qlTZ
    simp -implicitDefEqProofs only [s24, s25, bin_lss, ov_s, cd_b]
    refine ⟨fun hc => ?_, fun hc => ?_⟩
    · have hlt : i < r.users.length := by have : ((i : Int) < r.users.length) := by simpa using hc
                                          omega
      have e1 := o1.ext (U03.nil g)
      obtain ⟨b, o, i1, i2⟩ := str_at x.us (k := .i64) hlt
      have hsz := str_sizes x.us _ (List.getElem_mem hlt)
      have hw : IntKind.i64.wrap ((i : Int) + 1) = i + 1 := wrap64_id (by omega) (by omega)
      have sn1 := x.sn.kp o1.k x.mt (U03.n2 g) (U03.nil g)
      obtain ⟨f, m1, sn1⟩ := sn1
      have cp1 := hp1
      simp -implicitDefEqProofs only [rpC] at cp1
      unfold qlSZ
      simp -implicitDefEqProofs [s0, s23, s25, i1, i2 _ (e1.trans (fz_ext _ _)), ld_at cp1, cel_of cp1, stm_at cp1, stm_upd, ld_same, cel_same, over]
      refine stripe_ok _ _ hof hsz ?_
      unfold qlRZ
      simp -implicitDefEqProofs only [ldV_c, cel_of cp1, List.getElem?_toArray, List.getElem?_cons_succ, List.getElem?_cons_zero, true_and]
      refine lookup_lk mpSeen (k := .int .i64 (stripeOf r.users[i] r.of)) rfl m1 ?_
      have hpr : ∃ a c, lkA (.agg #[.slice none 0 0, .slice none 0 0]) false (f (.int .i64 (stripeOf r.users[i] r.of))) = .agg #[a, c] ∧ BookR (fz T1 h1) a c ((r.seen (stripeOf r.users[i] r.of)).getD []) ∧ BkG ((r.seen (stripeOf r.users[i] r.of)).getD []) := by
        have := sn1 (stripeOf r.users[i] r.of)
        cases hs : r.seen (stripeOf r.users[i] r.of) with
        | none => simp only [hs] at this; exact ⟨_, _, by rw [this]; rfl, BookR.nil _, BkG.nil⟩
        | some b => simp only [hs] at this; obtain ⟨a, c, q1, q2⟩ := this; exact ⟨a, c, by rw [q1]; rfl, q2, hb _ _ hs⟩
      obtain ⟨a, c, q1, q2, q3⟩ := hpr
      rw [q1]
      refine presence_ok _ q3.so _ _ (fz_ext _ _) q2 q3.len (q3.ss _) fun h2 e2 => ?_
      have hp2 := e2 _ _ hp1
      have cp2 := e2 _ _ cp1
      unfold qlQZ
      simp -implicitDefEqProofs [ld_at cp2, cel_of cp2, stm_at cp2, stm_upd, ld_same, cel_same, over]
      refine bs_one bsPres (by simp [presC]) (by omega) fun pb h3 n3 e3 c3 => ?_
      have cp3 := e3 _ _ cp2
      simp -implicitDefEqProofs [ld_at cp3, cel_of cp3, stm_at cp3, stm_upd, ld_same, cel_same, over]
      have o3 : Only non T1 h1 T1 h3 := Only.of_ext o1.wf (e2.trans e3)
      refine Rw.app0 (m := 1) (news := _) unSlPres apPres (by omega) o3.wf (r1.kp o3.k (not_non _)) (cels_one c3 (by simp [presC])) (by simp [presC]) (by unfold maxLen; omega) (by omega) fun vv2 T2 h4 o4 r4 ha => ?_
      have b4 := o4.k.at (e3 _ _ hp2) tp1 (ne_tag (by simp))
      have cp4 := b4.1
      simp -implicitDefEqProofs only [rpC] at cp4
      have ho := r4.one
      simp -implicitDefEqProofs [s0, s23, s24, s25, ld_at cp4, cel_of cp4, stm_at cp4, stm_upd, ld_same, cel_same, over, ho.1, ho.2, hw]
      refine ⟨?_, by omega⟩
      have o5 := fun o' => Only.upd (U := fun t => t = g ++ [0]) (o' := o') o4.wf b4.1 b4.2
      refine ⟨T2, vv2, i + 1, ((o1.up o3 non_up).up o4 fun t e => .inr e).up (o5 _) fun t e => .inl e, b4.2, by rw [upd_same']; simp [rpC], ?_, fun b hb => ?_, fun h => by omega, by omega, by simp⟩
      · have := r4.kp (o5 (.cells (rpC { r with placed := r.looked } uv sv ev mr vv2).toArray qCZ (0, 0))).k (ne_tag (by simp))
        rw [List.take_succ_eq_append_getElem hlt, List.map_append, List.flatMap_append]
        simpa [rpC, RP.tell] using this
      · rcases ha with ha | ⟨j, ha, hj⟩
        · exact f1 b (by rw [← ha]; exact hb)
        · rw [ha] at hb; simp only [Option.some.injEq] at hb; subst hb
          exact o1.fresh (fresh_of (e2.trans e3) hj)
    · have : i = r.users.length := by have : ¬ ((i : Int) < r.users.length) := by simpa using hc
                                      omega
      subst this
      simp -implicitDefEqProofs
      rw [List.take_length] at r1
      rw [e] at hk
      have of := o1.freeze (g ++ [3])
      refine hk _ h1 (of.mono fun t => U03.pre) ⟨uv, sv, ev, mr, vv1, hp1, ?_, x.us.ext (@StrR.ext) (of.ext (U03.nil g)), x.ss.ext (@NatR.ext) (of.ext (U03.nil g)), x.ep.kp of.k (U03.n1 g), ?_, x.sn.kp of.k x.mt (U03.n2 g) (U03.nil g), ?_, fun h => z1 (by simpa using h)⟩
      · exact (of.tg p _ x.hp).trans x.tp
      · obtain ⟨f, m, _⟩ := x.sn
        obtain ⟨om, hom⟩ := m.lt
        exact (of.tg mr _ hom).trans x.mt
      · have : Row 3 qnZ (fz (fun b => if h b = none ∧ T1 b = g ++ [3] then [] else T1 b) h1) vv1 r.users.length ((r.users.map r.tell).flatMap presC) := r1.1.of_at fun b hb => by
          obtain ⟨o, ho⟩ := r1.1.lt b hb
          rw [fz_at ho (by simp [f1 b hb, r1.2 b hb]), ho]
        have hl : r.users.length = (r.users.map r.tell).length := by simp
        rw [hl] at this
        exact Row.slE (enc := presC) (R := PresR) (fun _ => rfl) (fun _ => rfl) this
end Go.Proofs.YtcnphhhcknhhaaaGreat
namespace Go.Proofs.YtcnphhhcknhhaaaGreat
open Go Go.Den Go.MapKept
set_option linter.unusedSimpArgs false
set_option linter.unusedVariables false
set_option maxRecDepth 20000
variable {K:KTy}
theorem rjudge_ok {T:Tags}{h:Heap}{g:Tag}{p:Nat}{r:RP}(w:Wf T h)(gg:Gd g)(x:RPR T h g p r)(rg:RG r)(hv:r.vals=[])
  (hk:∀ T' h',Only (pre g) T h T' h'→RPR T' h' g p r.judge→K (.tuple #[]) h'):callM P qfyZ #[ptr p] h K:=by
 apply qtZZ
 unfold qjkZ
 have x0:=x
 obtain⟨uv,sv,ev,mr,vv,x⟩:=x
 have cp:=x.cp
 simp +contextual -implicitDefEqProofs[ld_at cp,cel_of cp,stm_at cp,stm_upd,ld_same,cel_same,over]
 cases hcv:(r.t.closed || r.valid) with
 | true =>
  unfold qnMZ
  refine⟨fun _=>?_,fun h1 h2=>by simp[h1,h2] at hcv⟩
  refine ranswer_ok w gg x0 hv rg.us rg.of rg.sn fun T1 h1 o1 x1=>?_
  obtain⟨uv1,sv1,ev1,mr1,vv1,x1⟩:=x1
  have cp1:=x1.cp
  simp -implicitDefEqProofs[ld_at cp1,cel_of cp1,stm_at cp1,stm_upd,ld_same,cel_same,over]
  have e:r.judge={ r.answer with ph:=8 }:=by simp[RP.judge,hcv]
  rw[e] at hk
  exact x1.fin o1.wf (fun h' o=>hk T1 h' (o1.trans o)) rfl rfl rfl rfl rfl x1.vs x1.vn
 | false =>
  have hcv':r.t.closed=false∧r.valid=false:=by simpa using hcv
  unfold qnOZ
  refine⟨fun hh=>by rcases hh with hh | hh<;>simp[hcv'.1,hcv'.2] at hh,fun _ _=>?_⟩
  simp +contextual -implicitDefEqProofs[ld_at cp,cel_of cp,stm_at cp,stm_upd,ld_same,cel_same,over]
  cases hst:(r.spent || decide (r.tries=0)) with
  | true =>
   have e:r.judge={ r with ph:=4 }:=by simp only[RP.judge,hcv,hst]; simp
   rw[e] at hk
   refine⟨fun _=>?_,fun h1 h2=>?_⟩
   ·exact x.fin w (fun h' o=>hk T h' o) rfl rfl rfl rfl rfl x.vs x.vn
   ·simp -implicitDefEqProofs[h1,h2] at hst
  | false =>
   have e:r.judge=RP.begin { r with tries:=r.tries-1 }:=by simp only[RP.judge,hcv,hst]; simp
   rw[e] at hk
   unfold qnNZ
   have ht:=rg.tr
   have hst':r.spent=false∧¬ r.tries=0:=by simpa using hst
   have hw:IntKind.i64.wrap (r.tries-1)=r.tries-1:=wrap64_id (by omega) (by omega)
   refine⟨fun hh=>by rcases hh with hh | hh<;>simp[hst'.1,hst'.2] at hh,fun _ _=>?_⟩
   simp -implicitDefEqProofs[ld_at cp,cel_of cp,stm_at cp,stm_upd,ld_same,cel_same,over,hw]
   have o1:=fun o'=>Only.upd (U:=pre g) (o':=o') w x.hp (x.tp▸pre_app _ _)
   have e1:=fun o'=>(o1 o').ext gg.nil
   refine rbegin_ok (r:={ r with tries:=r.tries-1 }) (o1 _).wf gg (upd_same' _ _ _) x.tp (x.us.ext (@StrR.ext) (e1 _)) (x.ss.ext (@NatR.ext) (e1 _)) (x.vs.ext (@PresR.ext) (e1 _)) x.vn rg.k8 fun T2 h2 o2 x2=>?_
   exact hk T2 h2 ((o1 _).trans o2) x2
theorem rreply_ok {T:Tags}{h:Heap}{g:Tag}{p:Nat}{r:RP}(w:Wf T h)(gg:Gd g)(x:RPR T h g p r)
  (hk:∀ h' vv,Ext h h'→(r.ph=8→Sl 3 PresR (fz T h') vv r.vals)→(¬ r.ph=8→vv = .slice none 0 0)→K (.agg #[.int .i64 (if r.ph=8 then r.err else 0),vv,.slice none 0 0,.bool false]) h'):callM P qftZ #[ptr p] h K:=by
 apply qtTZ
 unfold qjeZ
 rw[zcReply]
 refine nw_intro fun v1 h1 n1 e1 c1=>?_
 have x1:=x.kp (Only.of_ext (U:=non) w e1).k (Off.non _) (not_non _)
 refine rdone_ok x1 ?_
 obtain⟨uv,sv,ev,mr,vv,x2⟩:=x1
 have cp:=x2.cp
 have ho:=x2.vs.one
 unfold qnEZ
 by_cases h8:r.ph=8
 ·unfold qnDZ
  simp -implicitDefEqProofs[h8,ld_at cp,cel_of cp,stm_at cp,ld_at c1,cel_of c1,stm_at c1,stm_upd,ld_same,cel_same,over,ho.1,ho.2]
  refine kv (hk _ vv (ext_upd n1 e1) (fun _=>?_) (fun h=>absurd h8 h)) (by simp[h8])
  obtain⟨uv,sv,ev,mr',vv',x0⟩:=x
  have hcc:=(e1 _ _ x0.hp)
  rw[x2.hp] at hcc
  have:vv=vv':=by simp[rpC] at hcc; exact hcc.2.2.2.2
  subst this
  exact x0.vs.ext (@PresR.ext) (fz_of_ext (ext_upd n1 e1))
 ·simp -implicitDefEqProofs[h8,ld_at c1,cel_of c1,stm_at c1,stm_upd,ld_same,cel_same,over,bdReply0]
  exact kv (hk _ (.slice none 0 0) (ext_upd n1 e1) (fun h=>absurd h h8) (fun _=>rfl)) (by simp[h8])
end Go.Proofs.YtcnphhhcknhhaaaGreat
namespace Go.Proofs.YtcnphhhcknhhaaaGreat
open Go Go.Den Go.MapKept
set_option linter.unusedSimpArgs false
set_option linter.unusedVariables false
set_option maxRecDepth 20000
theorem RPX.ste {T:Tags}{h:Heap}{g:Tag}{p:Nat}{r:RP}{uv sv ev:Value}{mr:Nat}{vv:Value}(x:RPX T h g p r uv sv ev mr vv)(w:Wf T h){i b:Nat}(hi:i<r.k)(hb:rowOf ev=some b){v:Int}{K:Heap→Prop}
  (hk:∀ h',Only (fun t=>t=g++[1]) T h T h'→RPX T h' g p { r with ep:=epset r.ep i v } uv sv ev mr vv→K h'):stM (some 1) (.pointer (some ⟨b,i,none⟩)) (.int .u64 v) h K:=by
 have tb:=x.ep.2 b hb
 refine row1_st (F:=fun i=>.int .u64 (r.ep i)) x.ep.1 hb hi (by simp) (by simp) fun h' hk' hrow=>?_
 obtain⟨ob,hob⟩:=x.ep.1.lt b hb
 obtain⟨ob',hob'⟩:=hrow.lt b hb
 have e:h'=upd h b ob':=upd_of hk' hob'
 have o1:Only (fun t=>t=g++[1]) T h T h':=by rw[e]; exact Only.upd w hob tb
 have e1:=o1.ext (by simp)
 obtain⟨f,m,_⟩:=x.sn
 refine hk h' o1 ⟨(o1.k.at x.hp x.tp (ne_tag (by simp))).1,x.tp,x.us.ext (@StrR.ext) e1,x.ss.ext (@NatR.ext) e1,⟨?_,x.ep.2⟩,x.mt,x.sn.kp o1.k x.mt (ne_tag (by simp)) (by simp),x.vs.ext (@PresR.ext) e1,x.vn⟩
 refine row1_congr hrow fun k _=>?_
 simp -implicitDefEqProofs only[epset]
 split<;>rfl
theorem RPX.up {T:Tags}{h:Heap}{g:Tag}{p:Nat}{r:RP}{uv sv ev:Value}{mr:Nat}{vv:Value}(x:RPX T h g p r uv sv ev mr vv)(w:Wf T h){s:Int}{a c:Value}{b:Book}(hb:BookR (fz T h) a c b){K:Heap→Prop}
  (hk:∀ h',Only (fun t=>t=g++[2]) T h T h'→RPX T h' g p { r with seen:=seenset r.seen s b } uv sv ev mr vv→K h') :
  uM P (Instr.mapUpdate qtZ (.map (some mr)) (.int .i64 s) (.agg #[a,c])) h K:=by
 obtain⟨f,m,hs⟩:=x.sn
 refine mapUpdate_u mpSeen (k:=.int .i64 s) rfl m fun h' hk' m'=>?_
 obtain⟨om,hom⟩:=m.lt
 obtain⟨om',hom'⟩:=m'.lt
 have e:h'=upd h mr om':=upd_of hk' hom'
 have o1:Only (fun t=>t=g++[2]) T h T h':=by rw[e]; exact Only.upd w hom x.mt
 have e1:=o1.ext (by simp)
 refine hk h' o1 ⟨(o1.k.at x.hp x.tp (ne_tag (by simp))).1,x.tp,x.us.ext (@StrR.ext) e1,x.ss.ext (@NatR.ext) e1,x.ep.kp o1.k (ne_tag (by simp)),x.mt,⟨_,m',fun i=>?_⟩,x.vs.ext (@PresR.ext) e1,x.vn⟩
 simp -implicitDefEqProofs only[seenset]
 by_cases his:i=s
 ·subst his
  simp -implicitDefEqProofs only[if_true]
  exact⟨a,c,mset_same _ _ _,hb.ext e1⟩
 ·simp -implicitDefEqProofs only[if_neg his]
  have hne:(Value.int .i64 i)≠.int .i64 s:=fun h=>his (by simpa using h)
  have:=hs i
  cases hsi:r.seen i with
  | none=>simp only[hsi] at this ⊢; rw[mset_ne _ _ _ hne]; exact this
  | some b'=>simp only[hsi] at this ⊢; obtain⟨q1,q2,q3,q4⟩:=this; exact⟨q1,q2,by rw[mset_ne _ _ _ hne]; exact q3,q4.ext e1⟩
variable {K:KTy}
theorem rstep_ok (n:Int){T:Tags}{h:Heap}{g gh:Tag}{p q:Nat}{r:RP}{H:Hall}(w:Wf T h)(gg:Gd g)(ggh:Gd gh)(d1:Off (pre gh) g)(d2:Off (pre g) gh)(x:RPR T h g p r)(y:HallR T h gh q H)(rg:RG r)(hg:HG H)(rs:RS r H)
  (hk:∀ T' h',Only (two (pre gh) (pre g)) T h T' h'→HallR T' h' gh q (r.step H n).2→RPR T' h' g p (r.step H n).1→K (.tuple #[]) h'):callM P qaSZ #[ptr p,ptr q,.int .i64 n] h K:=by
 apply quvZ
 unfold qkkZ
 refine renabled_ok x y (fun h4=>?_) rs.ss fun h1 e1=>?_
 ·refine rs.at_ (by omega) fun he=>?_
  have:=rs.e0 he; omega
 have o1:Only non T h T h1:=Only.of_ext w e1
 have y1:=y.up o1 (Off.non _) (not_non _)
 have x1:=x.kp o1.k (Off.non _) (not_non _)
 have w1:=o1.wf
 unfold qoRZ
 cases hen:r.enabled H with
 | false =>
  have e:r.step H n=(r,H):=by simp[RP.step,hen]
  rw[e] at hk
  simp -implicitDefEqProofs
  exact hk T h1 (o1.mono non_up) y1 x1
 | true =>
  have h8:¬ r.ph=8:=fun h=>by simp[RP.enabled,h] at hen
  simp -implicitDefEqProofs
  obtain⟨uv,sv,ev,mr,vv,x2⟩:=x1
  have cp:=x2.cp
  have hlen:=x2.ss.len
  unfold qoQZ
  by_cases hs0:r.ss=[]
  ·unfold qoKZ
   have hl0:r.ss.length=0:=by simp[hs0]
   simp -implicitDefEqProofs[ld_at cp,cel_of cp,stm_at cp,stm_upd,ld_same,cel_same,over,hlen,hl0,bdReply]
   have e:r.step H n=({ r with err:=1,vals:=[],placed:=n,ph:=8 },H):=by simp[RP.step,hen,hs0]
   rw[e] at hk
   exact x2.fin w1 (fun h' o=>hk T h' ((o1.mono non_up).up o two_r) (y1.up o d2 gg.nil)) rfl rfl rfl rfl rfl (.inl ⟨rfl,_,_,rfl⟩) (fun _=>rfl)
  have hl0:¬ ((r.ss.length:Int)=0):=by
   intro h0
   exact hs0 (List.eq_nil_of_length_eq_zero (by omega))
  have hat:=rs.at_ h8 hs0
  have hsl:=RP.s_lt hat
  have hsn:r.s<H.n:=by rw[hsl]; exact rs.ss _ (List.getElem_mem _)
  have hvals:=rs.vn h8
  have hep':=rs.ep
  have estep:r.step H n=r.go H n:=by simp[RP.step,hen,hs0]
  rw[estep] at hk
  obtain⟨sb,so,i1,i2⟩:=nat_at x2.ss (k:=.i64) hat
  rw[← hsl] at i2
  unfold qoPZ
  simp -implicitDefEqProofs[ld_at cp,cel_of cp,stm_at cp,stm_upd,ld_same,cel_same,over,hlen,hl0,hs0,i1,i2 _ (fz_ext _ _)]
  have x1:RPR T h1 g p r:=⟨uv,sv,ev,mr,vv,x2⟩
  by_cases p0:r.ph=0
  ·unfold qoMZ
   simp -implicitDefEqProofs[p0,ld_at cp,cel_of cp,stm_at cp,stm_upd,ld_same,cel_same,over]
   refine epoch_ok r.who w1 ggh y1 hsn hg.n8 hg.ac' fun T3 h3 o3 y3=>?_
   have x3:=x2.kp o3.k d1 ggh.nil
   have cp3:=x3.cp
   obtain⟨eb,q1,q2,q3⟩:=row1_at (F:=fun i=>.int .u64 (r.ep i)) (k:=.i64) x3.ep.1 hat
   unfold qoLZ
   simp -implicitDefEqProofs[ld_at cp3,cel_of cp3,stm_at cp3,stm_upd,ld_same,cel_same,over,q2]
   refine x3.ste o3.wf hat q1 fun h4 o4 x4=>?_
   have cp4:=x4.cp
   have y4:=y3.up o4 (fun t ht e=>d2 t ht (e▸pre_app _ _)) (by simp)
   have oo:Only (two (pre gh) (pre g)) T h T3 h4:=(((o1.mono non_up).up o3 two_l).up o4 fun t e=>two_r _ (e▸pre_app _ _))
   have hgo:r.go H n=(RP.next { r with ep:=epset r.ep r.at_ (H.ss r.s).v,spent:=r.spent || decide (evn H.c.epochs≤(H.ss r.s).v) } 1,H.epoch r.who r.s):=by simp[RP.go,p0]
   rw[hgo] at hk
   cases hsp:r.spent with
   | true =>
    simp -implicitDefEqProofs[hsp,ld_at cp4,cel_of cp4,stm_at cp4,stm_upd,ld_same,cel_same,over]
    refine x4.fin o4.wf (v:=.tuple #[]) (r':={ r with ep:=epset r.ep r.at_ (H.ss r.s).v,spent:=true }) (K:=fun _ h'=>callM P qBZ #[ptr p,.int .i64 1] h' fun _ h''=>K (.tuple #[]) h'') (fun h5 o5 x5=>?_) (by simp[rpC,p0]) rfl rfl rfl rfl x4.vs x4.vn
    refine rnext_ok 1 o5.wf gg x5 rg.at_ fun h6 o6 x6=>?_
    simp -implicitDefEqProofs only[hsp,Bool.true_or] at hk
    exact hk T3 h6 ((oo.up o5 two_r).up o6 two_r) ((y4.up o5 d2 gg.nil).up o6 d2 gg.nil) x6
   | false =>
    obtain⟨eb,q1,q2,q3⟩:=row1_at (F:=fun i=>.int .u64 (epset r.ep r.at_ (H.ss r.s).v i)) (k:=.i64) x4.ep.1 hat
    simp -implicitDefEqProofs[hsp,ld_at cp4,cel_of cp4,stm_at cp4,stm_upd,ld_same,cel_same,over,q2,q3]
    refine config_ok y4 fun h5 e5=>?_
    have o5:Only non T3 h4 T3 h5:=Only.of_ext o4.wf e5
    have x5:=x4.kp o5.k (Off.non _) (not_non _)
    have y5:=y4.up o5 (Off.non _) (not_non _)
    have cp5:=x5.cp
    have q3':=cel_ext e5 q3
    have hep:(H.epoch r.who r.s).c=H.c:=rfl
    simp -implicitDefEqProofs only[hep,cfgC]
    simp -implicitDefEqProofs[ld_at cp5,cel_of cp5,stm_at cp5,stm_upd,ld_same,cel_same,over,q3',fdV,bin_andNot1 _ _ hg.cw.u1]
    refine x5.fin o5.wf (v:=.tuple #[]) (r':={ r with ep:=epset r.ep r.at_ (H.ss r.s).v,spent:=decide (evn H.c.epochs≤(H.ss r.s).v) }) (K:=fun _ h'=>callM P qBZ #[ptr p,.int .i64 1] h' fun _ h''=>K (.tuple #[]) h'') (fun h6 o6 x6=>?_) (by simp[rpC,p0,epset]) rfl rfl rfl rfl x5.vs x5.vn
    refine rnext_ok 1 o6.wf gg x6 rg.at_ fun h7 o7 x7=>?_
    simp -implicitDefEqProofs only[hsp,Bool.false_or] at hk
    exact hk T3 h7 (((oo.up o5 non_up).up o6 two_r).up o7 two_r) ((y5.up o6 d2 gg.nil).up o7 d2 gg.nil) x7
  by_cases p1:r.ph=1
  ·unfold qizZ qoOZ
   simp -implicitDefEqProofs[p1,ld_at cp,cel_of cp,stm_at cp,stm_upd,ld_same,cel_same,over]
   refine snap_ok r.who w1 ggh y1 hsn hg.n8 hg.ac' fun T3 h3 a c o3 y3 bk=>?_
   have x3:=x2.kp o3.k d1 ggh.nil
   have cp3:=x3.cp
   unfold qoNZ
   simp -implicitDefEqProofs[ld_at cp3,cel_of cp3,stm_at cp3,stm_upd,ld_same,cel_same,over]
   refine x3.up o3.wf (s:=r.s) bk fun h4 o4 x4=>?_
   have y4:=y3.up o4 (fun t ht e=>d2 t ht (e▸pre_app _ _)) (by simp)
   have oo:Only (two (pre gh) (pre g)) T h T3 h4:=(((o1.mono non_up).up o3 two_l).up o4 fun t e=>two_r _ (e▸pre_app _ _))
   have hgo:r.go H n=(RP.next { r with seen:=seenset r.seen r.s (H.ss r.s).snap } 2,H.snap r.who r.s):=by simp[RP.go,p1]
   rw[hgo] at hk
   refine rnext_ok 2 o4.wf gg ⟨uv,sv,ev,mr,vv,x4⟩ rg.at_ fun h5 o5 x5=>?_
   exact hk T3 h5 (oo.up o5 two_r) (y4.up o5 d2 gg.nil) x5
  unfold qizZ qnBZ
  simp -implicitDefEqProofs[p0,p1]
  rw[seqM_eq]
  unfold qnhZ qnfZ qngZ
  have wp:∀ k:Int,0≤k∧k≤8→IntKind.i64.wrap (k+1)=k+1:=fun k hk=>wrap64_id (by omega) (by omega)
  by_cases p2:r.ph=2
  ·unfold qeHZ qhEZ
   simp -implicitDefEqProofs[p2,ld_at cp,cel_of cp,stm_at cp,stm_upd,ld_same,cel_same,over]
   refine look_ok r.who w1 ggh y1 hg.ac' fun T3 h3 o3 y3=>?_
   have x3:=x2.kp o3.k d1 ggh.nil
   have cp3:=x3.cp
   have w3:IntKind.i64.wrap 3=3:=rfl
   have hgo:r.go H n=({ r with t:=H.t,looked:=n,ph:=3 },H.look r.who):=by simp[RP.go,p2]
   rw[hgo] at hk
   unfold qhDZ qnjZ
   simp -implicitDefEqProofs[ld_at cp3,cel_of cp3,stm_at cp3,stm_upd,ld_same,cel_same,over,p2,w3,tmC]
   exact x3.fin o3.wf (fun h' o=>hk T3 h' (((o1.mono non_up).up o3 two_l).up o two_r) (y3.up o d2 gg.nil)) (by simp[rpC]) rfl rfl rfl rfl x3.vs x3.vn
  by_cases p5:r.ph=5
  ·unfold qeHZ qhEZ
   simp -implicitDefEqProofs[p5,ld_at cp,cel_of cp,stm_at cp,stm_upd,ld_same,cel_same,over]
   refine look_ok r.who w1 ggh y1 hg.ac' fun T3 h3 o3 y3=>?_
   have x3:=x2.kp o3.k d1 ggh.nil
   have cp3:=x3.cp
   have w3:IntKind.i64.wrap 6=6:=rfl
   have hgo:r.go H n=({ r with t:=H.t,looked:=n,ph:=6,placed:=n },H.look r.who):=by simp[RP.go,p5]
   rw[hgo] at hk
   unfold qhDZ qniZ
   simp -implicitDefEqProofs[ld_at cp3,cel_of cp3,stm_at cp3,stm_upd,ld_same,cel_same,over,p5,w3,tmC]
   exact x3.fin o3.wf (fun h' o=>hk T3 h' (((o1.mono non_up).up o3 two_l).up o two_r) (y3.up o d2 gg.nil)) (by simp[rpC]) rfl rfl rfl rfl x3.vs x3.vn
  unfold qeHZ qnAZ
  simp -implicitDefEqProofs[p2,p5]
  by_cases p3:r.ph=3
  ·unfold qnlZ
   simp -implicitDefEqProofs[p3,ld_at cp,cel_of cp,stm_at cp,stm_upd,ld_same,cel_same,over]
   refine epoch_ok r.who w1 ggh y1 hsn hg.n8 hg.ac' fun T3 h3 o3 y3=>?_
   have x3:=x2.kp o3.k d1 ggh.nil
   have cp3:=x3.cp
   have oo:Only (two (pre gh) (pre g)) T h T3 h3:=(o1.mono non_up).up o3 two_l
   have hgo:r.go H n=(let q:RP:={ r with valid:=r.valid && validB (r.ep r.at_) (H.ss r.s).v H.c.epochs }
    (if q.last then (q.next 8).judge else q.next 8,H.epoch r.who r.s)):=by simp[RP.go,p3]
   rw[hgo] at hk
   have w1':(1:Int)≠0:=by decide
   have tail:∀ (T5:Tags) (h5:Heap) (b:Bool),b=(r.valid && validB (r.ep r.at_) (H.ss r.s).v H.c.epochs)→Only (two (pre gh) (pre g)) T h T5 h5→HallR T5 h5 gh q (H.epoch r.who r.s)→RPR T5 h5 g p { r with valid:=b }→∀ (B:Heap→Prop) (K0:KTy),
     (∀ h6,K0 (.bool true) h6=callM P qfyZ #[ptr p] h6 fun _ h7=>K (.tuple #[]) h7)→(∀ h6,K0 (.bool false) h6=K (.tuple #[]) h6)→callM P qBZ #[ptr p,.int .i64 8] h5 K0:=by
    intro T5 h5 b hb o5 y5 x5 B K0 hk1 hk2
    refine rnext_ok 8 o5.wf gg x5 rg.at_ fun h6 o6 x6=>?_
    have y6:=y5.up o6 d2 gg.nil
    simp -implicitDefEqProofs only[← hb] at hk
    cases hl:RP.last { r with valid:=b } with
    | false =>
     rw[hk2]
     simp -implicitDefEqProofs only[hl] at hk
     exact hk T5 h6 (o5.up o6 two_r) y6 x6
    | true =>
     rw[hk1]
     simp -implicitDefEqProofs only[hl,if_true] at hk
     have hq:(RP.next { r with valid:=b } 8).vals=[]∧(RP.next { r with valid:=b } 8).users=r.users∧(RP.next { r with valid:=b } 8).of=r.of∧(RP.next { r with valid:=b } 8).seen=r.seen∧(RP.next { r with valid:=b } 8).k=r.k∧(RP.next { r with valid:=b } 8).tries=r.tries∧(RP.next { r with valid:=b } 8).at_<1000000:=by
      have:=rg.at_
      have:=rg.k8
      unfold RP.next RP.k at *
      split
      ·exact⟨hvals,rfl,rfl,rfl,rfl,rfl,by simp at *; omega⟩
      ·exact⟨hvals,rfl,rfl,rfl,rfl,rfl,by simp⟩
     obtain⟨k1,k2,k3,k4,k5,k6,k7⟩:=hq
     refine rjudge_ok o6.wf gg x6 ⟨by rw[k2]; exact rg.us,by rw[k3]; exact rg.of,by rw[k5]; exact rg.k8,by rw[k6]; exact rg.tr,k7,by rw[k4]; exact rg.sn⟩ k1 fun T7 h7 o7 x7=>?_
     exact hk T7 h7 ((o5.up o6 two_r).up o7 two_r) (y6.up o7 d2 gg.nil) x7
   unfold qnkZ
   cases hvd:r.valid with
   | false =>
    simp -implicitDefEqProofs[ld_at cp3,cel_of cp3,stm_at cp3,stm_upd,ld_same,cel_same,over,hvd]
    refine x3.fin o3.wf (v:=.tuple #[]) (r':={ r with valid:=false }) (K:=fun _ h'=>callM P qBZ #[ptr p,.int .i64 8] h' _) (fun h5 o5 x5=>?_) (by simp[rpC,p3]) rfl rfl rfl rfl x3.vs x3.vn
    refine tail T3 h5 false (by simp[hvd]) (oo.up o5 two_r) (y3.up o5 d2 gg.nil) x5 (fun _=>True) _ (fun h6=>?_) (fun h6=>?_)
    ·unfold qcwZ qhGZ qhFZ
     simp -implicitDefEqProofs
    ·unfold qcwZ qhHZ
     simp -implicitDefEqProofs
   | true =>
    obtain⟨eb,q1,q2,q3⟩:=row1_at (F:=fun i=>.int .u64 (r.ep i)) (k:=.i64) x3.ep.1 hat
    simp -implicitDefEqProofs[ld_at cp3,cel_of cp3,stm_at cp3,stm_upd,ld_same,cel_same,over,hvd,q2,q3]
    refine config_ok y3 fun h5 e5=>?_
    have o5:Only non T3 h3 T3 h5:=Only.of_ext o3.wf e5
    have x5:=x3.kp o5.k (Off.non _) (not_non _)
    have y5:=y3.up o5 (Off.non _) (not_non _)
    have cp5:=x5.cp
    have q3':=cel_ext e5 q3
    have hep:(H.epoch r.who r.s).c=H.c:=rfl
    simp -implicitDefEqProofs only[hep,cfgC]
    simp -implicitDefEqProofs[ld_at cp5,cel_of cp5,stm_at cp5,stm_upd,ld_same,cel_same,over,q3',fdV]
    refine valid_ok _ _ _ (hep' r.at_ hat) hg.cw.u1 ?_
    simp -implicitDefEqProofs[ld_at cp5,cel_of cp5,stm_at cp5,stm_upd,ld_same,cel_same,over,hvd]
    refine x5.fin o5.wf (v:=.tuple #[]) (r':={ r with valid:=validB (r.ep r.at_) (H.ss r.s).v H.c.epochs }) (K:=fun _ h'=>callM P qBZ #[ptr p,.int .i64 8] h' _) (fun h6 o6 x6=>?_) (by simp[rpC,p3]) rfl rfl rfl rfl x5.vs x5.vn
    refine tail T3 h6 _ (by simp[hvd]) ((oo.up o5 non_up).up o6 two_r) (y5.up o6 d2 gg.nil) x6 (fun _=>True) _ (fun h6=>?_) (fun h6=>?_)
    ·unfold qcwZ qhGZ qhFZ
     simp -implicitDefEqProofs
    ·unfold qcwZ qhHZ
     simp -implicitDefEqProofs
  by_cases p4:r.ph=4
  ·unfold qhIZ qnoZ
   simp -implicitDefEqProofs[p3,p4,ld_at cp,cel_of cp,stm_at cp,stm_upd,ld_same,cel_same,over]
   refine lock_ok r.who w1 ggh y1 hsn hg.n8 hg.ac' ⟨rs.wr.1,by have:=rs.wr.2; omega⟩ fun T3 h3 o3 y3=>?_
   have x3:=x2.kp o3.k d1 ggh.nil
   unfold qnnZ
   simp -implicitDefEqProofs
   refine rnext_ok 5 o3.wf gg ⟨uv,sv,ev,mr,vv,x3⟩ rg.at_ fun h4 o4 x4=>?_
   have hgo:r.go H n=(r.next 5,H.lock r.who r.s):=by simp[RP.go,p4]
   rw[hgo] at hk
   unfold qnmZ
   simp -implicitDefEqProofs
   exact hk T3 h4 (((o1.mono non_up).up o3 two_l).up o4 two_r) (y3.up o4 d2 gg.nil) x4
  unfold qhIZ qnzZ
  simp -implicitDefEqProofs[p3,p4]
  by_cases p6:r.ph=6
  ·unfold qnrZ
   simp -implicitDefEqProofs[p6,ld_at cp,cel_of cp,stm_at cp,stm_upd,ld_same,cel_same,over]
   refine read_ok r.who w1 ggh y1 hsn hg.n8 hg.ac' fun T3 h3 a c o3 y3 bk=>?_
   have x3:=x2.kp o3.k d1 ggh.nil
   have cp3:=x3.cp
   unfold qnqZ
   simp -implicitDefEqProofs[ld_at cp3,cel_of cp3,stm_at cp3,stm_upd,ld_same,cel_same,over]
   refine x3.up o3.wf (s:=r.s) bk fun h4 o4 x4=>?_
   have y4:=y3.up o4 (fun t ht e=>d2 t ht (e▸pre_app _ _)) (by simp)
   have oo:Only (two (pre gh) (pre g)) T h T3 h4:=(((o1.mono non_up).up o3 two_l).up o4 fun t e=>two_r _ (e▸pre_app _ _))
   have hgo:r.go H n=(RP.next { r with seen:=seenset r.seen r.s (H.ss r.s).book } 7,H.read r.who r.s):=by simp[RP.go,p6]
   rw[hgo] at hk
   refine rnext_ok 7 o4.wf gg ⟨uv,sv,ev,mr,vv,x4⟩ rg.at_ fun h5 o5 x5=>?_
   unfold qnpZ
   simp -implicitDefEqProofs
   exact hk T3 h5 (oo.up o5 two_r) (y4.up o5 d2 gg.nil) x5
  have p7:r.ph=7:=by have:=rs.ph; omega
  unfold qnyZ qnxZ
  simp -implicitDefEqProofs[p6,p7,ld_at cp,cel_of cp,stm_at cp,stm_upd,ld_same,cel_same,over]
  have hwh:=hg.wh r.s hsn
  refine unlock_ok r.who w1 ggh y1 hsn hg.n8 hg.ac' (by omega) fun T3 h3 o3 y3=>?_
  have x3:=x2.kp o3.k d1 ggh.nil
  have hgo:r.go H n=(if r.last then (r.next 8).answer else r.next 8,H.unlock r.who r.s):=by simp[RP.go,p7]
  rw[hgo] at hk
  unfold qnwZ
  simp -implicitDefEqProofs
  refine rnext_ok 8 o3.wf gg ⟨uv,sv,ev,mr,vv,x3⟩ rg.at_ fun h4 o4 x4=>?_
  have y4:=y3.up o4 d2 gg.nil
  have oo:Only (two (pre gh) (pre g)) T h T3 h4:=((o1.mono non_up).up o3 two_l).up o4 two_r
  unfold qnvZ
  cases hl:r.last with
  | false =>
   unfold qnuZ
   simp -implicitDefEqProofs only[hl] at hk
   simp -implicitDefEqProofs
   exact hk T3 h4 oo y4 x4
  | true =>
   simp -implicitDefEqProofs only[hl,if_true] at hk
   unfold qntZ
   simp -implicitDefEqProofs
   have hq:(r.next 8).vals=[]∧(r.next 8).users=r.users∧(r.next 8).of=r.of∧(r.next 8).seen=r.seen:=by unfold RP.next; split<;>exact⟨hvals,rfl,rfl,rfl⟩
   refine ranswer_ok o4.wf gg x4 hq.1 (by rw[hq.2.1]; exact rg.us) (by rw[hq.2.2.1]; exact rg.of) (by rw[hq.2.2.2]; exact rg.sn) fun T5 h5 o5 x5=>?_
   unfold qnsZ
   simp -implicitDefEqProofs
   exact hk T5 h5 (oo.up o5 two_r) (y4.up o5 d2 gg.nil) x5
end Go.Proofs.YtcnphhhcknhhaaaGreat
namespace Go.Proofs.YtcnphhhcknhhaaaGreat
open Go Go.Den Go.MapKept
set_option linter.unusedSimpArgs false
set_option linter.unusedVariables false
set_option maxRecDepth 20000
theorem bdProc (a b c d:Int)(s:Option Addr)(n m:Nat):bdV (binf P qCZ) [(0,.int .i64 a),(1,.slice s n m),(2,.int .i64 b),(13,.int .i64 c),(6,.int .i64 d)] =
 some (.agg #[.int .i64 a,.slice s n m,.int .i64 b,.slice none 0 0,.int .i64 0,.int .i64 0,.int .i64 d,.slice none 0 0,.bool false,.bool false,.map none,.int .u64 0,.int .u64 0,.bool false,.int .i64 0,.int .i64 c,.int .i64 0,.slice none 0 0,.slice none 0 0,.bool false]):=by kernel_rfl
theorem Sl.isSl {α:Type}{sz:Nat}{R:Heap→List Value→α→Prop}{h:Heap}{v:Value}{xs:List α}(x:Sl sz R h v xs):∃ s n m,v = .slice s n m:=by
 rcases x with ⟨_,a,c,rfl⟩ | ⟨b,o,cap,rfl,_⟩<;>exact⟨_,_,_,rfl⟩
theorem usersOf_le (x:OpD)(h:badB x=false):(usersOf x).length≤8:=by
 unfold badB at h
 unfold usersOf
 split
 ·simp -implicitDefEqProofs
 ·split
  ·rename_i h4 h5
   simp -implicitDefEqProofs[h5] at h
   omega
  ·simp -implicitDefEqProofs
variable {K:KTy}
theorem rnew_ok (who:Int)(x:OpD)(xw:OpW x){T:Tags}{h:Heap}{g gh:Tag}{q:Nat}{H:Hall}(w:Wf T h)(gg:Gd g)(ggh:Gd gh)(d2:Off (pre g) gh)(y:HallR T h gh q H){v:Value}(hv:Sl 1 StrR (fz T h) v x.users)(hl:x.users.length<1000000)(c8:H.c.stripes≤8)
  (hk:∀ T' h' p,Only (pre g) T h T' h'→RPR T' h' g p (rp0 H who x)→K (ptr p) h'):callM P qhpZ #[ptr q,.int .i64 who,.agg (opC x v).toArray] h K:=by
 apply qvrZ
 unfold qrRZ
 refine nw_agg fun v1 h1 n1 e1 c1=>?_
 simp -implicitDefEqProofs only[ld_at c1,opC]
 have oC:Value.agg #[.int .i64 x.kind,.string x.user,.int .i64 x.id,.int .i64 x.status,.int .i64 x.prio,.int .u64 x.ttl,v] = .agg (opC x v).toArray:=rfl
 simp -implicitDefEqProofs[oC]
 have o1:Only non T h T h1:=Only.of_ext w e1
 have eF:=fz_ext T h
 refine users_ok x xw o1.wf (hv.ext (@StrR.ext) (eF.trans e1)) hl fun uv h2 e2 us=>?_
 have o2:Only non T h1 T h2:=Only.of_ext o1.wf e2
 have y2:=(y.up o1 (Off.non _) (not_non _)).up o2 (Off.non _) (not_non _)
 unfold qtkZ
 refine config_ok y2 fun h3 e3=>?_
 have o3:Only non T h2 T h3:=Only.of_ext o2.wf e3
 have y3:=y2.up o3 (Off.non _) (not_non _)
 unfold qtjZ
 simp -implicitDefEqProofs[fdV,cfgC]
 refine config_ok y3 fun h4 e4=>?_
 have o4:Only non T h3 T h4:=Only.of_ext o3.wf e4
 have y4:=y3.up o4 (Off.non _) (not_non _)
 have us:=us.ext (@StrR.ext) (fz_of_ext (e3.trans e4))
 unfold qtiZ
 obtain⟨sa,sn,sm,rfl⟩:=Sl.isSl us
 simp -implicitDefEqProofs[fdV,cfgC,bdProc]
 refine nw_tag o4.wf (g++[0]) fun p T5 h5 n5 o5 t5 c5=>?_
 have cop:=o5.k.at (t:=[]) (e4 _ _ (e3 _ _ (e2 _ _ c1))) (w v1 n1) (not_non _)
 have us:=us.ext (@StrR.ext) (o5.ext (not_non _))
 have y5:=y4.up o5 (Off.non _) (not_non _)
 rw[seqM_eq]
 unfold qtgZ
 have cc:=cop.1
 simp -implicitDefEqProofs only[ld_at cc,opC]
 simp -implicitDefEqProofs[oC]
 have oh5:Only non T h T5 h5:=(((o1.trans o2).trans o3).trans o4).trans o5
 refine modBad_ok x xw (hv.ext (@StrR.ext) ((oh5.ext (not_non _)).trans (fz_ext _ _))) hl fun h6 e6=>?_
 have o6:Only non T5 h5 T5 h6:=Only.of_ext o5.wf e6
 have c6:=e6 _ _ c5
 have y6:=y5.up o6 (Off.non _) (not_non _)
 have us:=us.ext (@StrR.ext) (fz_of_ext e6)
 have tail:∀ (h7:Heap) (uv:Value) (us:List ByteArray),Only (pre g) T h T5 h7→h7 p=some (.cells #[.int .i64 who,uv,.int .i64 H.c.stripes,.slice none 0 0,.int .i64 0,.int .i64 0,.int .i64 H.c.retries,.slice none 0 0,.bool false,.bool false,.map none,.int .u64 0,.int .u64 0,.bool false,.int .i64 0,.int .i64 (-1),.int .i64 0,.slice none 0 0,.slice none 0 0,.bool false] qCZ (0,0)) →
   Sl 1 StrR (fz T5 h7) uv us→us=(if badB x then [] else usersOf x)→∀ s:Env,s 0=ptr q→s 7=ptr p→qpMZ s h7 K []:=by
  intro h7 uv us o7 c7 su hus s s0 s7
  have y7:=y.up o7 d2 gg.nil
  unfold qpMZ
  simp -implicitDefEqProofs[s0,s7,ld_at c7,cel_of c7,stm_at c7,stm_upd,ld_same,cel_same,over]
  refine config_ok y7 fun h8 e8=>?_
  have o8:Only non T5 h7 T5 h8:=Only.of_ext o7.wf e8
  have c8':=e8 _ _ c7
  have su:=su.ext (@StrR.ext) (fz_of_ext e8)
  have hle:us.length≤8:=by
   rw[hus]
   cases hb:badB x with
   | true=>simp
   | false=>simpa using usersOf_le x hb
  unfold qthZ
  simp -implicitDefEqProofs[ld_at c8',cel_of c8',stm_at c8',stm_upd,ld_same,cel_same,over,fdV,cfgC]
  refine stripes_ok us _ c8 o8.wf (su.ext (@StrR.ext) (fz_ext _ _)) (by omega) fun sv h9 e9 ss=>?_
  have o9:Only non T5 h8 T5 h9:=Only.of_ext o8.wf e9
  have c9:=e9 _ _ c8'
  have su:=su.ext (@StrR.ext) (fz_of_ext e9)
  have os:=ss.one
  unfold qsyZ
  simp -implicitDefEqProofs[s7,ld_at c9,cel_of c9,stm_at c9,stm_upd,ld_same,cel_same,over,os.1,os.2]
  have o10:=fun o'=>Only.upd (U:=pre g) (o':=o') o9.wf c9 (t5▸pre_app _ _)
  have e10:=fun o'=>(o10 o').ext gg.nil
  have hss:(stripesOf us H.c.stripes).length≤8:=by unfold stripesOf; exact ssTo_le us H.c.stripes 8
  refine rbegin_ok (r:=⟨who,us,H.c.stripes,stripesOf us H.c.stripes,0,0,H.c.retries,fun _=>0,false,false,fun _=>none,⟨0,0,false⟩,0,-1,0,[]⟩) (o10 _).wf gg (upd_same' _ _ _) t5 (su.ext (@StrR.ext) (e10 _)) (ss.ext (@NatR.ext) (e10 _)) (.inl ⟨rfl,_,_,rfl⟩) (fun _=>rfl) hss fun T11 h11 o11 x11=>?_
  unfold qsxZ
  simp -implicitDefEqProofs[s7]
  refine hk T11 h11 p ((((o7.up o8 non_up).up o9 non_up).trans (o10 _)).trans o11) ?_
  have:rp0 H who x=RP.begin ⟨who,us,H.c.stripes,stripesOf us H.c.stripes,0,0,H.c.retries,fun _=>0,false,false,fun _=>none,⟨0,0,false⟩,0,-1,0,[]⟩:=by rw[hus]; rfl
  rw[this]; exact x11
 have o06:Only (pre g) T h T5 h6:=(oh5.mono non_up).up o6 non_up
 unfold qtfZ qtdZ qteZ
 cases hb:badB x with
 | true =>
  simp -implicitDefEqProofs[ld_at c6,cel_of c6,stm_at c6,stm_upd,ld_same,cel_same,over]
  have o7:=fun o'=>Only.upd (U:=pre g) (o':=o') o6.wf c6 (t5▸pre_app _ _)
  refine tail _ (.slice none 0 0) [] (o06.trans (o7 _)) (upd_same' _ _ _) (.inl ⟨rfl,_,_,rfl⟩) (by simp[hb]) _ (by simp) (by simp)
 | false =>
  simp -implicitDefEqProofs
  exact tail h6 _ _ o06 c6 us (by simp[hb]) _ (by simp) (by simp)
end Go.Proofs.YtcnphhhcknhhaaaGreat
namespace Go.Proofs.YtcnphhhcknhhaaaGreat
open Go Go.Den Go.MapKept
set_option linter.unusedSimpArgs false
set_option linter.unusedVariables false
set_option maxRecDepth 20000
theorem cUnSess:P.underlying qhZ=some (.slice qfZ):=by kernel_rfl
theorem cApSess:apC P qfZ=some (4,32,4):=by kernel_rfl
theorem cBsSess:bsI P qhZ=some (qfZ,4,#[.int .i64 0,.int .i64 0,.int .i64 0,.int .u64 0]):=by kernel_rfl
theorem cZcSess:zc P qfZ=some #[.int .i64 0,.int .i64 0,.int .i64 0,.int .u64 0]:=by kernel_rfl
variable {K:KTy}
theorem cloneESess {v:Value}{n:Nat}{xs:List Value}{h:Heap}(x:SlC 4 h v n xs)(s:Sn v)(h1:∀ u∈xs,u.oneCell'=true)(hn:n<10000000)
  (hk:∀ v' h',Rf 4 qfZ h h' v' n xs→K v' h'):callM P qwZ #[v] h K:=by
 apply qhSZ
 unfold qavZ
 rcases x.nil_or s with ⟨rfl,rfl,rfl⟩ | ⟨a,c,rfl⟩
 ·have e:binV .eql 7 true (.slice none 0 0) (.slice none 0 0)=some (.bool true):=rfl
  simp only[e,ov_s,cd_b,true_implies]
  exact⟨hk _ _ (Rf.nil (Ext.refl h)),fun h=>(by cases h)⟩
 ·have e:binV .eql 7 true (.slice (some a) n c) (.slice none 0 0)=some (.bool false):=rfl
  simp only[e,ov_s,cd_b,true_implies]
  refine⟨fun h=>(by cases h),?_⟩
  unfold qbSZ
  refine bs_none cBsSess fun v2 h2 e2 r2 _ f2=>?_
  have r:Rf 4 qfZ h h2 v2 0 []:=⟨e2,r2,f2,by simp⟩
  have x2:SlC 4 h2 (.slice (some a) n c) n xs:=by
   rcases x with ⟨h1,h2,h3⟩ | ⟨b,o,cap,h1,h2⟩
   ·exact .inl ⟨h1,h2,h3⟩
   ·exact .inr ⟨b,o,cap,h1,cels_ext e2 h2⟩
  refine r.app cUnSess cApSess (by omega) x2 h1 (by unfold maxLen; omega) (by omega) fun v' h' r' _=>hk v' h' ?_
  simpa using r'
theorem insESess {v : Value} {n i a : Nat} {xs : List Value} {x : Array Value} {ex : TypeId} {h0 h : Heap} (r : Rf 4 qfZ h0 h v n xs) (hx : x.size = 4) (ha : h a = some (.cells x ex (0, 0))) (hra : rowOf v ≠ some a) (hi : i ≤ n) (hn : n < 10000000) (h1 : ∀ u ∈ x.toList, u.oneCell' = true)
    (hk : ∀ v' h', Rf 4 qfZ h0 h' v' (n + 1) (xs.take (i * 4) ++ x.toList ++ xs.drop (i * 4)) → (∀ b o, h b = some o → rowOf v ≠ some b → h' b = some o) → K v' h') : callM P qakZ #[v, .int .i64 i, .slice (some ⟨a, 0, none⟩) 1 1] h K := by
  apply qgEZ
  unfold qanZ qbNZ
  have hlen : lnV 7 v = some (.int .i64 n) := by rcases r.row.2 with ⟨rfl, rfl⟩ | ⟨_, _, _, rfl, _⟩ <;> rfl
  have hsl : ∃ y, slV (some (none, 4)) v (some (.int .i64 i)) none = some y := by
    have : 0 ≤ (i : Int) ∧ (i : Int) ≤ n := by omega
    rcases r.row.2 with ⟨rfl, rfl⟩ | ⟨_, _, _, rfl, _⟩ <;> simp only [slV, bnd, this, and_self, if_true] <;> exact ⟨_, rfl⟩
  obtain ⟨y, hsl⟩ := hsl
  have e1 : lnV 7 (.slice (some ⟨a, 0, none⟩) 1 1) = some (.int .i64 (1 : Nat)) := rfl
  have e2 : binV .eql 2 true (.int .i64 (1 : Nat)) (.int .i64 0) = some (.bool false) := rfl
  simp only [hsl, hlen, e1, e2, ov_s, cd_b, true_implies]
  refine ⟨fun h => (by cases h), ?_⟩
  have e3 : binV .eql 2 false (.int .i64 (i : Int)) (.int .i64 (n : Int)) = some (.bool (decide (i = n))) := by
    simp [Int.natCast_inj]
  simp only [e3, ov_s, cd_b]
  refine ⟨fun hin => ?_, fun hin => ?_⟩
  · have hin : i = n := by simpa using hin
    subst hin
    refine r.app cUnSess cApSess (by omega) (slc_one ha hx) h1 (by unfold maxLen; omega) (by omega) fun v' h' r' kb' => hk v' h' ?_ kb'
    have hl : xs.length = i * 4 := r.row.1
    rw [List.take_of_length_le (by omega), List.drop_eq_nil_of_le (by omega), List.append_nil]
    exact r'
  have hin : i < n := by have : ¬ i = n := by simpa using hin
                         omega
  obtain ⟨g, cap, cur, rfl, hg0, hg, hcap, hcm, hcs, hct⟩ := r.own (by omega)
  have hga : g ≠ a := fun e => hra (by simp [rowOf, e])
  unfold qbMZ
  have w1 : IntKind.i64.wrap ((n : Int) + (1 : Nat)) = (n + 1 : Nat) := by rw [wrap64_id (by omega) (by omega)]; omega
  have hl : xs.length = n * 4 := r.row.1
  have hmul : n * 4 ≤ cap * 4 := Nat.mul_le_mul_right _ hcap
  simp only [bin_add, w1, ov_s]
  refine cap_vv cUnSess ?_
  unfold qbLZ
  simp only [bin_gtr, ov_s, cd_b]
  have celx : ∀ o m, o + m ≤ n * 4 → cels h g o m = some ((xs.drop o).take m) := fun o m hom => r.row.cels rfl hom
  have one_take : ∀ o m, ∀ u ∈ (xs.drop o).take m, u.oneCell' = true := fun o m u hu => r.one u (List.mem_of_mem_drop (List.mem_of_mem_take hu))
  refine ⟨fun hgr => ?_, fun hgr => ?_⟩
  · -- there is no room
    have hgr : cap < n + 1 := by have : ((cap : Int) < (n + 1 : Nat)) := by simpa using hgr
                                 omega
    have s1 : slV (some (none, 4)) (.slice (some ⟨g, 0, none⟩) n cap) none (some (.int .i64 i)) = some (.slice (some ⟨g, 0, none⟩) i cap) := by
      have : (i : Int) ≤ cap := by omega
      simp [slV, bnd, this, Addr.add_lit, show ¬ cap = 0 by omega]
    have w2 : IntKind.i64.wrap (((n + 1 : Nat) : Int) - i) = (n + 1 - i : Nat) := by rw [wrap64_id (by omega) (by omega)]; omega
    unfold qbHZ
    simp only [s1, bin_sub, bin_add, w1, w2, ov_s]
    have hii : i * 4 ≤ n * 4 := Nat.mul_le_mul_right _ (by omega)
    refine app_zeros (olds := xs.take (i * 4)) cUnSess (show P.underlying qpZ = some (.int .i64) by kernel_rfl) cApSess (by omega) (by have := celx 0 (i * 4) (by omega); simpa using this) (by omega) (by omega) (by unfold maxLen; omega) (by omega) fun b' cap' cur' hb' hc1 hc2 hc3 hc4 => ?_
    have ei : i + (n + 1 - i) = n + 1 := by omega
    rw [ei] at hc1 ⊢
    have hmul' : (n + 1) * 4 ≤ cap' * 4 := Nat.mul_le_mul_right _ hc1
    have hi1 : (i + 1) * 4 ≤ n * 4 := Nat.mul_le_mul_right _ hin
    have s2 : ∀ j : Nat, j ≤ n → slV (some (none, 4)) (.slice (some ⟨b', 0, none⟩) (n + 1) cap') (some (.int .i64 j)) none = some (.slice (some ⟨b', j * 4, none⟩) (n + 1 - j) (cap' - j)) := fun j hj => by
      have : (j : Int) ≤ (n + 1 : Nat) := by omega
      have h2 : ¬ cap' = j := by omega
      have h3 : (j : Int) ≤ (n : Int) + 1 := by omega
      simp [slV, bnd, h3, h2, Addr.add_lit]
    have s3 : slV (some (none, 4)) (.slice (some ⟨g, 0, none⟩) n cap) (some (.int .i64 i)) none = some (.slice (some ⟨g, i * 4, none⟩) (n - i) (cap - i)) := by
      have : (i : Int) ≤ n := by omega
      simp [slV, bnd, this, show ¬ cap = i by omega, Addr.add_lit]
    unfold qbGZ
    simp only [s2 i (by omega), ov_s]
    have hb'a : a ≠ b' := fun e => by subst e; rw [hb'] at ha; cases ha
    have hb'g : g ≠ b' := fun e => by subst e; rw [hb'] at hg; cases hg
    have m1 : min 1 (n + 1 - i) = 1 := by omega
    refine copy_vv cUnSess cApSess (cs := x.toList) (upd_same' _ _ _) ?_ (by rw [m1, hc3]; omega) h1 ?_
    · rw [m1, cels_skip hb'a]
      exact cels_of ha (by rw [List.drop_zero, List.take_of_length_le (by rw [Array.length_toList, hx]; omega)]) (by simpa using hx)
    unfold qbFZ
    have w3 : IntKind.i64.wrap ((i : Int) + (1 : Nat)) = (i + 1 : Nat) := by rw [wrap64_id (by omega) (by omega)]; omega
    simp only [bin_add, w3, s2 (i + 1) (by omega), s3, ov_s, upd_upd]
    have m2 : min (n - i) (n + 1 - (i + 1)) = n - i := by omega
    have e5 : i * 4 + (n - i) * 4 = n * 4 := by rw [← Nat.add_mul]; congr 1; omega
    have e6 : (i + 1) * 4 + (n - i) * 4 = (n + 1) * 4 := by rw [← Nat.add_mul]; congr 1; omega
    refine copy_vv cUnSess cApSess (cs := (xs.drop (i * 4)).take ((n - i) * 4)) (upd_same' _ _ _) ?_ (by rw [m2, over_size, hc3]; omega) (one_take _ _) ?_
    · rw [m2, cels_skip hb'g]
      exact celx _ _ (by omega)
    rw [upd_upd]
    have hb0 : h0 b' = none := fresh_of r.ex hb'
    have hdl : (xs.drop (i * 4)).take ((n - i) * 4) = xs.drop (i * 4) := List.take_of_length_le (by simp [hl] <;> omega)
    refine hk _ _ ⟨ext_upd hb0 r.ex, ⟨by simp [hl, hx] <;> omega, .inr ⟨b', cap', _, rfl, upd_same' _ _ _, hc1, hc2, by simp [over_size, hc3], ?_⟩⟩, fun b hb => by simp [rowOf] at hb; subst hb; exact hb0, fun u hu => ?_⟩ fun b o hb _ => by rw [upd_ne (fun hh => by rw [hh, hb'] at hb; cases hb)]; exact hb
    · rw [hdl]
      have l1 : (xs.drop (i * 4)).length = (n - i) * 4 := by simp [hl] <;> omega
      have cl : cur'.toList.length = cap' * 4 := by simpa using hc3
      rw [over_list (by rw [over_size, hc3, l1]; omega), over_list (by rw [hc3, Array.length_toList, hx]; omega)]
      have x1 : x.toList.length = 4 := by simpa using hx
      have e7 : spl cur'.toList (i * 4) x.toList = xs.take (i * 4) ++ x.toList ++ cur'.toList.drop (i * 4 + 4) := by
        unfold spl; rw [hc4, x1]
      have e8 : (i + 1) * 4 = (xs.take (i * 4) ++ x.toList).length := by simp [hl, hx] <;> omega
      have e9 : (xs.take (i * 4) ++ x.toList ++ xs.drop (i * 4)).length = (n + 1) * 4 := by simp [hl, hx] <;> omega
      rw [e7]
      unfold spl
      rw [e8, List.take_left, List.take_left' e9]
    · simp only [List.mem_append] at hu
      rcases hu with (hu | hu) | hu
      · exact r.one u (List.mem_of_mem_take hu)
      · exact h1 u hu
      · exact r.one u (List.mem_of_mem_drop hu)
  · -- there is room
    have hgr : n + 1 ≤ cap := by have : ¬ ((cap : Int) < (n + 1 : Nat)) := by simpa using hgr
                                 omega
    have hmul' : (n + 1) * 4 ≤ cap * 4 := Nat.mul_le_mul_right _ hgr
    have hi1 : (i + 1) * 4 ≤ n * 4 := Nat.mul_le_mul_right _ hin
    have s1 : slV (some (none, 4)) (.slice (some ⟨g, 0, none⟩) n cap) none (some (.int .i64 (n + 1 : Nat))) = some (.slice (some ⟨g, 0, none⟩) (n + 1) cap) := by
      have : ((n + 1 : Nat) : Int) ≤ cap := by omega
      have h3 : 0 ≤ (n : Int) + 1 ∧ (n : Int) + 1 ≤ cap := by omega
      simp [slV, bnd, h3, Addr.add_lit, show ¬ cap = 0 by omega]
    have w3 : IntKind.i64.wrap ((i : Int) + (1 : Nat)) = (i + 1 : Nat) := by rw [wrap64_id (by omega) (by omega)]; omega
    have s2 : ∀ j : Nat, j ≤ n → slV (some (none, 4)) (.slice (some ⟨g, 0, none⟩) (n + 1) cap) (some (.int .i64 j)) none = some (.slice (some ⟨g, j * 4, none⟩) (n + 1 - j) (cap - j)) := fun j hj => by
      have h2 : ¬ cap = j := by omega
      have h3 : (j : Int) ≤ (n : Int) + 1 := by omega
      simp [slV, bnd, h3, h2, Addr.add_lit]
    unfold qbKZ
    simp only [bin_add, w1, w3, s1, s2 (i + 1) (by omega), ov_s]
    refine overlaps_nx (tS := qhZ) (tR := qtMZ) (f := qfAZ) (by kernel_rfl) (by kernel_rfl) (by kernel_rfl) (by kernel_rfl) cUnSess cApSess (Ne.symm hga) ha hg (by rw [hcs]; omega) ?_
    unfold qbJZ
    simp only [unV_n, ov_s, cd_b, Bool.not_false, true_implies]
    refine ⟨?_, fun h => (by cases h)⟩
    unfold qbIZ
    simp only [bin_add, w3, s2 (i + 1) (by omega), s2 i (by omega), ov_s]
    have m2 : min (n + 1 - i) (n + 1 - (i + 1)) = n - i := by omega
    have e5 : i * 4 + (n - i) * 4 = n * 4 := by rw [← Nat.add_mul]; congr 1; omega
    have e6 : (i + 1) * 4 + (n - i) * 4 = (n + 1) * 4 := by rw [← Nat.add_mul]; congr 1; omega
    refine copy_vv cUnSess cApSess (cs := (xs.drop (i * 4)).take ((n - i) * 4)) hg ?_ (by rw [m2, hcs]; omega) (one_take _ _) ?_
    · rw [m2]; exact celx _ _ (by omega)
    try unfold qbBZ
    try simp only [s2 i (by omega), ov_s]
    have m1 : min 1 (n + 1 - i) = 1 := by omega
    refine copy_vv cUnSess cApSess (cs := x.toList) (upd_same' _ _ _) ?_ (by rw [m1, over_size, hcs]; omega) h1 ?_
    · rw [m1, cels_skip (Ne.symm hga)]
      exact cels_of ha (by rw [List.drop_zero, List.take_of_length_le (by rw [Array.length_toList, hx]; omega)]) (by simpa using hx)
    rw [upd_upd]
    have hdl : (xs.drop (i * 4)).take ((n - i) * 4) = xs.drop (i * 4) := List.take_of_length_le (by simp [hl] <;> omega)
    refine hk _ _ ⟨ext_upd hg0 r.ex, ⟨by simp [hl, hx] <;> omega, .inr ⟨g, cap, _, rfl, upd_same' _ _ _, hgr, hcm, by simp [over_size, hcs], ?_⟩⟩, fun b hb => by simp [rowOf] at hb; subst hb; exact hg0, fun u hu => ?_⟩ fun b o hb hn => by rw [upd_ne (fun hh => hn (by rw [hh]; rfl))]; exact hb
    · rw [hdl]
      have l1 : (xs.drop (i * 4)).length = (n - i) * 4 := by simp [hl] <;> omega
      have cl : cur.toList.length = cap * 4 := by simpa using hcs
      have x1 : x.toList.length = 4 := by simpa using hx
      rw [over_list (by rw [over_size, hcs, x1]; omega), over_list (by rw [hcs, l1]; omega)]
      have e10 : cur.toList.take (i * 4) = xs.take (i * 4) := by rw [← hct, List.take_take, Nat.min_eq_left (by omega)]
      exact spl_ins e10 (by rw [x1]; omega) (by omega) (by rw [l1]; omega) (by omega)
    · simp only [List.mem_append] at hu
      rcases hu with (hu | hu) | hu
      · exact r.one u (List.mem_of_mem_take hu)
      · exact h1 u hu
      · exact r.one u (List.mem_of_mem_drop hu)
theorem delESess {v : Value} {n i : Nat} {xs : List Value} {h0 h : Heap} (r : Rf 4 qfZ h0 h v n xs) (hi : i < n) (hn : n < 10000000)
    (hk : ∀ v' h', Rf 4 qfZ h0 h' v' (n - 1) (xs.take (i * 4) ++ xs.drop ((i + 1) * 4)) → K v' h') : callM P qalZ #[v, .int .i64 i, .int .i64 (i + 1 : Nat)] h K := by
  apply qgFZ
  unfold qaoZ
  obtain ⟨g, cap, cur, rfl, hg0, hg, hcap, hcm, hcs, hct⟩ := r.own (by omega)
  have hl : xs.length = n * 4 := r.row.1
  have hmul : n * 4 ≤ cap * 4 := Nat.mul_le_mul_right _ hcap
  have hi1 : (i + 1) * 4 ≤ n * 4 := Nat.mul_le_mul_right _ hi
  have hlen : lnV 7 (.slice (some ⟨g, 0, none⟩) n cap) = some (.int .i64 n) := rfl
  have s0 : ∃ y, sl3V (some (none, 4)) (.slice (some ⟨g, 0, none⟩) n cap) (some (.int .i64 i)) (.int .i64 (i + 1 : Nat)) (.int .i64 n) = some y := by
    have h1 : (n : Int) ≤ cap := by omega
    have h2 : (0 : Int) ≤ (i : Int) + 1 ∧ (i : Int) + 1 ≤ n := by omega
    have h3 : (i : Int) ≤ (i : Int) + 1 := by omega
    have h4 : i ≤ ((i : Int) + 1).toNat := by omega
    simp [sl3V, bnd, h1, h2, h3]
  obtain ⟨y, s0⟩ := s0
  have e3 : binV .eql 2 false (.int .i64 (i : Int)) (.int .i64 (i + 1 : Nat)) = some (.bool false) := by
    have : ¬ (i : Int) = (i + 1 : Nat) := by omega
    simp [-Int.natCast_add, this]
  simp only [hlen, s0, e3, ov_s, cd_b, true_implies]
  refine ⟨fun h => (by cases h), ?_⟩
  unfold qbPZ
  have s1 : slV (some (none, 4)) (.slice (some ⟨g, 0, none⟩) n cap) none (some (.int .i64 i)) = some (.slice (some ⟨g, 0, none⟩) i cap) := by
    have : (i : Int) ≤ cap := by omega
    simp [slV, bnd, this, Addr.add_lit, show ¬ cap = 0 by omega]
  have s2 : ∃ q, slV (some (none, 4)) (.slice (some ⟨g, 0, none⟩) n cap) (some (.int .i64 (i + 1 : Nat))) none = some (.slice (some ⟨g, q, none⟩) (n - (i + 1)) (cap - (i + 1))) ∧ cels h g q ((n - (i + 1)) * 4) = some (xs.drop ((i + 1) * 4)) := by
    have h3 : (0 : Int) ≤ (i : Int) + 1 ∧ (i : Int) + 1 ≤ n := by omega
    have h4 : ((i : Int) + 1).toNat = i + 1 := by omega
    by_cases hc : cap = i + 1
    · refine ⟨0, by simp [slV, bnd, h3, h4, hc, show n = i + 1 by omega], ?_⟩
      have : n - (i + 1) = 0 := by omega
      rw [this, List.drop_eq_nil_of_le (by rw [hl]; have : n = i + 1 := by omega
                                           subst this; omega)]
      simp [cels]
    · refine ⟨(i + 1) * 4, by simp [slV, bnd, h3, h4, hc, Addr.add_lit], ?_⟩
      have e5 : (i + 1) * 4 + (n - (i + 1)) * 4 = n * 4 := by rw [← Nat.add_mul]; congr 1; omega
      rw [r.row.cels (g := g) rfl (by omega), List.take_of_length_le (by simp [hl] <;> omega)]
  obtain ⟨q, s2, s3⟩ := s2
  simp only [hlen, s1, s2, ov_s]
  have e5 : i * 4 + (n - (i + 1)) * 4 = (n - 1) * 4 := by rw [← Nat.add_mul]; congr 1; omega
  have e6 : (n - 1) * 4 ≤ n * 4 := Nat.mul_le_mul_right _ (by omega)
  refine app_fit cUnSess cApSess hg s3 (by rw [hcs]; omega) (by omega) (fun u hu => r.one u (List.mem_of_mem_drop hu)) ?_
  unfold qbOZ
  have e7 : i + (n - (i + 1)) = n - 1 := by omega
  rw [e7]
  have s4 : slV (some (none, 4)) (.slice (some ⟨g, 0, none⟩) (n - 1) cap) (some (.int .i64 (n - 1 : Nat))) (some (.int .i64 n)) = some (.slice (some ⟨g, (n - 1) * 4, none⟩) (n - (n - 1)) (cap - (n - 1))) := by
    have h1 : (n : Int) ≤ cap := by omega
    have h2 : ((n - 1 : Nat) : Int) ≤ n := by omega
    simp [slV, bnd, h1, h2, show ¬ cap = n - 1 by omega, Addr.add_lit]
  have hlen2 : lnV 7 (.slice (some ⟨g, 0, none⟩) (n - 1) cap) = some (.int .i64 (n - 1 : Nat)) := rfl
  simp only [hlen2, s4, ov_s]
  have l1 : (xs.drop ((i + 1) * 4)).length = (n - (i + 1)) * 4 := by rw [List.length_drop, hl, ← Nat.sub_mul]
  have l2 : (xs.take (i * 4)).length = i * 4 := by rw [List.length_take, hl]; omega
  have e8 : (n - 1) * 4 + (n - (n - 1)) * 4 = n * 4 := by rw [← Nat.add_mul]; congr 1; omega
  have cl : cur.toList.length = cap * 4 := by simpa using hcs
  have e9 : (over cur (0 + i * 4) (xs.drop ((i + 1) * 4))).toList = xs.take (i * 4) ++ xs.drop ((i + 1) * 4) ++ cur.toList.drop (0 + i * 4 + (n - (i + 1)) * 4) := by
    rw [over_list (by rw [hcs, l1]; omega)]
    unfold spl
    rw [l1]
    congr 2
    rw [← hct, List.take_take, Nat.min_eq_left (by omega), Nat.zero_add]
  have e10 : (xs.take (i * 4) ++ xs.drop ((i + 1) * 4)).length = (n - 1) * 4 := by rw [List.length_append, l1, l2, e5]
  refine clear_vv cUnSess cApSess (fun z hz => by rw [cZcSess] at hz; cases hz; rfl) (by omega) (upd_same' _ _ _) (by rw [over_size, hcs]; omega) (fun hz => by omega) fun cs hcs' => ?_
  rw [upd_upd]
  refine hk _ _ ⟨ext_upd hg0 r.ex, ⟨e10, .inr ⟨g, cap, _, rfl, upd_same' _ _ _, by omega, hcm, by simp [over_size, hcs], ?_⟩⟩, fun b hb => by simp [rowOf] at hb; subst hb; exact hg0, fun u hu => ?_⟩
  · rw [over_list (by rw [over_size, hcs, hcs']; omega), e9]
    unfold spl
    rw [List.append_assoc ((xs.take (i * 4) ++ xs.drop ((i + 1) * 4) ++ _).take _), List.take_append_of_le_length (by rw [List.length_take]; simp only [List.length_append, List.length_drop, l1, l2, cl]; omega), List.take_take, Nat.min_self]
    exact List.take_left' e10
  · simp only [List.mem_append] at hu
    rcases hu with hu | hu
    · exact r.one u (List.mem_of_mem_take hu)
    · exact r.one u (List.mem_of_mem_drop hu)
theorem cUnStr:P.underlying qiZ=some (.slice qaHZ):=by kernel_rfl
theorem cApStr:apC P qaHZ=some (1,16,1):=by kernel_rfl
theorem cBsStr:bsI P qiZ=some (qaHZ,1,#[.string ⟨#[]⟩]):=by kernel_rfl
theorem cZcStr:zc P qaHZ=some #[.string ⟨#[]⟩]:=by kernel_rfl
theorem cloneEStr {v:Value}{n:Nat}{xs:List Value}{h:Heap}(x:SlC 1 h v n xs)(s:Sn v)(h1:∀ u∈xs,u.oneCell'=true)(hn:n<10000000)
  (hk:∀ v' h',Rf 1 qaHZ h h' v' n xs→K v' h'):callM P qmZ #[v] h K:=by
 apply qooZ
 unfold qcGZ
 rcases x.nil_or s with ⟨rfl,rfl,rfl⟩ | ⟨a,c,rfl⟩
 ·have e:binV .eql 7 true (.slice none 0 0) (.slice none 0 0)=some (.bool true):=rfl
  simp only[e,ov_s,cd_b,true_implies]
  exact⟨hk _ _ (Rf.nil (Ext.refl h)),fun h=>(by cases h)⟩
 ·have e:binV .eql 7 true (.slice (some a) n c) (.slice none 0 0)=some (.bool false):=rfl
  simp only[e,ov_s,cd_b,true_implies]
  refine⟨fun h=>(by cases h),?_⟩

  refine bs_none cBsStr fun v2 h2 e2 r2 _ f2=>?_
  have r:Rf 1 qaHZ h h2 v2 0 []:=⟨e2,r2,f2,by simp⟩
  have x2:SlC 1 h2 (.slice (some a) n c) n xs:=by
   rcases x with ⟨h1,h2,h3⟩ | ⟨b,o,cap,h1,h2⟩
   ·exact .inl ⟨h1,h2,h3⟩
   ·exact .inr ⟨b,o,cap,h1,cels_ext e2 h2⟩
  refine r.app cUnStr cApStr (by omega) x2 h1 (by unfold maxLen; omega) (by omega) fun v' h' r' _=>hk v' h' ?_
  simpa using r'
theorem insEStr {v : Value} {n i a : Nat} {xs : List Value} {x : Array Value} {ex : TypeId} {h0 h : Heap} (r : Rf 1 qaHZ h0 h v n xs) (hx : x.size = 1) (ha : h a = some (.cells x ex (0, 0))) (hra : rowOf v ≠ some a) (hi : i ≤ n) (hn : n < 10000000) (h1 : ∀ u ∈ x.toList, u.oneCell' = true)
    (hk : ∀ v' h', Rf 1 qaHZ h0 h' v' (n + 1) (xs.take (i * 1) ++ x.toList ++ xs.drop (i * 1)) → (∀ b o, h b = some o → rowOf v ≠ some b → h' b = some o) → K v' h') : callM P qgZ #[v, .int .i64 i, .slice (some ⟨a, 0, none⟩) 1 1] h K := by
  apply qmlZ
  unfold qcrZ qfbZ
  have hlen : lnV 7 v = some (.int .i64 n) := by rcases r.row.2 with ⟨rfl, rfl⟩ | ⟨_, _, _, rfl, _⟩ <;> rfl
  have hsl : ∃ y, slV (some (none, 1)) v (some (.int .i64 i)) none = some y := by
    have : 0 ≤ (i : Int) ∧ (i : Int) ≤ n := by omega
    rcases r.row.2 with ⟨rfl, rfl⟩ | ⟨_, _, _, rfl, _⟩ <;> simp only [slV, bnd, this, and_self, if_true] <;> exact ⟨_, rfl⟩
  obtain ⟨y, hsl⟩ := hsl
  have e1 : lnV 7 (.slice (some ⟨a, 0, none⟩) 1 1) = some (.int .i64 (1 : Nat)) := rfl
  have e2 : binV .eql 2 true (.int .i64 (1 : Nat)) (.int .i64 0) = some (.bool false) := rfl
  simp only [hsl, hlen, e1, e2, ov_s, cd_b, true_implies]
  refine ⟨fun h => (by cases h), ?_⟩
  have e3 : binV .eql 2 false (.int .i64 (i : Int)) (.int .i64 (n : Int)) = some (.bool (decide (i = n))) := by
    simp [Int.natCast_inj]
  simp only [e3, ov_s, cd_b]
  refine ⟨fun hin => ?_, fun hin => ?_⟩
  · have hin : i = n := by simpa using hin
    subst hin
    refine r.app cUnStr cApStr (by omega) (slc_one ha hx) h1 (by unfold maxLen; omega) (by omega) fun v' h' r' kb' => hk v' h' ?_ kb'
    have hl : xs.length = i * 1 := r.row.1
    rw [List.take_of_length_le (by omega), List.drop_eq_nil_of_le (by omega), List.append_nil]
    exact r'
  have hin : i < n := by have : ¬ i = n := by simpa using hin
                         omega
  obtain ⟨g, cap, cur, rfl, hg0, hg, hcap, hcm, hcs, hct⟩ := r.own (by omega)
  have hga : g ≠ a := fun e => hra (by simp [rowOf, e])
  unfold qfaZ
  have w1 : IntKind.i64.wrap ((n : Int) + (1 : Nat)) = (n + 1 : Nat) := by rw [wrap64_id (by omega) (by omega)]; omega
  have hl : xs.length = n * 1 := r.row.1
  have hmul : n * 1 ≤ cap * 1 := Nat.mul_le_mul_right _ hcap
  simp only [bin_add, w1, ov_s]
  refine cap_vv cUnStr ?_
  unfold qeZZ
  simp only [bin_gtr, ov_s, cd_b]
  have celx : ∀ o m, o + m ≤ n * 1 → cels h g o m = some ((xs.drop o).take m) := fun o m hom => r.row.cels rfl hom
  have one_take : ∀ o m, ∀ u ∈ (xs.drop o).take m, u.oneCell' = true := fun o m u hu => r.one u (List.mem_of_mem_drop (List.mem_of_mem_take hu))
  refine ⟨fun hgr => ?_, fun hgr => ?_⟩
  · -- there is no room
    have hgr : cap < n + 1 := by have : ((cap : Int) < (n + 1 : Nat)) := by simpa using hgr
                                 omega
    have s1 : slV (some (none, 1)) (.slice (some ⟨g, 0, none⟩) n cap) none (some (.int .i64 i)) = some (.slice (some ⟨g, 0, none⟩) i cap) := by
      have : (i : Int) ≤ cap := by omega
      simp [slV, bnd, this, Addr.add_lit, show ¬ cap = 0 by omega]
    have w2 : IntKind.i64.wrap (((n + 1 : Nat) : Int) - i) = (n + 1 - i : Nat) := by rw [wrap64_id (by omega) (by omega)]; omega
    unfold qeVZ
    simp only [s1, bin_sub, bin_add, w1, w2, ov_s]
    have hii : i * 1 ≤ n * 1 := Nat.mul_le_mul_right _ (by omega)
    refine app_zeros (olds := xs.take (i * 1)) cUnStr (show P.underlying qpZ = some (.int .i64) by kernel_rfl) cApStr (by omega) (by have := celx 0 (i * 1) (by omega); simpa using this) (by omega) (by omega) (by unfold maxLen; omega) (by omega) fun b' cap' cur' hb' hc1 hc2 hc3 hc4 => ?_
    have ei : i + (n + 1 - i) = n + 1 := by omega
    rw [ei] at hc1 ⊢
    have hmul' : (n + 1) * 1 ≤ cap' * 1 := Nat.mul_le_mul_right _ hc1
    have hi1 : (i + 1) * 1 ≤ n * 1 := Nat.mul_le_mul_right _ hin
    have s2 : ∀ j : Nat, j ≤ n → slV (some (none, 1)) (.slice (some ⟨b', 0, none⟩) (n + 1) cap') (some (.int .i64 j)) none = some (.slice (some ⟨b', j * 1, none⟩) (n + 1 - j) (cap' - j)) := fun j hj => by
      have : (j : Int) ≤ (n + 1 : Nat) := by omega
      have h2 : ¬ cap' = j := by omega
      have h3 : (j : Int) ≤ (n : Int) + 1 := by omega
      simp [slV, bnd, h3, h2, Addr.add_lit]
    have s3 : slV (some (none, 1)) (.slice (some ⟨g, 0, none⟩) n cap) (some (.int .i64 i)) none = some (.slice (some ⟨g, i * 1, none⟩) (n - i) (cap - i)) := by
      have : (i : Int) ≤ n := by omega
      simp [slV, bnd, this, show ¬ cap = i by omega, Addr.add_lit]
    unfold qeUZ
    simp only [s2 i (by omega), ov_s]
    have hb'a : a ≠ b' := fun e => by subst e; rw [hb'] at ha; cases ha
    have hb'g : g ≠ b' := fun e => by subst e; rw [hb'] at hg; cases hg
    have m1 : min 1 (n + 1 - i) = 1 := by omega
    refine copy_vv cUnStr cApStr (cs := x.toList) (upd_same' _ _ _) ?_ (by rw [m1, hc3]; omega) h1 ?_
    · rw [m1, cels_skip hb'a]
      exact cels_of ha (by rw [List.drop_zero, List.take_of_length_le (by rw [Array.length_toList, hx]; omega)]) (by simpa using hx)
    unfold qeTZ
    have w3 : IntKind.i64.wrap ((i : Int) + (1 : Nat)) = (i + 1 : Nat) := by rw [wrap64_id (by omega) (by omega)]; omega
    simp only [bin_add, w3, s2 (i + 1) (by omega), s3, ov_s, upd_upd]
    have m2 : min (n - i) (n + 1 - (i + 1)) = n - i := by omega
    have e5 : i * 1 + (n - i) * 1 = n * 1 := by rw [← Nat.add_mul]; congr 1; omega
    have e6 : (i + 1) * 1 + (n - i) * 1 = (n + 1) * 1 := by rw [← Nat.add_mul]; congr 1; omega
    refine copy_vv cUnStr cApStr (cs := (xs.drop (i * 1)).take ((n - i) * 1)) (upd_same' _ _ _) ?_ (by rw [m2, over_size, hc3]; omega) (one_take _ _) ?_
    · rw [m2, cels_skip hb'g]
      exact celx _ _ (by omega)
    rw [upd_upd]
    have hb0 : h0 b' = none := fresh_of r.ex hb'
    have hdl : (xs.drop (i * 1)).take ((n - i) * 1) = xs.drop (i * 1) := List.take_of_length_le (by simp [hl] <;> omega)
    refine hk _ _ ⟨ext_upd hb0 r.ex, ⟨by simp [hl, hx] <;> omega, .inr ⟨b', cap', _, rfl, upd_same' _ _ _, hc1, hc2, by simp [over_size, hc3], ?_⟩⟩, fun b hb => by simp [rowOf] at hb; subst hb; exact hb0, fun u hu => ?_⟩ fun b o hb _ => by rw [upd_ne (fun hh => by rw [hh, hb'] at hb; cases hb)]; exact hb
    · rw [hdl]
      have l1 : (xs.drop (i * 1)).length = (n - i) * 1 := by simp [hl] <;> omega
      have cl : cur'.toList.length = cap' * 1 := by simpa using hc3
      rw [over_list (by rw [over_size, hc3, l1]; omega), over_list (by rw [hc3, Array.length_toList, hx]; omega)]
      have x1 : x.toList.length = 1 := by simpa using hx
      have e7 : spl cur'.toList (i * 1) x.toList = xs.take (i * 1) ++ x.toList ++ cur'.toList.drop (i * 1 + 1) := by
        unfold spl; rw [hc4, x1]
      have e8 : (i + 1) * 1 = (xs.take (i * 1) ++ x.toList).length := by simp [hl, hx] <;> omega
      have e9 : (xs.take (i * 1) ++ x.toList ++ xs.drop (i * 1)).length = (n + 1) * 1 := by simp [hl, hx] <;> omega
      rw [e7]
      unfold spl
      rw [e8, List.take_left, List.take_left' e9]
    · simp only [List.mem_append] at hu
      rcases hu with (hu | hu) | hu
      · exact r.one u (List.mem_of_mem_take hu)
      · exact h1 u hu
      · exact r.one u (List.mem_of_mem_drop hu)
  · -- there is room
    have hgr : n + 1 ≤ cap := by have : ¬ ((cap : Int) < (n + 1 : Nat)) := by simpa using hgr
                                 omega
    have hmul' : (n + 1) * 1 ≤ cap * 1 := Nat.mul_le_mul_right _ hgr
    have hi1 : (i + 1) * 1 ≤ n * 1 := Nat.mul_le_mul_right _ hin
    have s1 : slV (some (none, 1)) (.slice (some ⟨g, 0, none⟩) n cap) none (some (.int .i64 (n + 1 : Nat))) = some (.slice (some ⟨g, 0, none⟩) (n + 1) cap) := by
      have : ((n + 1 : Nat) : Int) ≤ cap := by omega
      have h3 : 0 ≤ (n : Int) + 1 ∧ (n : Int) + 1 ≤ cap := by omega
      simp [slV, bnd, h3, Addr.add_lit, show ¬ cap = 0 by omega]
    have w3 : IntKind.i64.wrap ((i : Int) + (1 : Nat)) = (i + 1 : Nat) := by rw [wrap64_id (by omega) (by omega)]; omega
    have s2 : ∀ j : Nat, j ≤ n → slV (some (none, 1)) (.slice (some ⟨g, 0, none⟩) (n + 1) cap) (some (.int .i64 j)) none = some (.slice (some ⟨g, j * 1, none⟩) (n + 1 - j) (cap - j)) := fun j hj => by
      have h2 : ¬ cap = j := by omega
      have h3 : (j : Int) ≤ (n : Int) + 1 := by omega
      simp [slV, bnd, h3, h2, Addr.add_lit]
    unfold qeYZ
    simp only [bin_add, w1, w3, s1, s2 (i + 1) (by omega), ov_s]
    refine overlaps_nx (tS := qiZ) (tR := qtMZ) (f := qhTZ) (by kernel_rfl) (by kernel_rfl) (by kernel_rfl) (by kernel_rfl) cUnStr cApStr (Ne.symm hga) ha hg (by rw [hcs]; omega) ?_
    unfold qeXZ
    simp only [unV_n, ov_s, cd_b, Bool.not_false, true_implies]
    refine ⟨?_, fun h => (by cases h)⟩
    unfold qeWZ
    simp only [bin_add, w3, s2 (i + 1) (by omega), s2 i (by omega), ov_s]
    have m2 : min (n + 1 - i) (n + 1 - (i + 1)) = n - i := by omega
    have e5 : i * 1 + (n - i) * 1 = n * 1 := by rw [← Nat.add_mul]; congr 1; omega
    have e6 : (i + 1) * 1 + (n - i) * 1 = (n + 1) * 1 := by rw [← Nat.add_mul]; congr 1; omega
    refine copy_vv cUnStr cApStr (cs := (xs.drop (i * 1)).take ((n - i) * 1)) hg ?_ (by rw [m2, hcs]; omega) (one_take _ _) ?_
    · rw [m2]; exact celx _ _ (by omega)
    try unfold qezZ
    try simp only [s2 i (by omega), ov_s]
    have m1 : min 1 (n + 1 - i) = 1 := by omega
    refine copy_vv cUnStr cApStr (cs := x.toList) (upd_same' _ _ _) ?_ (by rw [m1, over_size, hcs]; omega) h1 ?_
    · rw [m1, cels_skip (Ne.symm hga)]
      exact cels_of ha (by rw [List.drop_zero, List.take_of_length_le (by rw [Array.length_toList, hx]; omega)]) (by simpa using hx)
    rw [upd_upd]
    have hdl : (xs.drop (i * 1)).take ((n - i) * 1) = xs.drop (i * 1) := List.take_of_length_le (by simp [hl] <;> omega)
    refine hk _ _ ⟨ext_upd hg0 r.ex, ⟨by simp [hl, hx] <;> omega, .inr ⟨g, cap, _, rfl, upd_same' _ _ _, hgr, hcm, by simp [over_size, hcs], ?_⟩⟩, fun b hb => by simp [rowOf] at hb; subst hb; exact hg0, fun u hu => ?_⟩ fun b o hb hn => by rw [upd_ne (fun hh => hn (by rw [hh]; rfl))]; exact hb
    · rw [hdl]
      have l1 : (xs.drop (i * 1)).length = (n - i) * 1 := by simp [hl] <;> omega
      have cl : cur.toList.length = cap * 1 := by simpa using hcs
      have x1 : x.toList.length = 1 := by simpa using hx
      rw [over_list (by rw [over_size, hcs, x1]; omega), over_list (by rw [hcs, l1]; omega)]
      have e10 : cur.toList.take (i * 1) = xs.take (i * 1) := by rw [← hct, List.take_take, Nat.min_eq_left (by omega)]
      exact spl_ins e10 (by rw [x1]; omega) (by omega) (by rw [l1]; omega) (by omega)
    · simp only [List.mem_append] at hu
      rcases hu with (hu | hu) | hu
      · exact r.one u (List.mem_of_mem_take hu)
      · exact h1 u hu
      · exact r.one u (List.mem_of_mem_drop hu)
theorem delEStr {v : Value} {n i : Nat} {xs : List Value} {h0 h : Heap} (r : Rf 1 qaHZ h0 h v n xs) (hi : i < n) (hn : n < 10000000)
    (hk : ∀ v' h', Rf 1 qaHZ h0 h' v' (n - 1) (xs.take (i * 1) ++ xs.drop ((i + 1) * 1)) → K v' h') : callM P qaxZ #[v, .int .i64 i, .int .i64 (i + 1 : Nat)] h K := by
  apply qmjZ
  unfold qcpZ
  obtain ⟨g, cap, cur, rfl, hg0, hg, hcap, hcm, hcs, hct⟩ := r.own (by omega)
  have hl : xs.length = n * 1 := r.row.1
  have hmul : n * 1 ≤ cap * 1 := Nat.mul_le_mul_right _ hcap
  have hi1 : (i + 1) * 1 ≤ n * 1 := Nat.mul_le_mul_right _ hi
  have hlen : lnV 7 (.slice (some ⟨g, 0, none⟩) n cap) = some (.int .i64 n) := rfl
  have s0 : ∃ y, sl3V (some (none, 1)) (.slice (some ⟨g, 0, none⟩) n cap) (some (.int .i64 i)) (.int .i64 (i + 1 : Nat)) (.int .i64 n) = some y := by
    have h1 : (n : Int) ≤ cap := by omega
    have h2 : (0 : Int) ≤ (i : Int) + 1 ∧ (i : Int) + 1 ≤ n := by omega
    have h3 : (i : Int) ≤ (i : Int) + 1 := by omega
    have h4 : i ≤ ((i : Int) + 1).toNat := by omega
    simp [sl3V, bnd, h1, h2, h3]
  obtain ⟨y, s0⟩ := s0
  have e3 : binV .eql 2 false (.int .i64 (i : Int)) (.int .i64 (i + 1 : Nat)) = some (.bool false) := by
    have : ¬ (i : Int) = (i + 1 : Nat) := by omega
    simp [-Int.natCast_add, this]
  simp only [hlen, s0, e3, ov_s, cd_b, true_implies]
  refine ⟨fun h => (by cases h), ?_⟩
  unfold qeQZ
  have s1 : slV (some (none, 1)) (.slice (some ⟨g, 0, none⟩) n cap) none (some (.int .i64 i)) = some (.slice (some ⟨g, 0, none⟩) i cap) := by
    have : (i : Int) ≤ cap := by omega
    simp [slV, bnd, this, Addr.add_lit, show ¬ cap = 0 by omega]
  have s2 : ∃ q, slV (some (none, 1)) (.slice (some ⟨g, 0, none⟩) n cap) (some (.int .i64 (i + 1 : Nat))) none = some (.slice (some ⟨g, q, none⟩) (n - (i + 1)) (cap - (i + 1))) ∧ cels h g q ((n - (i + 1)) * 1) = some (xs.drop ((i + 1) * 1)) := by
    have h3 : (0 : Int) ≤ (i : Int) + 1 ∧ (i : Int) + 1 ≤ n := by omega
    have h4 : ((i : Int) + 1).toNat = i + 1 := by omega
    by_cases hc : cap = i + 1
    · refine ⟨0, by simp [slV, bnd, h3, h4, hc, show n = i + 1 by omega], ?_⟩
      have : n - (i + 1) = 0 := by omega
      rw [this, List.drop_eq_nil_of_le (by rw [hl]; have : n = i + 1 := by omega
                                           subst this; omega)]
      simp [cels]
    · refine ⟨(i + 1) * 1, by simp [slV, bnd, h3, h4, hc, Addr.add_lit], ?_⟩
      have e5 : (i + 1) * 1 + (n - (i + 1)) * 1 = n * 1 := by rw [← Nat.add_mul]; congr 1; omega
      rw [r.row.cels (g := g) rfl (by omega), List.take_of_length_le (by simp [hl] <;> omega)]
  obtain ⟨q, s2, s3⟩ := s2
  simp only [hlen, s1, s2, ov_s]
  have e5 : i * 1 + (n - (i + 1)) * 1 = (n - 1) * 1 := by rw [← Nat.add_mul]; congr 1; omega
  have e6 : (n - 1) * 1 ≤ n * 1 := Nat.mul_le_mul_right _ (by omega)
  refine app_fit cUnStr cApStr hg s3 (by rw [hcs]; omega) (by omega) (fun u hu => r.one u (List.mem_of_mem_drop hu)) ?_
  unfold qePZ
  have e7 : i + (n - (i + 1)) = n - 1 := by omega
  rw [e7]
  have s4 : slV (some (none, 1)) (.slice (some ⟨g, 0, none⟩) (n - 1) cap) (some (.int .i64 (n - 1 : Nat))) (some (.int .i64 n)) = some (.slice (some ⟨g, (n - 1) * 1, none⟩) (n - (n - 1)) (cap - (n - 1))) := by
    have h1 : (n : Int) ≤ cap := by omega
    have h2 : ((n - 1 : Nat) : Int) ≤ n := by omega
    simp [slV, bnd, h1, h2, show ¬ cap = n - 1 by omega, Addr.add_lit]
  have hlen2 : lnV 7 (.slice (some ⟨g, 0, none⟩) (n - 1) cap) = some (.int .i64 (n - 1 : Nat)) := rfl
  simp only [hlen2, s4, ov_s]
  have l1 : (xs.drop ((i + 1) * 1)).length = (n - (i + 1)) * 1 := by rw [List.length_drop, hl, ← Nat.sub_mul]
  have l2 : (xs.take (i * 1)).length = i * 1 := by rw [List.length_take, hl]; omega
  have e8 : (n - 1) * 1 + (n - (n - 1)) * 1 = n * 1 := by rw [← Nat.add_mul]; congr 1; omega
  have cl : cur.toList.length = cap * 1 := by simpa using hcs
  have e9 : (over cur (0 + i * 1) (xs.drop ((i + 1) * 1))).toList = xs.take (i * 1) ++ xs.drop ((i + 1) * 1) ++ cur.toList.drop (0 + i * 1 + (n - (i + 1)) * 1) := by
    rw [over_list (by rw [hcs, l1]; omega)]
    unfold spl
    rw [l1]
    congr 2
    rw [← hct, List.take_take, Nat.min_eq_left (by omega), Nat.zero_add]
  have e10 : (xs.take (i * 1) ++ xs.drop ((i + 1) * 1)).length = (n - 1) * 1 := by rw [List.length_append, l1, l2, e5]
  refine clear_vv cUnStr cApStr (fun z hz => by rw [cZcStr] at hz; cases hz; rfl) (by omega) (upd_same' _ _ _) (by rw [over_size, hcs]; omega) (fun hz => by omega) fun cs hcs' => ?_
  rw [upd_upd]
  refine hk _ _ ⟨ext_upd hg0 r.ex, ⟨e10, .inr ⟨g, cap, _, rfl, upd_same' _ _ _, by omega, hcm, by simp [over_size, hcs], ?_⟩⟩, fun b hb => by simp [rowOf] at hb; subst hb; exact hg0, fun u hu => ?_⟩
  · rw [over_list (by rw [over_size, hcs, hcs']; omega), e9]
    unfold spl
    rw [List.append_assoc ((xs.take (i * 1) ++ xs.drop ((i + 1) * 1) ++ _).take _), List.take_append_of_le_length (by rw [List.length_take]; simp only [List.length_append, List.length_drop, l1, l2, cl]; omega), List.take_take, Nat.min_self]
    exact List.take_left' e10
  · simp only [List.mem_append] at hu
    rcases hu with hu | hu
    · exact r.one u (List.mem_of_mem_take hu)
    · exact r.one u (List.mem_of_mem_drop hu)
theorem cUnEnt:P.underlying qeZ=some (.slice qrZ):=by kernel_rfl
theorem cApEnt:apC P qrZ=some (4,48,4):=by kernel_rfl
theorem cBsEnt:bsI P qeZ=some (qrZ,4,#[.slice none 0 0,.int .i64 0,.int .i64 0,.int .i64 0]):=by kernel_rfl
theorem cZcEnt:zc P qrZ=some #[.slice none 0 0,.int .i64 0,.int .i64 0,.int .i64 0]:=by kernel_rfl
theorem cloneEEnt {v:Value}{n:Nat}{xs:List Value}{h:Heap}(x:SlC 4 h v n xs)(s:Sn v)(h1:∀ u∈xs,u.oneCell'=true)(hn:n<10000000)
  (hk:∀ v' h',Rf 4 qrZ h h' v' n xs→K v' h'):callM P qdZ #[v] h K:=by
 apply qiMZ
 unfold qaMZ
 rcases x.nil_or s with ⟨rfl,rfl,rfl⟩ | ⟨a,c,rfl⟩
 ·have e:binV .eql 7 true (.slice none 0 0) (.slice none 0 0)=some (.bool true):=rfl
  simp only[e,ov_s,cd_b,true_implies]
  exact⟨hk _ _ (Rf.nil (Ext.refl h)),fun h=>(by cases h)⟩
 ·have e:binV .eql 7 true (.slice (some a) n c) (.slice none 0 0)=some (.bool false):=rfl
  simp only[e,ov_s,cd_b,true_implies]
  refine⟨fun h=>(by cases h),?_⟩
  unfold qcBZ
  refine bs_none cBsEnt fun v2 h2 e2 r2 _ f2=>?_
  have r:Rf 4 qrZ h h2 v2 0 []:=⟨e2,r2,f2,by simp⟩
  have x2:SlC 4 h2 (.slice (some a) n c) n xs:=by
   rcases x with ⟨h1,h2,h3⟩ | ⟨b,o,cap,h1,h2⟩
   ·exact .inl ⟨h1,h2,h3⟩
   ·exact .inr ⟨b,o,cap,h1,cels_ext e2 h2⟩
  refine r.app cUnEnt cApEnt (by omega) x2 h1 (by unfold maxLen; omega) (by omega) fun v' h' r' _=>hk v' h' ?_
  simpa using r'
theorem insEEnt {v : Value} {n i a : Nat} {xs : List Value} {x : Array Value} {ex : TypeId} {h0 h : Heap} (r : Rf 4 qrZ h0 h v n xs) (hx : x.size = 4) (ha : h a = some (.cells x ex (0, 0))) (hra : rowOf v ≠ some a) (hi : i ≤ n) (hn : n < 10000000) (h1 : ∀ u ∈ x.toList, u.oneCell' = true)
    (hk : ∀ v' h', Rf 4 qrZ h0 h' v' (n + 1) (xs.take (i * 4) ++ x.toList ++ xs.drop (i * 4)) → (∀ b o, h b = some o → rowOf v ≠ some b → h' b = some o) → K v' h') : callM P qjZ #[v, .int .i64 i, .slice (some ⟨a, 0, none⟩) 1 1] h K := by
  apply qifZ
  unfold qaBZ qckZ
  have hlen : lnV 7 v = some (.int .i64 n) := by rcases r.row.2 with ⟨rfl, rfl⟩ | ⟨_, _, _, rfl, _⟩ <;> rfl
  have hsl : ∃ y, slV (some (none, 4)) v (some (.int .i64 i)) none = some y := by
    have : 0 ≤ (i : Int) ∧ (i : Int) ≤ n := by omega
    rcases r.row.2 with ⟨rfl, rfl⟩ | ⟨_, _, _, rfl, _⟩ <;> simp only [slV, bnd, this, and_self, if_true] <;> exact ⟨_, rfl⟩
  obtain ⟨y, hsl⟩ := hsl
  have e1 : lnV 7 (.slice (some ⟨a, 0, none⟩) 1 1) = some (.int .i64 (1 : Nat)) := rfl
  have e2 : binV .eql 2 true (.int .i64 (1 : Nat)) (.int .i64 0) = some (.bool false) := rfl
  simp only [hsl, hlen, e1, e2, ov_s, cd_b, true_implies]
  refine ⟨fun h => (by cases h), ?_⟩
  have e3 : binV .eql 2 false (.int .i64 (i : Int)) (.int .i64 (n : Int)) = some (.bool (decide (i = n))) := by
    simp [Int.natCast_inj]
  simp only [e3, ov_s, cd_b]
  refine ⟨fun hin => ?_, fun hin => ?_⟩
  · have hin : i = n := by simpa using hin
    subst hin
    refine r.app cUnEnt cApEnt (by omega) (slc_one ha hx) h1 (by unfold maxLen; omega) (by omega) fun v' h' r' kb' => hk v' h' ?_ kb'
    have hl : xs.length = i * 4 := r.row.1
    rw [List.take_of_length_le (by omega), List.drop_eq_nil_of_le (by omega), List.append_nil]
    exact r'
  have hin : i < n := by have : ¬ i = n := by simpa using hin
                         omega
  obtain ⟨g, cap, cur, rfl, hg0, hg, hcap, hcm, hcs, hct⟩ := r.own (by omega)
  have hga : g ≠ a := fun e => hra (by simp [rowOf, e])
  unfold qcjZ
  have w1 : IntKind.i64.wrap ((n : Int) + (1 : Nat)) = (n + 1 : Nat) := by rw [wrap64_id (by omega) (by omega)]; omega
  have hl : xs.length = n * 4 := r.row.1
  have hmul : n * 4 ≤ cap * 4 := Nat.mul_le_mul_right _ hcap
  simp only [bin_add, w1, ov_s]
  refine cap_vv cUnEnt ?_
  unfold qciZ
  simp only [bin_gtr, ov_s, cd_b]
  have celx : ∀ o m, o + m ≤ n * 4 → cels h g o m = some ((xs.drop o).take m) := fun o m hom => r.row.cels rfl hom
  have one_take : ∀ o m, ∀ u ∈ (xs.drop o).take m, u.oneCell' = true := fun o m u hu => r.one u (List.mem_of_mem_drop (List.mem_of_mem_take hu))
  refine ⟨fun hgr => ?_, fun hgr => ?_⟩
  · -- there is no room
    have hgr : cap < n + 1 := by have : ((cap : Int) < (n + 1 : Nat)) := by simpa using hgr
                                 omega
    have s1 : slV (some (none, 4)) (.slice (some ⟨g, 0, none⟩) n cap) none (some (.int .i64 i)) = some (.slice (some ⟨g, 0, none⟩) i cap) := by
      have : (i : Int) ≤ cap := by omega
      simp [slV, bnd, this, Addr.add_lit, show ¬ cap = 0 by omega]
    have w2 : IntKind.i64.wrap (((n + 1 : Nat) : Int) - i) = (n + 1 - i : Nat) := by rw [wrap64_id (by omega) (by omega)]; omega
    unfold qceZ
    simp only [s1, bin_sub, bin_add, w1, w2, ov_s]
    have hii : i * 4 ≤ n * 4 := Nat.mul_le_mul_right _ (by omega)
    refine app_zeros (olds := xs.take (i * 4)) cUnEnt (show P.underlying qpZ = some (.int .i64) by kernel_rfl) cApEnt (by omega) (by have := celx 0 (i * 4) (by omega); simpa using this) (by omega) (by omega) (by unfold maxLen; omega) (by omega) fun b' cap' cur' hb' hc1 hc2 hc3 hc4 => ?_
    have ei : i + (n + 1 - i) = n + 1 := by omega
    rw [ei] at hc1 ⊢
    have hmul' : (n + 1) * 4 ≤ cap' * 4 := Nat.mul_le_mul_right _ hc1
    have hi1 : (i + 1) * 4 ≤ n * 4 := Nat.mul_le_mul_right _ hin
    have s2 : ∀ j : Nat, j ≤ n → slV (some (none, 4)) (.slice (some ⟨b', 0, none⟩) (n + 1) cap') (some (.int .i64 j)) none = some (.slice (some ⟨b', j * 4, none⟩) (n + 1 - j) (cap' - j)) := fun j hj => by
      have : (j : Int) ≤ (n + 1 : Nat) := by omega
      have h2 : ¬ cap' = j := by omega
      have h3 : (j : Int) ≤ (n : Int) + 1 := by omega
      simp [slV, bnd, h3, h2, Addr.add_lit]
    have s3 : slV (some (none, 4)) (.slice (some ⟨g, 0, none⟩) n cap) (some (.int .i64 i)) none = some (.slice (some ⟨g, i * 4, none⟩) (n - i) (cap - i)) := by
      have : (i : Int) ≤ n := by omega
      simp [slV, bnd, this, show ¬ cap = i by omega, Addr.add_lit]
    unfold qcdZ
    simp only [s2 i (by omega), ov_s]
    have hb'a : a ≠ b' := fun e => by subst e; rw [hb'] at ha; cases ha
    have hb'g : g ≠ b' := fun e => by subst e; rw [hb'] at hg; cases hg
    have m1 : min 1 (n + 1 - i) = 1 := by omega
    refine copy_vv cUnEnt cApEnt (cs := x.toList) (upd_same' _ _ _) ?_ (by rw [m1, hc3]; omega) h1 ?_
    · rw [m1, cels_skip hb'a]
      exact cels_of ha (by rw [List.drop_zero, List.take_of_length_le (by rw [Array.length_toList, hx]; omega)]) (by simpa using hx)
    unfold qccZ
    have w3 : IntKind.i64.wrap ((i : Int) + (1 : Nat)) = (i + 1 : Nat) := by rw [wrap64_id (by omega) (by omega)]; omega
    simp only [bin_add, w3, s2 (i + 1) (by omega), s3, ov_s, upd_upd]
    have m2 : min (n - i) (n + 1 - (i + 1)) = n - i := by omega
    have e5 : i * 4 + (n - i) * 4 = n * 4 := by rw [← Nat.add_mul]; congr 1; omega
    have e6 : (i + 1) * 4 + (n - i) * 4 = (n + 1) * 4 := by rw [← Nat.add_mul]; congr 1; omega
    refine copy_vv cUnEnt cApEnt (cs := (xs.drop (i * 4)).take ((n - i) * 4)) (upd_same' _ _ _) ?_ (by rw [m2, over_size, hc3]; omega) (one_take _ _) ?_
    · rw [m2, cels_skip hb'g]
      exact celx _ _ (by omega)
    rw [upd_upd]
    have hb0 : h0 b' = none := fresh_of r.ex hb'
    have hdl : (xs.drop (i * 4)).take ((n - i) * 4) = xs.drop (i * 4) := List.take_of_length_le (by simp [hl] <;> omega)
    refine hk _ _ ⟨ext_upd hb0 r.ex, ⟨by simp [hl, hx] <;> omega, .inr ⟨b', cap', _, rfl, upd_same' _ _ _, hc1, hc2, by simp [over_size, hc3], ?_⟩⟩, fun b hb => by simp [rowOf] at hb; subst hb; exact hb0, fun u hu => ?_⟩ fun b o hb _ => by rw [upd_ne (fun hh => by rw [hh, hb'] at hb; cases hb)]; exact hb
    · rw [hdl]
      have l1 : (xs.drop (i * 4)).length = (n - i) * 4 := by simp [hl] <;> omega
      have cl : cur'.toList.length = cap' * 4 := by simpa using hc3
      rw [over_list (by rw [over_size, hc3, l1]; omega), over_list (by rw [hc3, Array.length_toList, hx]; omega)]
      have x1 : x.toList.length = 4 := by simpa using hx
      have e7 : spl cur'.toList (i * 4) x.toList = xs.take (i * 4) ++ x.toList ++ cur'.toList.drop (i * 4 + 4) := by
        unfold spl; rw [hc4, x1]
      have e8 : (i + 1) * 4 = (xs.take (i * 4) ++ x.toList).length := by simp [hl, hx] <;> omega
      have e9 : (xs.take (i * 4) ++ x.toList ++ xs.drop (i * 4)).length = (n + 1) * 4 := by simp [hl, hx] <;> omega
      rw [e7]
      unfold spl
      rw [e8, List.take_left, List.take_left' e9]
    · simp only [List.mem_append] at hu
      rcases hu with (hu | hu) | hu
      · exact r.one u (List.mem_of_mem_take hu)
      · exact h1 u hu
      · exact r.one u (List.mem_of_mem_drop hu)
  · -- there is room
    have hgr : n + 1 ≤ cap := by have : ¬ ((cap : Int) < (n + 1 : Nat)) := by simpa using hgr
                                 omega
    have hmul' : (n + 1) * 4 ≤ cap * 4 := Nat.mul_le_mul_right _ hgr
    have hi1 : (i + 1) * 4 ≤ n * 4 := Nat.mul_le_mul_right _ hin
    have s1 : slV (some (none, 4)) (.slice (some ⟨g, 0, none⟩) n cap) none (some (.int .i64 (n + 1 : Nat))) = some (.slice (some ⟨g, 0, none⟩) (n + 1) cap) := by
      have : ((n + 1 : Nat) : Int) ≤ cap := by omega
      have h3 : 0 ≤ (n : Int) + 1 ∧ (n : Int) + 1 ≤ cap := by omega
      simp [slV, bnd, h3, Addr.add_lit, show ¬ cap = 0 by omega]
    have w3 : IntKind.i64.wrap ((i : Int) + (1 : Nat)) = (i + 1 : Nat) := by rw [wrap64_id (by omega) (by omega)]; omega
    have s2 : ∀ j : Nat, j ≤ n → slV (some (none, 4)) (.slice (some ⟨g, 0, none⟩) (n + 1) cap) (some (.int .i64 j)) none = some (.slice (some ⟨g, j * 4, none⟩) (n + 1 - j) (cap - j)) := fun j hj => by
      have h2 : ¬ cap = j := by omega
      have h3 : (j : Int) ≤ (n : Int) + 1 := by omega
      simp [slV, bnd, h3, h2, Addr.add_lit]
    unfold qchZ
    simp only [bin_add, w1, w3, s1, s2 (i + 1) (by omega), ov_s]
    refine overlaps_nx (tS := qeZ) (tR := qtMZ) (f := qfMZ) (by kernel_rfl) (by kernel_rfl) (by kernel_rfl) (by kernel_rfl) cUnEnt cApEnt (Ne.symm hga) ha hg (by rw [hcs]; omega) ?_
    unfold qcgZ
    simp only [unV_n, ov_s, cd_b, Bool.not_false, true_implies]
    refine ⟨?_, fun h => (by cases h)⟩
    unfold qcfZ
    simp only [bin_add, w3, s2 (i + 1) (by omega), s2 i (by omega), ov_s]
    have m2 : min (n + 1 - i) (n + 1 - (i + 1)) = n - i := by omega
    have e5 : i * 4 + (n - i) * 4 = n * 4 := by rw [← Nat.add_mul]; congr 1; omega
    have e6 : (i + 1) * 4 + (n - i) * 4 = (n + 1) * 4 := by rw [← Nat.add_mul]; congr 1; omega
    refine copy_vv cUnEnt cApEnt (cs := (xs.drop (i * 4)).take ((n - i) * 4)) hg ?_ (by rw [m2, hcs]; omega) (one_take _ _) ?_
    · rw [m2]; exact celx _ _ (by omega)
    try unfold qbTZ
    try simp only [s2 i (by omega), ov_s]
    have m1 : min 1 (n + 1 - i) = 1 := by omega
    refine copy_vv cUnEnt cApEnt (cs := x.toList) (upd_same' _ _ _) ?_ (by rw [m1, over_size, hcs]; omega) h1 ?_
    · rw [m1, cels_skip (Ne.symm hga)]
      exact cels_of ha (by rw [List.drop_zero, List.take_of_length_le (by rw [Array.length_toList, hx]; omega)]) (by simpa using hx)
    rw [upd_upd]
    have hdl : (xs.drop (i * 4)).take ((n - i) * 4) = xs.drop (i * 4) := List.take_of_length_le (by simp [hl] <;> omega)
    refine hk _ _ ⟨ext_upd hg0 r.ex, ⟨by simp [hl, hx] <;> omega, .inr ⟨g, cap, _, rfl, upd_same' _ _ _, hgr, hcm, by simp [over_size, hcs], ?_⟩⟩, fun b hb => by simp [rowOf] at hb; subst hb; exact hg0, fun u hu => ?_⟩ fun b o hb hn => by rw [upd_ne (fun hh => hn (by rw [hh]; rfl))]; exact hb
    · rw [hdl]
      have l1 : (xs.drop (i * 4)).length = (n - i) * 4 := by simp [hl] <;> omega
      have cl : cur.toList.length = cap * 4 := by simpa using hcs
      have x1 : x.toList.length = 4 := by simpa using hx
      rw [over_list (by rw [over_size, hcs, x1]; omega), over_list (by rw [hcs, l1]; omega)]
      have e10 : cur.toList.take (i * 4) = xs.take (i * 4) := by rw [← hct, List.take_take, Nat.min_eq_left (by omega)]
      exact spl_ins e10 (by rw [x1]; omega) (by omega) (by rw [l1]; omega) (by omega)
    · simp only [List.mem_append] at hu
      rcases hu with (hu | hu) | hu
      · exact r.one u (List.mem_of_mem_take hu)
      · exact h1 u hu
      · exact r.one u (List.mem_of_mem_drop hu)
theorem delEEnt {v : Value} {n i : Nat} {xs : List Value} {h0 h : Heap} (r : Rf 4 qrZ h0 h v n xs) (hi : i < n) (hn : n < 10000000)
    (hk : ∀ v' h', Rf 4 qrZ h0 h' v' (n - 1) (xs.take (i * 4) ++ xs.drop ((i + 1) * 4)) → K v' h') : callM P qauZ #[v, .int .i64 i, .int .i64 (i + 1 : Nat)] h K := by
  apply qieZ
  unfold qaAZ
  obtain ⟨g, cap, cur, rfl, hg0, hg, hcap, hcm, hcs, hct⟩ := r.own (by omega)
  have hl : xs.length = n * 4 := r.row.1
  have hmul : n * 4 ≤ cap * 4 := Nat.mul_le_mul_right _ hcap
  have hi1 : (i + 1) * 4 ≤ n * 4 := Nat.mul_le_mul_right _ hi
  have hlen : lnV 7 (.slice (some ⟨g, 0, none⟩) n cap) = some (.int .i64 n) := rfl
  have s0 : ∃ y, sl3V (some (none, 4)) (.slice (some ⟨g, 0, none⟩) n cap) (some (.int .i64 i)) (.int .i64 (i + 1 : Nat)) (.int .i64 n) = some y := by
    have h1 : (n : Int) ≤ cap := by omega
    have h2 : (0 : Int) ≤ (i : Int) + 1 ∧ (i : Int) + 1 ≤ n := by omega
    have h3 : (i : Int) ≤ (i : Int) + 1 := by omega
    have h4 : i ≤ ((i : Int) + 1).toNat := by omega
    simp [sl3V, bnd, h1, h2, h3]
  obtain ⟨y, s0⟩ := s0
  have e3 : binV .eql 2 false (.int .i64 (i : Int)) (.int .i64 (i + 1 : Nat)) = some (.bool false) := by
    have : ¬ (i : Int) = (i + 1 : Nat) := by omega
    simp [-Int.natCast_add, this]
  simp only [hlen, s0, e3, ov_s, cd_b, true_implies]
  refine ⟨fun h => (by cases h), ?_⟩
  unfold qcbZ
  have s1 : slV (some (none, 4)) (.slice (some ⟨g, 0, none⟩) n cap) none (some (.int .i64 i)) = some (.slice (some ⟨g, 0, none⟩) i cap) := by
    have : (i : Int) ≤ cap := by omega
    simp [slV, bnd, this, Addr.add_lit, show ¬ cap = 0 by omega]
  have s2 : ∃ q, slV (some (none, 4)) (.slice (some ⟨g, 0, none⟩) n cap) (some (.int .i64 (i + 1 : Nat))) none = some (.slice (some ⟨g, q, none⟩) (n - (i + 1)) (cap - (i + 1))) ∧ cels h g q ((n - (i + 1)) * 4) = some (xs.drop ((i + 1) * 4)) := by
    have h3 : (0 : Int) ≤ (i : Int) + 1 ∧ (i : Int) + 1 ≤ n := by omega
    have h4 : ((i : Int) + 1).toNat = i + 1 := by omega
    by_cases hc : cap = i + 1
    · refine ⟨0, by simp [slV, bnd, h3, h4, hc, show n = i + 1 by omega], ?_⟩
      have : n - (i + 1) = 0 := by omega
      rw [this, List.drop_eq_nil_of_le (by rw [hl]; have : n = i + 1 := by omega
                                           subst this; omega)]
      simp [cels]
    · refine ⟨(i + 1) * 4, by simp [slV, bnd, h3, h4, hc, Addr.add_lit], ?_⟩
      have e5 : (i + 1) * 4 + (n - (i + 1)) * 4 = n * 4 := by rw [← Nat.add_mul]; congr 1; omega
      rw [r.row.cels (g := g) rfl (by omega), List.take_of_length_le (by simp [hl] <;> omega)]
  obtain ⟨q, s2, s3⟩ := s2
  simp only [hlen, s1, s2, ov_s]
  have e5 : i * 4 + (n - (i + 1)) * 4 = (n - 1) * 4 := by rw [← Nat.add_mul]; congr 1; omega
  have e6 : (n - 1) * 4 ≤ n * 4 := Nat.mul_le_mul_right _ (by omega)
  refine app_fit cUnEnt cApEnt hg s3 (by rw [hcs]; omega) (by omega) (fun u hu => r.one u (List.mem_of_mem_drop hu)) ?_
  unfold qcaZ
  have e7 : i + (n - (i + 1)) = n - 1 := by omega
  rw [e7]
  have s4 : slV (some (none, 4)) (.slice (some ⟨g, 0, none⟩) (n - 1) cap) (some (.int .i64 (n - 1 : Nat))) (some (.int .i64 n)) = some (.slice (some ⟨g, (n - 1) * 4, none⟩) (n - (n - 1)) (cap - (n - 1))) := by
    have h1 : (n : Int) ≤ cap := by omega
    have h2 : ((n - 1 : Nat) : Int) ≤ n := by omega
    simp [slV, bnd, h1, h2, show ¬ cap = n - 1 by omega, Addr.add_lit]
  have hlen2 : lnV 7 (.slice (some ⟨g, 0, none⟩) (n - 1) cap) = some (.int .i64 (n - 1 : Nat)) := rfl
  simp only [hlen2, s4, ov_s]
  have l1 : (xs.drop ((i + 1) * 4)).length = (n - (i + 1)) * 4 := by rw [List.length_drop, hl, ← Nat.sub_mul]
  have l2 : (xs.take (i * 4)).length = i * 4 := by rw [List.length_take, hl]; omega
  have e8 : (n - 1) * 4 + (n - (n - 1)) * 4 = n * 4 := by rw [← Nat.add_mul]; congr 1; omega
  have cl : cur.toList.length = cap * 4 := by simpa using hcs
  have e9 : (over cur (0 + i * 4) (xs.drop ((i + 1) * 4))).toList = xs.take (i * 4) ++ xs.drop ((i + 1) * 4) ++ cur.toList.drop (0 + i * 4 + (n - (i + 1)) * 4) := by
    rw [over_list (by rw [hcs, l1]; omega)]
    unfold spl
    rw [l1]
    congr 2
    rw [← hct, List.take_take, Nat.min_eq_left (by omega), Nat.zero_add]
  have e10 : (xs.take (i * 4) ++ xs.drop ((i + 1) * 4)).length = (n - 1) * 4 := by rw [List.length_append, l1, l2, e5]
  refine clear_vv cUnEnt cApEnt (fun z hz => by rw [cZcEnt] at hz; cases hz; rfl) (by omega) (upd_same' _ _ _) (by rw [over_size, hcs]; omega) (fun hz => by omega) fun cs hcs' => ?_
  rw [upd_upd]
  refine hk _ _ ⟨ext_upd hg0 r.ex, ⟨e10, .inr ⟨g, cap, _, rfl, upd_same' _ _ _, by omega, hcm, by simp [over_size, hcs], ?_⟩⟩, fun b hb => by simp [rowOf] at hb; subst hb; exact hg0, fun u hu => ?_⟩
  · rw [over_list (by rw [over_size, hcs, hcs']; omega), e9]
    unfold spl
    rw [List.append_assoc ((xs.take (i * 4) ++ xs.drop ((i + 1) * 4) ++ _).take _), List.take_append_of_le_length (by rw [List.length_take]; simp only [List.length_append, List.length_drop, l1, l2, cl]; omega), List.take_take, Nat.min_self]
    exact List.take_left' e10
  · simp only [List.mem_append] at hu
    rcases hu with hu | hu
    · exact r.one u (List.mem_of_mem_take hu)
    · exact r.one u (List.mem_of_mem_drop hu)
theorem cUnU32:P.underlying qlZ=some (.slice qbZZ):=by kernel_rfl
theorem cApU32:apC P qbZZ=some (1,4,1):=by kernel_rfl
theorem cBsU32:bsI P qlZ=some (qbZZ,1,#[.int .u32 0]):=by kernel_rfl
theorem cZcU32:zc P qbZZ=some #[.int .u32 0]:=by kernel_rfl
theorem cloneEU32 {v:Value}{n:Nat}{xs:List Value}{h:Heap}(x:SlC 1 h v n xs)(s:Sn v)(h1:∀ u∈xs,u.oneCell'=true)(hn:n<10000000)
  (hk:∀ v' h',Rf 1 qbZZ h h' v' n xs→K v' h'):callM P qkZ #[v] h K:=by
 apply qopZ
 unfold qcHZ
 rcases x.nil_or s with ⟨rfl,rfl,rfl⟩ | ⟨a,c,rfl⟩
 ·have e:binV .eql 7 true (.slice none 0 0) (.slice none 0 0)=some (.bool true):=rfl
  simp only[e,ov_s,cd_b,true_implies]
  exact⟨hk _ _ (Rf.nil (Ext.refl h)),fun h=>(by cases h)⟩
 ·have e:binV .eql 7 true (.slice (some a) n c) (.slice none 0 0)=some (.bool false):=rfl
  simp only[e,ov_s,cd_b,true_implies]
  refine⟨fun h=>(by cases h),?_⟩

  refine bs_none cBsU32 fun v2 h2 e2 r2 _ f2=>?_
  have r:Rf 1 qbZZ h h2 v2 0 []:=⟨e2,r2,f2,by simp⟩
  have x2:SlC 1 h2 (.slice (some a) n c) n xs:=by
   rcases x with ⟨h1,h2,h3⟩ | ⟨b,o,cap,h1,h2⟩
   ·exact .inl ⟨h1,h2,h3⟩
   ·exact .inr ⟨b,o,cap,h1,cels_ext e2 h2⟩
  refine r.app cUnU32 cApU32 (by omega) x2 h1 (by unfold maxLen; omega) (by omega) fun v' h' r' _=>hk v' h' ?_
  simpa using r'
theorem insEU32 {v : Value} {n i a : Nat} {xs : List Value} {x : Array Value} {ex : TypeId} {h0 h : Heap} (r : Rf 1 qbZZ h0 h v n xs) (hx : x.size = 1) (ha : h a = some (.cells x ex (0, 0))) (hra : rowOf v ≠ some a) (hi : i ≤ n) (hn : n < 10000000) (h1 : ∀ u ∈ x.toList, u.oneCell' = true)
    (hk : ∀ v' h', Rf 1 qbZZ h0 h' v' (n + 1) (xs.take (i * 1) ++ x.toList ++ xs.drop (i * 1)) → (∀ b o, h b = some o → rowOf v ≠ some b → h' b = some o) → K v' h') : callM P qoZ #[v, .int .i64 i, .slice (some ⟨a, 0, none⟩) 1 1] h K := by
  apply qmmZ
  unfold qcsZ qfkZ
  have hlen : lnV 7 v = some (.int .i64 n) := by rcases r.row.2 with ⟨rfl, rfl⟩ | ⟨_, _, _, rfl, _⟩ <;> rfl
  have hsl : ∃ y, slV (some (none, 1)) v (some (.int .i64 i)) none = some y := by
    have : 0 ≤ (i : Int) ∧ (i : Int) ≤ n := by omega
    rcases r.row.2 with ⟨rfl, rfl⟩ | ⟨_, _, _, rfl, _⟩ <;> simp only [slV, bnd, this, and_self, if_true] <;> exact ⟨_, rfl⟩
  obtain ⟨y, hsl⟩ := hsl
  have e1 : lnV 7 (.slice (some ⟨a, 0, none⟩) 1 1) = some (.int .i64 (1 : Nat)) := rfl
  have e2 : binV .eql 2 true (.int .i64 (1 : Nat)) (.int .i64 0) = some (.bool false) := rfl
  simp only [hsl, hlen, e1, e2, ov_s, cd_b, true_implies]
  refine ⟨fun h => (by cases h), ?_⟩
  have e3 : binV .eql 2 false (.int .i64 (i : Int)) (.int .i64 (n : Int)) = some (.bool (decide (i = n))) := by
    simp [Int.natCast_inj]
  simp only [e3, ov_s, cd_b]
  refine ⟨fun hin => ?_, fun hin => ?_⟩
  · have hin : i = n := by simpa using hin
    subst hin
    refine r.app cUnU32 cApU32 (by omega) (slc_one ha hx) h1 (by unfold maxLen; omega) (by omega) fun v' h' r' kb' => hk v' h' ?_ kb'
    have hl : xs.length = i * 1 := r.row.1
    rw [List.take_of_length_le (by omega), List.drop_eq_nil_of_le (by omega), List.append_nil]
    exact r'
  have hin : i < n := by have : ¬ i = n := by simpa using hin
                         omega
  obtain ⟨g, cap, cur, rfl, hg0, hg, hcap, hcm, hcs, hct⟩ := r.own (by omega)
  have hga : g ≠ a := fun e => hra (by simp [rowOf, e])
  unfold qfjZ
  have w1 : IntKind.i64.wrap ((n : Int) + (1 : Nat)) = (n + 1 : Nat) := by rw [wrap64_id (by omega) (by omega)]; omega
  have hl : xs.length = n * 1 := r.row.1
  have hmul : n * 1 ≤ cap * 1 := Nat.mul_le_mul_right _ hcap
  simp only [bin_add, w1, ov_s]
  refine cap_vv cUnU32 ?_
  unfold qfiZ
  simp only [bin_gtr, ov_s, cd_b]
  have celx : ∀ o m, o + m ≤ n * 1 → cels h g o m = some ((xs.drop o).take m) := fun o m hom => r.row.cels rfl hom
  have one_take : ∀ o m, ∀ u ∈ (xs.drop o).take m, u.oneCell' = true := fun o m u hu => r.one u (List.mem_of_mem_drop (List.mem_of_mem_take hu))
  refine ⟨fun hgr => ?_, fun hgr => ?_⟩
  · -- there is no room
    have hgr : cap < n + 1 := by have : ((cap : Int) < (n + 1 : Nat)) := by simpa using hgr
                                 omega
    have s1 : slV (some (none, 1)) (.slice (some ⟨g, 0, none⟩) n cap) none (some (.int .i64 i)) = some (.slice (some ⟨g, 0, none⟩) i cap) := by
      have : (i : Int) ≤ cap := by omega
      simp [slV, bnd, this, Addr.add_lit, show ¬ cap = 0 by omega]
    have w2 : IntKind.i64.wrap (((n + 1 : Nat) : Int) - i) = (n + 1 - i : Nat) := by rw [wrap64_id (by omega) (by omega)]; omega
    unfold qfeZ
    simp only [s1, bin_sub, bin_add, w1, w2, ov_s]
    have hii : i * 1 ≤ n * 1 := Nat.mul_le_mul_right _ (by omega)
    refine app_zeros (olds := xs.take (i * 1)) cUnU32 (show P.underlying qpZ = some (.int .i64) by kernel_rfl) cApU32 (by omega) (by have := celx 0 (i * 1) (by omega); simpa using this) (by omega) (by omega) (by unfold maxLen; omega) (by omega) fun b' cap' cur' hb' hc1 hc2 hc3 hc4 => ?_
    have ei : i + (n + 1 - i) = n + 1 := by omega
    rw [ei] at hc1 ⊢
    have hmul' : (n + 1) * 1 ≤ cap' * 1 := Nat.mul_le_mul_right _ hc1
    have hi1 : (i + 1) * 1 ≤ n * 1 := Nat.mul_le_mul_right _ hin
    have s2 : ∀ j : Nat, j ≤ n → slV (some (none, 1)) (.slice (some ⟨b', 0, none⟩) (n + 1) cap') (some (.int .i64 j)) none = some (.slice (some ⟨b', j * 1, none⟩) (n + 1 - j) (cap' - j)) := fun j hj => by
      have : (j : Int) ≤ (n + 1 : Nat) := by omega
      have h2 : ¬ cap' = j := by omega
      have h3 : (j : Int) ≤ (n : Int) + 1 := by omega
      simp [slV, bnd, h3, h2, Addr.add_lit]
    have s3 : slV (some (none, 1)) (.slice (some ⟨g, 0, none⟩) n cap) (some (.int .i64 i)) none = some (.slice (some ⟨g, i * 1, none⟩) (n - i) (cap - i)) := by
      have : (i : Int) ≤ n := by omega
      simp [slV, bnd, this, show ¬ cap = i by omega, Addr.add_lit]
    unfold qfdZ
    simp only [s2 i (by omega), ov_s]
    have hb'a : a ≠ b' := fun e => by subst e; rw [hb'] at ha; cases ha
    have hb'g : g ≠ b' := fun e => by subst e; rw [hb'] at hg; cases hg
    have m1 : min 1 (n + 1 - i) = 1 := by omega
    refine copy_vv cUnU32 cApU32 (cs := x.toList) (upd_same' _ _ _) ?_ (by rw [m1, hc3]; omega) h1 ?_
    · rw [m1, cels_skip hb'a]
      exact cels_of ha (by rw [List.drop_zero, List.take_of_length_le (by rw [Array.length_toList, hx]; omega)]) (by simpa using hx)
    unfold qfcZ
    have w3 : IntKind.i64.wrap ((i : Int) + (1 : Nat)) = (i + 1 : Nat) := by rw [wrap64_id (by omega) (by omega)]; omega
    simp only [bin_add, w3, s2 (i + 1) (by omega), s3, ov_s, upd_upd]
    have m2 : min (n - i) (n + 1 - (i + 1)) = n - i := by omega
    have e5 : i * 1 + (n - i) * 1 = n * 1 := by rw [← Nat.add_mul]; congr 1; omega
    have e6 : (i + 1) * 1 + (n - i) * 1 = (n + 1) * 1 := by rw [← Nat.add_mul]; congr 1; omega
    refine copy_vv cUnU32 cApU32 (cs := (xs.drop (i * 1)).take ((n - i) * 1)) (upd_same' _ _ _) ?_ (by rw [m2, over_size, hc3]; omega) (one_take _ _) ?_
    · rw [m2, cels_skip hb'g]
      exact celx _ _ (by omega)
    rw [upd_upd]
    have hb0 : h0 b' = none := fresh_of r.ex hb'
    have hdl : (xs.drop (i * 1)).take ((n - i) * 1) = xs.drop (i * 1) := List.take_of_length_le (by simp [hl] <;> omega)
    refine hk _ _ ⟨ext_upd hb0 r.ex, ⟨by simp [hl, hx] <;> omega, .inr ⟨b', cap', _, rfl, upd_same' _ _ _, hc1, hc2, by simp [over_size, hc3], ?_⟩⟩, fun b hb => by simp [rowOf] at hb; subst hb; exact hb0, fun u hu => ?_⟩ fun b o hb _ => by rw [upd_ne (fun hh => by rw [hh, hb'] at hb; cases hb)]; exact hb
    · rw [hdl]
      have l1 : (xs.drop (i * 1)).length = (n - i) * 1 := by simp [hl] <;> omega
      have cl : cur'.toList.length = cap' * 1 := by simpa using hc3
      rw [over_list (by rw [over_size, hc3, l1]; omega), over_list (by rw [hc3, Array.length_toList, hx]; omega)]
      have x1 : x.toList.length = 1 := by simpa using hx
      have e7 : spl cur'.toList (i * 1) x.toList = xs.take (i * 1) ++ x.toList ++ cur'.toList.drop (i * 1 + 1) := by
        unfold spl; rw [hc4, x1]
      have e8 : (i + 1) * 1 = (xs.take (i * 1) ++ x.toList).length := by simp [hl, hx] <;> omega
      have e9 : (xs.take (i * 1) ++ x.toList ++ xs.drop (i * 1)).length = (n + 1) * 1 := by simp [hl, hx] <;> omega
      rw [e7]
      unfold spl
      rw [e8, List.take_left, List.take_left' e9]
    · simp only [List.mem_append] at hu
      rcases hu with (hu | hu) | hu
      · exact r.one u (List.mem_of_mem_take hu)
      · exact h1 u hu
      · exact r.one u (List.mem_of_mem_drop hu)
  · -- there is room
    have hgr : n + 1 ≤ cap := by have : ¬ ((cap : Int) < (n + 1 : Nat)) := by simpa using hgr
                                 omega
    have hmul' : (n + 1) * 1 ≤ cap * 1 := Nat.mul_le_mul_right _ hgr
    have hi1 : (i + 1) * 1 ≤ n * 1 := Nat.mul_le_mul_right _ hin
    have s1 : slV (some (none, 1)) (.slice (some ⟨g, 0, none⟩) n cap) none (some (.int .i64 (n + 1 : Nat))) = some (.slice (some ⟨g, 0, none⟩) (n + 1) cap) := by
      have : ((n + 1 : Nat) : Int) ≤ cap := by omega
      have h3 : 0 ≤ (n : Int) + 1 ∧ (n : Int) + 1 ≤ cap := by omega
      simp [slV, bnd, h3, Addr.add_lit, show ¬ cap = 0 by omega]
    have w3 : IntKind.i64.wrap ((i : Int) + (1 : Nat)) = (i + 1 : Nat) := by rw [wrap64_id (by omega) (by omega)]; omega
    have s2 : ∀ j : Nat, j ≤ n → slV (some (none, 1)) (.slice (some ⟨g, 0, none⟩) (n + 1) cap) (some (.int .i64 j)) none = some (.slice (some ⟨g, j * 1, none⟩) (n + 1 - j) (cap - j)) := fun j hj => by
      have h2 : ¬ cap = j := by omega
      have h3 : (j : Int) ≤ (n : Int) + 1 := by omega
      simp [slV, bnd, h3, h2, Addr.add_lit]
    unfold qfhZ
    simp only [bin_add, w1, w3, s1, s2 (i + 1) (by omega), ov_s]
    refine overlaps_nx (tS := qlZ) (tR := qtMZ) (f := qhUZ) (by kernel_rfl) (by kernel_rfl) (by kernel_rfl) (by kernel_rfl) cUnU32 cApU32 (Ne.symm hga) ha hg (by rw [hcs]; omega) ?_
    unfold qfgZ
    simp only [unV_n, ov_s, cd_b, Bool.not_false, true_implies]
    refine ⟨?_, fun h => (by cases h)⟩
    unfold qffZ
    simp only [bin_add, w3, s2 (i + 1) (by omega), s2 i (by omega), ov_s]
    have m2 : min (n + 1 - i) (n + 1 - (i + 1)) = n - i := by omega
    have e5 : i * 1 + (n - i) * 1 = n * 1 := by rw [← Nat.add_mul]; congr 1; omega
    have e6 : (i + 1) * 1 + (n - i) * 1 = (n + 1) * 1 := by rw [← Nat.add_mul]; congr 1; omega
    refine copy_vv cUnU32 cApU32 (cs := (xs.drop (i * 1)).take ((n - i) * 1)) hg ?_ (by rw [m2, hcs]; omega) (one_take _ _) ?_
    · rw [m2]; exact celx _ _ (by omega)
    try unfold qeAZ
    try simp only [s2 i (by omega), ov_s]
    have m1 : min 1 (n + 1 - i) = 1 := by omega
    refine copy_vv cUnU32 cApU32 (cs := x.toList) (upd_same' _ _ _) ?_ (by rw [m1, over_size, hcs]; omega) h1 ?_
    · rw [m1, cels_skip (Ne.symm hga)]
      exact cels_of ha (by rw [List.drop_zero, List.take_of_length_le (by rw [Array.length_toList, hx]; omega)]) (by simpa using hx)
    rw [upd_upd]
    have hdl : (xs.drop (i * 1)).take ((n - i) * 1) = xs.drop (i * 1) := List.take_of_length_le (by simp [hl] <;> omega)
    refine hk _ _ ⟨ext_upd hg0 r.ex, ⟨by simp [hl, hx] <;> omega, .inr ⟨g, cap, _, rfl, upd_same' _ _ _, hgr, hcm, by simp [over_size, hcs], ?_⟩⟩, fun b hb => by simp [rowOf] at hb; subst hb; exact hg0, fun u hu => ?_⟩ fun b o hb hn => by rw [upd_ne (fun hh => hn (by rw [hh]; rfl))]; exact hb
    · rw [hdl]
      have l1 : (xs.drop (i * 1)).length = (n - i) * 1 := by simp [hl] <;> omega
      have cl : cur.toList.length = cap * 1 := by simpa using hcs
      have x1 : x.toList.length = 1 := by simpa using hx
      rw [over_list (by rw [over_size, hcs, x1]; omega), over_list (by rw [hcs, l1]; omega)]
      have e10 : cur.toList.take (i * 1) = xs.take (i * 1) := by rw [← hct, List.take_take, Nat.min_eq_left (by omega)]
      exact spl_ins e10 (by rw [x1]; omega) (by omega) (by rw [l1]; omega) (by omega)
    · simp only [List.mem_append] at hu
      rcases hu with (hu | hu) | hu
      · exact r.one u (List.mem_of_mem_take hu)
      · exact h1 u hu
      · exact r.one u (List.mem_of_mem_drop hu)
theorem delEU32 {v : Value} {n i : Nat} {xs : List Value} {h0 h : Heap} (r : Rf 1 qbZZ h0 h v n xs) (hi : i < n) (hn : n < 10000000)
    (hk : ∀ v' h', Rf 1 qbZZ h0 h' v' (n - 1) (xs.take (i * 1) ++ xs.drop ((i + 1) * 1)) → K v' h') : callM P qbQZ #[v, .int .i64 i, .int .i64 (i + 1 : Nat)] h K := by
  apply qmkZ
  unfold qcqZ
  obtain ⟨g, cap, cur, rfl, hg0, hg, hcap, hcm, hcs, hct⟩ := r.own (by omega)
  have hl : xs.length = n * 1 := r.row.1
  have hmul : n * 1 ≤ cap * 1 := Nat.mul_le_mul_right _ hcap
  have hi1 : (i + 1) * 1 ≤ n * 1 := Nat.mul_le_mul_right _ hi
  have hlen : lnV 7 (.slice (some ⟨g, 0, none⟩) n cap) = some (.int .i64 n) := rfl
  have s0 : ∃ y, sl3V (some (none, 1)) (.slice (some ⟨g, 0, none⟩) n cap) (some (.int .i64 i)) (.int .i64 (i + 1 : Nat)) (.int .i64 n) = some y := by
    have h1 : (n : Int) ≤ cap := by omega
    have h2 : (0 : Int) ≤ (i : Int) + 1 ∧ (i : Int) + 1 ≤ n := by omega
    have h3 : (i : Int) ≤ (i : Int) + 1 := by omega
    have h4 : i ≤ ((i : Int) + 1).toNat := by omega
    simp [sl3V, bnd, h1, h2, h3]
  obtain ⟨y, s0⟩ := s0
  have e3 : binV .eql 2 false (.int .i64 (i : Int)) (.int .i64 (i + 1 : Nat)) = some (.bool false) := by
    have : ¬ (i : Int) = (i + 1 : Nat) := by omega
    simp [-Int.natCast_add, this]
  simp only [hlen, s0, e3, ov_s, cd_b, true_implies]
  refine ⟨fun h => (by cases h), ?_⟩
  unfold qeSZ
  have s1 : slV (some (none, 1)) (.slice (some ⟨g, 0, none⟩) n cap) none (some (.int .i64 i)) = some (.slice (some ⟨g, 0, none⟩) i cap) := by
    have : (i : Int) ≤ cap := by omega
    simp [slV, bnd, this, Addr.add_lit, show ¬ cap = 0 by omega]
  have s2 : ∃ q, slV (some (none, 1)) (.slice (some ⟨g, 0, none⟩) n cap) (some (.int .i64 (i + 1 : Nat))) none = some (.slice (some ⟨g, q, none⟩) (n - (i + 1)) (cap - (i + 1))) ∧ cels h g q ((n - (i + 1)) * 1) = some (xs.drop ((i + 1) * 1)) := by
    have h3 : (0 : Int) ≤ (i : Int) + 1 ∧ (i : Int) + 1 ≤ n := by omega
    have h4 : ((i : Int) + 1).toNat = i + 1 := by omega
    by_cases hc : cap = i + 1
    · refine ⟨0, by simp [slV, bnd, h3, h4, hc, show n = i + 1 by omega], ?_⟩
      have : n - (i + 1) = 0 := by omega
      rw [this, List.drop_eq_nil_of_le (by rw [hl]; have : n = i + 1 := by omega
                                           subst this; omega)]
      simp [cels]
    · refine ⟨(i + 1) * 1, by simp [slV, bnd, h3, h4, hc, Addr.add_lit], ?_⟩
      have e5 : (i + 1) * 1 + (n - (i + 1)) * 1 = n * 1 := by rw [← Nat.add_mul]; congr 1; omega
      rw [r.row.cels (g := g) rfl (by omega), List.take_of_length_le (by simp [hl] <;> omega)]
  obtain ⟨q, s2, s3⟩ := s2
  simp only [hlen, s1, s2, ov_s]
  have e5 : i * 1 + (n - (i + 1)) * 1 = (n - 1) * 1 := by rw [← Nat.add_mul]; congr 1; omega
  have e6 : (n - 1) * 1 ≤ n * 1 := Nat.mul_le_mul_right _ (by omega)
  refine app_fit cUnU32 cApU32 hg s3 (by rw [hcs]; omega) (by omega) (fun u hu => r.one u (List.mem_of_mem_drop hu)) ?_
  unfold qeRZ
  have e7 : i + (n - (i + 1)) = n - 1 := by omega
  rw [e7]
  have s4 : slV (some (none, 1)) (.slice (some ⟨g, 0, none⟩) (n - 1) cap) (some (.int .i64 (n - 1 : Nat))) (some (.int .i64 n)) = some (.slice (some ⟨g, (n - 1) * 1, none⟩) (n - (n - 1)) (cap - (n - 1))) := by
    have h1 : (n : Int) ≤ cap := by omega
    have h2 : ((n - 1 : Nat) : Int) ≤ n := by omega
    simp [slV, bnd, h1, h2, show ¬ cap = n - 1 by omega, Addr.add_lit]
  have hlen2 : lnV 7 (.slice (some ⟨g, 0, none⟩) (n - 1) cap) = some (.int .i64 (n - 1 : Nat)) := rfl
  simp only [hlen2, s4, ov_s]
  have l1 : (xs.drop ((i + 1) * 1)).length = (n - (i + 1)) * 1 := by rw [List.length_drop, hl, ← Nat.sub_mul]
  have l2 : (xs.take (i * 1)).length = i * 1 := by rw [List.length_take, hl]; omega
  have e8 : (n - 1) * 1 + (n - (n - 1)) * 1 = n * 1 := by rw [← Nat.add_mul]; congr 1; omega
  have cl : cur.toList.length = cap * 1 := by simpa using hcs
  have e9 : (over cur (0 + i * 1) (xs.drop ((i + 1) * 1))).toList = xs.take (i * 1) ++ xs.drop ((i + 1) * 1) ++ cur.toList.drop (0 + i * 1 + (n - (i + 1)) * 1) := by
    rw [over_list (by rw [hcs, l1]; omega)]
    unfold spl
    rw [l1]
    congr 2
    rw [← hct, List.take_take, Nat.min_eq_left (by omega), Nat.zero_add]
  have e10 : (xs.take (i * 1) ++ xs.drop ((i + 1) * 1)).length = (n - 1) * 1 := by rw [List.length_append, l1, l2, e5]
  refine clear_vv cUnU32 cApU32 (fun z hz => by rw [cZcU32] at hz; cases hz; rfl) (by omega) (upd_same' _ _ _) (by rw [over_size, hcs]; omega) (fun hz => by omega) fun cs hcs' => ?_
  rw [upd_upd]
  refine hk _ _ ⟨ext_upd hg0 r.ex, ⟨e10, .inr ⟨g, cap, _, rfl, upd_same' _ _ _, by omega, hcm, by simp [over_size, hcs], ?_⟩⟩, fun b hb => by simp [rowOf] at hb; subst hb; exact hg0, fun u hu => ?_⟩
  · rw [over_list (by rw [over_size, hcs, hcs']; omega), e9]
    unfold spl
    rw [List.append_assoc ((xs.take (i * 1) ++ xs.drop ((i + 1) * 1) ++ _).take _), List.take_append_of_le_length (by rw [List.length_take]; simp only [List.length_append, List.length_drop, l1, l2, cl]; omega), List.take_take, Nat.min_self]
    exact List.take_left' e10
  · simp only [List.mem_append] at hu
    rcases hu with hu | hu
    · exact r.one u (List.mem_of_mem_take hu)
    · exact r.one u (List.mem_of_mem_drop hu)
end Go.Proofs.YtcnphhhcknhhaaaGreat
namespace Go.Den
open Go
set_option linter.unusedVariables false
set_option linter.unusedSimpArgs false
structure El {α:Type}(sz:Nat)(R:Heap→List Value→α→Prop)(h:Heap)(L:List (List Value))(ys:List α):Prop where
 len:L.length=ys.length
 size:∀ c∈L,c.length=sz
 one:∀ c∈L,∀ u∈c,u.oneCell'=true
 el:∀ i (h1:i<L.length) (h2:i<ys.length),R h L[i] ys[i]
section
variable {α:Type}{sz:Nat}{R:Heap→List Value→α→Prop}{h h':Heap}{L M:List (List Value)}{ys zs:List α}
theorem El.ext (hR:∀ {h h' c x},Ext h h'→R h c x→R h' c x)(e:Ext h h')(x:El sz R h L ys):El sz R h' L ys:=⟨x.len,x.size,x.one,fun i h1 h2=>hR e (x.el i h1 h2)⟩
theorem El.take (x:El sz R h L ys)(i:Nat):El sz R h (L.take i) (ys.take i) :=
 ⟨by simp[x.len],fun c hc=>x.size c (List.mem_of_mem_take hc),fun c hc=>x.one c (List.mem_of_mem_take hc),fun k h1 h2=>by
  rw[List.getElem_take,List.getElem_take]; exact x.el k _ _⟩
theorem El.drop (x:El sz R h L ys)(i:Nat):El sz R h (L.drop i) (ys.drop i) :=
 ⟨by simp[x.len],fun c hc=>x.size c (List.mem_of_mem_drop hc),fun c hc=>x.one c (List.mem_of_mem_drop hc),fun k h1 h2=>by
  rw[List.getElem_drop,List.getElem_drop]; exact x.el _ _ _⟩
theorem El.app (x:El sz R h L ys)(y:El sz R h M zs):El sz R h (L++M) (ys++zs):=by
 refine⟨by simp[x.len,y.len],fun c hc=>?_,fun c hc=>?_,fun i h1 h2=>?_⟩
 ·rcases List.mem_append.1 hc with hc | hc
  ·exact x.size c hc
  ·exact y.size c hc
 ·rcases List.mem_append.1 hc with hc | hc
  ·exact x.one c hc
  ·exact y.one c hc
 ·by_cases hi:i<L.length
  ·have hi':i<ys.length:=by rw[← x.len]; exact hi
   rw[List.getElem_append_left hi,List.getElem_append_left hi']; exact x.el i hi hi'
  ·have hi':¬ i<ys.length:=by rw[← x.len]; exact hi
   rw[List.getElem_append_right (by omega),List.getElem_append_right (by omega)]
   have hl:=x.len
   simp only[← hl]
   exact y.el (i-L.length) (by simp at h1; omega) (by simp at h2; omega)
theorem El.sing {c:List Value}{y:α}(h1:c.length=sz)(h2:∀ u∈c,u.oneCell'=true)(h3:R h c y):El sz R h [c] [y] :=
 ⟨rfl,by simpa using h1,by simpa using h2,fun i (k1:i<1) k2=>by
  have:i=0:=by omega
  subst this; exact h3⟩
theorem El.enc {enc:α→List Value}(hl:∀ y,(enc y).length=sz)(h1:∀ y,∀ u∈enc y,u.oneCell'=true)(hR:∀ h y,R h (enc y) y):El sz R h (ys.map enc) ys :=
 ⟨by simp,fun c hc=>by obtain⟨y,_,rfl⟩:=List.mem_map.1 hc; exact hl y,fun c hc=>by obtain⟨y,_,rfl⟩:=List.mem_map.1 hc; exact h1 y,fun i k1 k2=>by simp only[List.getElem_map]; exact hR h _⟩
theorem El.fone (x:El sz R h L ys):∀ u∈L.flatten,u.oneCell'=true:=fun u hu=>by
 obtain⟨c,hc,hu⟩:=List.mem_flatten.1 hu
 exact x.one c hc u hu
theorem El.ftake (x:El sz R h L ys)(i:Nat):L.flatten.take (i*sz)=(L.take i).flatten:=flat_take x.size
theorem El.fdrop (x:El sz R h L ys)(i:Nat):L.flatten.drop (i*sz)=(L.drop i).flatten:=flat_drop x.size
theorem Sl.els {v:Value}(x:Sl sz R h v ys)(h1:∀ c y,R h c y→∀ u∈c,u.oneCell'=true):∃ L,SlC sz h v ys.length L.flatten∧El sz R h L ys:=by
 obtain⟨L,q1,q2,q3,q4⟩:=x.slc
 refine⟨L,q1,q2,q3,fun c hc=>?_,q4⟩
 obtain⟨i,hi,rfl⟩:=List.getElem_of_mem hc
 exact h1 _ _ (q4 i hi (by omega))
theorem SlC.ext {v:Value}{n:Nat}{xs:List Value}(e:Ext h h')(x:SlC sz h v n xs):SlC sz h' v n xs:=by
 rcases x with ⟨h1,h2,h3⟩ | ⟨b,o,cap,h1,h2⟩
 ·exact .inl ⟨h1,h2,h3⟩
 ·exact .inr ⟨b,o,cap,h1,cels_ext e h2⟩
theorem Rf.sl {T:Tags}{e:TypeId}{h0:Heap}{v:Value}{n:Nat}(r:Rf sz e h0 h v n L.flatten)(w:Wf T h0)(hn:n=ys.length)(x:El sz R (fz T h) L ys):Sl sz R (fz T h) v ys :=
 (r.row.fz w r.new).slL hn x.len x.size x.el
end
theorem StrR.one {h:Heap}:∀ c y,StrR h c y→∀ u∈c,u.oneCell'=true:=fun c y r u hu=>by
 have:c=[.string y]:=r.1
 subst this; simp at hu; subst hu; rfl
theorem SessR.one {h:Heap}:∀ c y,SessR h c y→∀ u∈c,u.oneCell'=true:=fun c y r u hu=>by
 have:c=sessC y:=r
 subst this; simp[sessC] at hu; rcases hu with rfl | rfl | rfl | rfl<;>rfl
theorem MaskR.one {h:Heap}:∀ c y,MaskR h c y→∀ u∈c,u.oneCell'=true:=fun c y r u hu=>by
 have:c=[.int .u32 y]:=r
 subst this; simp at hu; subst hu; rfl
theorem EntR.one {h:Heap}:∀ c y,EntR h c y→∀ u∈c,u.oneCell'=true:=fun c y r u hu=>by
 obtain⟨v,rfl,h1,h2⟩:=r
 simp[presC] at hu; rcases hu with rfl | rfl | rfl | rfl
 ·exact h1.one.1
 ·rfl
 ·rfl
 ·rfl
theorem EvR.one {h:Heap}:∀ c y,EvR h c y→∀ u∈c,u.oneCell'=true:=fun c y r u hu=>by
 have:c=evC y:=r
 subst this; simp[evC,presC] at hu; rcases hu with rfl | rfl | rfl | rfl | rfl | rfl | rfl | rfl<;>rfl
def putB {α:Type}:List (ByteArray × α)→ByteArray→α→List (ByteArray × α)
 | [],u,e=>[(u,e)]
 | (k,x)::r,u,e=>if ltS k u then (k,x)::putB r u e else if k=u then (u,e)::r else (u,e)::(k,x)::r
def delB {α:Type}(b:List (ByteArray × α))(u:ByteArray):List (ByteArray × α):=b.filter fun x=>!decide (x.1=u)
def keysL {α:Type}(b:List (ByteArray × α)):List ByteArray:=b.map (·.1)
def hasL {α:Type}(b:List (ByteArray × α))(u:ByteArray):Bool:=(keysL b).any fun k=>decide (k=u)
theorem hasL_iff {α:Type}{b:List (ByteArray × α)}{u:ByteArray}:hasL b u=true↔u∈keysL b:=by simp[hasL]
theorem pos_cons_lt {k u:ByteArray}{l:List ByteArray}(h:ltS k u=true):pos (k::l) u=pos l u+1:=by simp[pos,List.takeWhile_cons,h]
theorem pos_cons_ge {k u:ByteArray}{l:List ByteArray}(h:ltS k u=false):pos (k::l) u=0:=by simp[pos,List.takeWhile_cons,h]
theorem putB_has {α:Type}{u:ByteArray}{e:α}:∀ {b:List (ByteArray × α)},SrtK (keysL b)→u∈keysL b→putB b u e=b.take (pos (keysL b) u)++[(u,e)]++b.drop (pos (keysL b) u+1)
 | [],_,h=>by simp[keysL] at h
 | (k,x)::r,s,h=>by
  have s':SrtK (keysL r):=(List.pairwise_cons.1 s).2
  simp only[putB]
  cases hk:ltS k u with
  | true =>
   have:u∈keysL r:=by
    simp only[keysL,List.map_cons,List.mem_cons] at h
    rcases h with rfl | h
    ·rw[ltS_irrefl] at hk; cases hk
    ·exact h
   have e1:pos (keysL ((k,x)::r)) u=pos (keysL r) u+1:=pos_cons_lt hk
   rw[e1,if_pos rfl,putB_has s' this]
   rfl
  | false =>
   have hku:k=u:=by
    simp only[keysL,List.map_cons,List.mem_cons] at h
    rcases h with rfl | h
    ·rfl
    ·have:=(List.pairwise_cons.1 s).1 u h
     rw[hk] at this; cases this
   have e1:pos (keysL ((k,x)::r)) u=0:=pos_cons_ge hk
   rw[e1]
   simp[hku]
theorem putB_new {α:Type}{u:ByteArray}{e:α}:∀ {b:List (ByteArray × α)},SrtK (keysL b)→u ∉ keysL b→putB b u e=b.take (pos (keysL b) u)++[(u,e)]++b.drop (pos (keysL b) u)
 | [],_,h=>by simp[putB]
 | (k,x)::r,s,h=>by
  have s':SrtK (keysL r):=(List.pairwise_cons.1 s).2
  simp only[keysL,List.map_cons,List.mem_cons,not_or] at h
  simp only[putB]
  cases hk:ltS k u with
  | true =>
   have e1:pos (keysL ((k,x)::r)) u=pos (keysL r) u+1:=pos_cons_lt hk
   rw[e1,if_pos rfl,putB_new s' h.2]
   rfl
  | false =>
   have e1:pos (keysL ((k,x)::r)) u=0:=pos_cons_ge hk
   rw[e1]
   simp[Ne.symm h.1]
theorem delB_none {α:Type}{u:ByteArray}{b:List (ByteArray × α)}(h:u ∉ keysL b):delB b u=b:=by
 refine List.filter_eq_self.2 fun x hx=>?_
 have:x.1≠u:=fun e=>h (e▸List.mem_map_of_mem hx)
 simp[this]
theorem delB_has {α:Type}{u:ByteArray}:∀ {b:List (ByteArray × α)},SrtK (keysL b)→u∈keysL b→delB b u=b.take (pos (keysL b) u)++b.drop (pos (keysL b) u+1)
 | [],_,h=>by simp[keysL] at h
 | (k,x)::r,s,h=>by
  have s':SrtK (keysL r):=(List.pairwise_cons.1 s).2
  cases hk:ltS k u with
  | true =>
   have hne:k≠u:=fun e=>by rw[e,ltS_irrefl] at hk; cases hk
   have:u∈keysL r:=by
    simp only[keysL,List.map_cons,List.mem_cons] at h
    exact h.resolve_left (Ne.symm hne)
   have e1:pos (keysL ((k,x)::r)) u=pos (keysL r) u+1:=pos_cons_lt hk
   rw[e1]
   have:=delB_has s' this
   unfold delB at this ⊢
   simp[hne,this]
  | false =>
   have hku:k=u:=by
    simp only[keysL,List.map_cons,List.mem_cons] at h
    rcases h with rfl | h
    ·rfl
    ·have:=(List.pairwise_cons.1 s).1 u h
     rw[hk] at this; cases this
   have e1:pos (keysL ((k,x)::r)) u=0:=pos_cons_ge hk
   have hn:u ∉ keysL r:=fun h=>by
    have:=(List.pairwise_cons.1 s).1 u h
    rw[hk] at this; cases this
   rw[e1]
   have:=delB_none hn
   unfold delB at this ⊢
   simp[hku,this]
theorem keys_putB {α:Type}{u:ByteArray}{e:α}:∀ {b:List (ByteArray × α)} {k:ByteArray},k∈keysL (putB b u e)→k=u∨k∈keysL b
 | [],k,h=>by simp[putB,keysL] at h; exact .inl h
 | (k',x)::r,k,h=>by
  simp only[putB] at h
  split at h
  ·simp only[keysL,List.map_cons,List.mem_cons] at h ⊢
   rcases h with h | h
   ·exact .inr (.inl h)
   ·rcases keys_putB h with h | h
    ·exact .inl h
    ·exact .inr (.inr h)
  ·split at h
   ·simp only[keysL,List.map_cons,List.mem_cons] at h ⊢
    rcases h with h | h
    ·exact .inl h
    ·exact .inr (.inr h)
   ·simp only[keysL,List.map_cons,List.mem_cons] at h ⊢
    exact h
theorem putB_srt {α:Type}{u:ByteArray}{e:α}:∀ {b:List (ByteArray × α)},SrtK (keysL b)→SrtK (keysL (putB b u e))
 | [],_=>by simp[putB,keysL,SrtK]
 | (k,x)::r,s=>by
  obtain⟨s1,s2⟩:=List.pairwise_cons.1 s
  simp only[putB]
  cases hk:ltS k u with
  | true =>
   rw[if_pos rfl]
   refine List.pairwise_cons.2 ⟨fun j hj=>?_,putB_srt s2⟩
   rcases keys_putB hj with rfl | hj
   ·exact hk
   ·exact s1 j hj
  | false =>
   simp only[Bool.false_eq_true,if_false]
   by_cases hku:k=u
   ·rw[if_pos hku]; subst hku; exact List.pairwise_cons.2 ⟨s1,s2⟩
   ·rw[if_neg hku]
    have huk:ltS u k=true:=by
     cases h:ltS u k with
     | true=>rfl
     | false=>exact absurd (ltS_total hk h) hku
    refine List.pairwise_cons.2 ⟨fun j hj=>?_,s⟩
    simp only[List.map_cons,List.mem_cons] at hj
    rcases hj with rfl | hj
    ·exact huk
    ·exact ltS_trans huk (s1 j hj)
theorem delB_srt {α:Type}{u:ByteArray}{b:List (ByteArray × α)}(s:SrtK (keysL b)):SrtK (keysL (delB b u)):=by
 unfold SrtK keysL delB at *
 exact s.sublist ((List.filter_sublist).map _)
theorem putB_len {α:Type}{u:ByteArray}{e:α}:∀ {b:List (ByteArray × α)},(putB b u e).length≤b.length+1
 | []=>by simp[putB]
 | (k,x)::r=>by
  have:=putB_len (u:=u) (e:=e) (b:=r)
  simp only[putB]; split
  ·simp; omega
  ·split<;>simp
theorem delB_len {α:Type}{u:ByteArray}{b:List (ByteArray × α)}:(delB b u).length≤b.length:=List.length_filter_le _ _
end Go.Den
namespace Go.Den
open Go
set_option linter.unusedVariables false
theorem flat_spl {sz:Nat}{L:List (List Value)}{i:Nat}{c:List Value}(hL:∀ c∈L,c.length=sz)(hi:i<L.length)(hc:c.length=sz):spl L.flatten (i*sz) c=(L.take i++[c]++L.drop (i+1)).flatten:=by
 unfold spl
 rw[hc,show i*sz+sz=(i+1)*sz by rw[Nat.add_mul]; omega,flat_take hL,flat_drop hL]
 simp
theorem Rf.st {sz : Nat} {e : TypeId} {h0 h : Heap} {v : Value} {n : Nat} {L : List (List Value)} (r : Rf sz e h0 h v n L.flatten) (hL : ∀ c ∈ L, c.length = sz) (hn : L.length = n) {i : Nat} (hi : i < n) {c : Value} (hc : c.cells.size = sz) (h1 : ∀ u ∈ c.cells.toList, u.oneCell' = true) {k : IntKind} :
    ∃ g, rowOf v = some g ∧ iaV (some (none, sz)) v (.int k i) = some (.pointer (some ⟨g, i * sz, none⟩)) ∧ h0 g = none ∧ (∃ o, h g = some o) ∧
      ∀ K : Heap → Prop, (∀ o', Rf sz e h0 (upd h g o') v n (L.take i ++ [c.cells.toList] ++ L.drop (i + 1)).flatten → K (upd h g o')) → stM (some sz) (.pointer (some ⟨g, i * sz, none⟩)) c h K := by
  obtain ⟨g, h2, h3⟩ := r.row.ia (k := k) hi
  obtain ⟨o, ho⟩ := r.row.lt g h2
  refine ⟨g, h2, h3, r.new g h2, ⟨o, ho⟩, fun K hK => ?_⟩
  refine r.row.st h2 hc (by have : (i + 1) * sz ≤ n * sz := Nat.mul_le_mul_right _ hi
                            rw [Nat.add_mul] at this; omega) h1 fun h' hk hr => ?_
  obtain ⟨o', ho'⟩ := hr.lt g h2
  have e1 : h' = upd h g o' := upd_of hk ho'
  rw [flat_spl hL (by omega) (by simpa using hc)] at hr
  subst e1
  refine hK o' ⟨ext_upd (r.new g h2) r.ex, hr, r.new, fun u hu => ?_⟩
  simp only [List.flatten_append, List.mem_append, List.flatten_cons, List.flatten_nil, List.append_nil] at hu
  rcases hu with (hu | hu) | hu
  · obtain ⟨d, hd, hu⟩ := List.mem_flatten.1 hu
    exact r.one u (List.mem_flatten.2 ⟨d, List.mem_of_mem_take hd, hu⟩)
  · exact h1 u hu
  · obtain ⟨d, hd, hu⟩ := List.mem_flatten.1 hu
    exact r.one u (List.mem_flatten.2 ⟨d, List.mem_of_mem_drop hd, hu⟩)
theorem keys_put_has {α:Type}{u:ByteArray}{e:α}:∀ {b:List (ByteArray × α)},SrtK (keysL b)→u∈keysL b→keysL (putB b u e)=keysL b
 | [],_,h=>by simp[keysL] at h
 | (k,x)::r,s,h=>by
  have s':SrtK (keysL r):=(List.pairwise_cons.1 s).2
  simp only[putB]
  cases hk:ltS k u with
  | true =>
   have:u∈keysL r:=by
    simp only[keysL,List.map_cons,List.mem_cons] at h
    rcases h with rfl | h
    ·rw[ltS_irrefl] at hk; cases hk
    ·exact h
   have ih:=keys_put_has (e:=e) s' this
   rw[if_pos rfl]
   simp only[keysL,List.map_cons] at ih ⊢
   rw[ih]
  | false =>
   have hku:k=u:=by
    simp only[keysL,List.map_cons,List.mem_cons] at h
    rcases h with rfl | h
    ·rfl
    ·have:=(List.pairwise_cons.1 s).1 u h
     rw[hk] at this; cases this
   simp[hku,keysL]
theorem Rf.skip {sz:Nat}{e:TypeId}{h0 h:Heap}{v:Value}{n:Nat}{xs:List Value}{b:Nat}{o:Obj}(r:Rf sz e h0 h v n xs)(hb:h0 b=none)(hv:rowOf v≠some b):Rf sz e h0 (upd h b o) v n xs :=
 ⟨ext_upd hb r.ex,r.row.of_at fun g hg=>by rw[upd_ne (fun hh=>hv (by rw[hg,hh]))],r.new,r.one⟩
theorem Rf.ne_old {sz:Nat}{e:TypeId}{h0 h:Heap}{v:Value}{n:Nat}{xs:List Value}{b:Nat}{o:Obj}(r:Rf sz e h0 h v n xs)(hb:h0 b=some o):rowOf v≠some b:=fun hh=>by rw[r.new b hh] at hb; cases hb
theorem Rf.ne_new {sz:Nat}{e:TypeId}{h0 h:Heap}{v:Value}{n:Nat}{xs:List Value}{b:Nat}(r:Rf sz e h0 h v n xs)(hb:h b=none):rowOf v≠some b:=fun hh=>by obtain⟨o,ho⟩:=r.row.lt b hh; rw[hb] at ho; cases ho
end Go.Den
namespace Go.Den
open Go
theorem cels_sub {h:Heap}{b o n:Nat}{l:List Value}(hc:cels h b o n=some l){j m:Nat}(hj:j+m≤n):cels h b (o+j) m=some ((l.drop j).take m):=by
 obtain⟨h1,h2⟩:=cels_get hc
 have:∀ (m o:Nat) (l':List Value),l'.length=m→(∀ i (hi:i<m),cel h b (o+i)=l'[i]?)→cels h b o m=some l':=by
  intro m
  induction m with
  | zero=>intro o l' hl _; simp[List.eq_nil_of_length_eq_zero hl,cels]
  | succ m ih =>
   intro o l' hl hi
   cases l' with
   | nil=>simp at hl
   | cons x l' =>
    have e0:=hi 0 (by omega)
    simp only[Nat.add_zero,List.getElem?_cons_zero] at e0
    have e1:=ih (o+1) l' (by simpa using hl) fun i hi'=>by
     have:=hi (i+1) (by omega)
     rw[List.getElem?_cons_succ] at this
     rw[← this]; congr 1; omega
    simp only[cels,e0,e1]
 refine this m (o+j) _ (by simp; omega) fun i hi=>?_
 have:=h2 (j+i) (by omega)
 rw[show o+j+i=o+(j+i) by omega,this,List.getElem?_take_of_lt hi,List.getElem?_drop]
 exact (List.getElem?_eq_getElem _).symm
end Go.Den
namespace Go.Den
open Go
def valL {α:Type}(d:α):List (ByteArray × α)→ByteArray→α
 | [],_=>d
 | (k,e)::r,u=>if k=u then e else valL d r u
theorem valL_mem {α:Type}{d:α}{b:List (ByteArray × α)}(s:SrtK (keysL b)){i:Nat}(hi:i<b.length):valL d b b[i].1=b[i].2:=by
 induction b generalizing i with
 | nil=>simp at hi
 | cons x b ih =>
  obtain⟨k,e⟩:=x
  have s':SrtK (keysL b):=(List.pairwise_cons.1 s).2
  cases i with
  | zero=>simp[valL]
  | succ i =>
   have hi':i<b.length:=by simpa using hi
   have hne:¬ k=b[i].1:=fun h=>by
    have:=(List.pairwise_cons.1 s).1 b[i].1 (List.mem_map_of_mem (List.getElem_mem _))
    rw[h,ltS_irrefl] at this; cases this
   simp only[List.getElem_cons_succ,valL,if_neg hne]
   exact ih s' hi'
theorem valL_none {α:Type}{d:α}{b:List (ByteArray × α)}{u:ByteArray}(h:u ∉ keysL b):valL d b u=d:=by
 induction b with
 | nil=>rfl
 | cons x b ih =>
  obtain⟨k,e⟩:=x
  simp only[keysL,List.map_cons,List.mem_cons,not_or] at h
  simp only[valL,if_neg (Ne.symm h.1)]
  exact ih h.2
end Go.Den
namespace Go.Proofs.YtcnphhhcknhhaaaGreat
open Go Go.Den Go.MapKept
set_option linter.unusedSimpArgs false
set_option linter.unusedVariables false
set_option maxRecDepth 20000
theorem bdMap (a b:Option Addr)(n m c d:Nat):bdV (binf P qaZ) [(0,.slice a n c),(1,.slice b m d)]=some (.agg #[.slice a n c,.slice b m d]):=by kernel_rfl
theorem tgMap:tagg P qaZ=some (some 2):=by kernel_rfl
theorem row_sl {sz:Nat}{e:TypeId}{h:Heap}{v:Value}{n:Nat}{xs:List Value}(r:Row sz e h v n xs):∃ a n c,v = .slice a n c:=by
 rcases r.2 with ⟨rfl,_⟩ | ⟨g,cap,cur,rfl,_⟩<;>exact⟨_,_,_,rfl⟩
theorem sl_sl {α:Type}{sz:Nat}{R:Heap→List Value→α→Prop}{h:Heap}{v:Value}{xs:List α}(x:Sl sz R h v xs):∃ a n c,v = .slice a n c:=by
 rcases x with ⟨rfl,a,c,rfl⟩ | ⟨b,o,cap,rfl,_⟩<;>exact⟨_,_,_,rfl⟩
theorem bdMapS {k v:Value}(hk:∃ a n c,k = .slice a n c)(hv:∃ a n c,v = .slice a n c):bdV (binf P qaZ) [(0,k),(1,v)]=some (.agg #[k,v]):=by
 obtain⟨a,n,c,rfl⟩:=hk
 obtain⟨b,m,d,rfl⟩:=hv
 exact bdMap _ _ _ _ _ _
variable {K:KTy}
theorem with_ok (b:Book)(so:SrtK (keysB b))(u:ByteArray)(hu:u.size≤maxLen)(e:Ent){T:Tags}{h:Heap}(w:Wf T h){kw vw sv:Value}(x:BookR (fz T h) kw vw b)(hs:Sl 4 SessR (fz T h) sv e.ss)(hn:Sn sv)(hl:b.length<1000000)
  (hk:∀ h' k v,Ext h h'→BookR (fz T h') k v (putB b u e)→K (.agg #[k,v]) h'):callM P qaVZ #[.agg #[kw,vw],.string u,.agg (sv::presC e.told).toArray] h K:=by
 apply qjVZ
 unfold qbkZ
 rw[zcMap]
 refine nw_agg fun v1 h1 n1 e1 c1=>?_
 refine nw_agg fun v3 h3 n3 e3 c3=>?_
 refine nw_intro fun v5 h5 n5 e5 c5=>?_
 have ne13:=ne_fresh c1 n3
 have ne15:=ne_fresh (e3 _ _ c1) n5
 have ne35:=ne_fresh c3 n5
 have c1:=e5 _ _ (e3 _ _ c1)
 have c3:=e5 _ _ c3
 have n5:h v5=none:=fresh_of (e1.trans e3) n5
 have e0:=(e1.trans e3).trans e5
 have kl:(keysB b).length=b.length:=by simp[keysB]
 simp -implicitDefEqProofs[ld_at c1,cel_of c1,stm_at c1,stm_upd,ld_same,cel_same,over]
 refine find_ok (keysB b) so u x.2.1.one.2 (x.1.ext (@StrR.ext) ((fz_ext T h).trans e0)) (by omega) fun h6 e6=>?_
 have c1:=e6 _ _ c1
 have c3:=e6 _ _ c3
 have c5:=e6 _ _ c5
 have e0:=e0.trans e6
 have w6:=w.ext e0
 have x6:BookR (fz T h6) kw vw b:=x.ext (fz_of_ext e0)
 have hs6:Sl 4 SessR (fz T h6) sv e.ss:=hs.ext (@SessR.ext) (fz_of_ext e0)
 unfold qdDZ
 simp -implicitDefEqProofs only[exV_0,exV_1,ov_s]
 rw[seqM_eq]
 unfold qdCZ
 simp -implicitDefEqProofs only[cd_b]
 have o1:=x6.1.one
 have o2:=x6.2.1.one
 have os:=hs6.one
 obtain⟨Lk,k1,k2⟩:=x.1.els StrR.one
 obtain⟨Lv,l1,l2⟩:=x.2.1.els EntR.one
 simp -implicitDefEqProofs only[List.length_map] at k1 l1
 have lk:=k2.len
 have lv:=l2.len
 simp -implicitDefEqProofs only[List.length_map] at lk lv
 refine⟨fun hy=>?_,fun hno=>?_⟩
 ·have hyes:hasL b u=true:=hy
  have hmem:=hasL_iff.1 hyes
  obtain⟨p1,p2⟩:=(mem_pos so u).1 hmem
  have hpb:pos (keysB b) u<b.length:=by omega
  have put:putB b u e=b.take (pos (keysB b) u)++[(u,e)]++b.drop (pos (keysB b) u+1):=putB_has so hmem
  have keq:(putB b u e).map (·.1)=b.map (·.1):=keys_put_has so hmem
  obtain⟨p,hp⟩:∃ p,pos (keysB b) u=p:=⟨_,rfl⟩
  rw[hp] at hpb put ⊢
  -- what is left once the values lie anew
  have fin:∀ (h7:Heap) (vo v':Value) (o:Nat) (s:Env) (m:List Nat),vo=ptr o→Ext h6 h7→h6 o=none→h7 o=some (.cells #[kw,v'] qaZ (0,0))→rowOf v'≠some o→Rf 4 qrZ h6 h7 v' b.length Lv.flatten →
    s 9=vo→s 5=ptr v3→s 6=ptr v5→s 7 = .int .i64 p→qaPZ s h7 (thenM (fun m s13 h14=>qaLZ s13 h14 m K) (retM P [.cell 6 qaZ] K)) []:=by
   rintro h7 vo v' o s m rfl e7 no co hro r s9 s5 s6 s7
   have nov:v5≠o:=ne_fresh c5 no
   have no3:v3≠o:=ne_fresh c3 no
   have c1':=c1
   have c5':=c5
   have c1:=e7 _ _ c1
   have c3:=e7 _ _ c3
   have c5:=e7 _ _ c5
   obtain⟨g,q1,q2,q3,⟨go,q4⟩,q5⟩:=r.st (i:=p) (c:=.agg (sv::presC e.told).toArray) (k:=.i64) l2.size (by omega) hpb (by simp[presC]) (by simp[presC,os.1])
   have hgo:g≠o:=fun hh=>hro (by rw[q1,hh])
   have hg5:v5≠g:=ne_fresh c5' q3
   have hg1:v1≠g:=ne_fresh c1' q3
   unfold qaPZ
   simp -implicitDefEqProofs only[presC] at c3 q5
   have ov':=r.row.one
   simp -implicitDefEqProofs[s9,s5,s6,s7,ld_at co,cel_of co,stm_at co,ld_at c3,cel_of c3,stm_at c3,ld_at c5,cel_of c5,stm_at c5,stm_upd,ld_same,cel_same,over,q2]
   refine q5 _ fun o' r'=>?_
   have e8:=ext_upd (o:=o') q3 e7
   simp -implicitDefEqProofs[ld_at co,cel_of co,stm_at co,ld_at c3,cel_of c3,stm_at c3,ld_at c5,cel_of c5,stm_at c5,stm_skip hgo,stm_skip (Ne.symm hgo),ld_skip hgo,ld_skip (Ne.symm hgo),cel_skip hgo,cel_skip (Ne.symm hgo),stm_skip hg5,stm_skip (Ne.symm hg5),ld_skip hg5,ld_skip (Ne.symm hg5),cel_skip hg5,cel_skip (Ne.symm hg5),stm_upd,ld_same,cel_same,over,s9,s5,s6,s7,o1.1,ov'.1,tgMap]
   rw[upd_comm hg5]
   have e9:=ext_upd (o:=.cells #[kw,v'] qaZ (0,0)) n5 (e0.trans e8)
   refine hk _ kw v' e9 ⟨?_,?_,x.2.2.1,r'.row.sn⟩
   ·rw[keq]; exact x.1.ext (@StrR.ext) (fz_of_ext e9)
   ·have r9:=(r'.back e0).skip (o:=.cells #[kw,v'] qaZ (0,0)) n5 (by rw[q1]; intro hh; cases hh; exact hg5 rfl)
    rw[put]
    simp -implicitDefEqProofs only[List.map_append,List.map_take,List.map_drop,List.map_cons,List.map_nil]
    have l3:=l2.ext (@EntR.ext) (fz_of_ext e9)
    have hs9:=hs.ext (@SessR.ext) (fz_of_ext e9)
    exact r9.sl w (by simp; omega) (((l3.take p).app (El.sing (by simp[presC]) (by simp[presC,os.1]) ⟨sv,rfl,hs9,hn⟩)).app (l3.drop (p+1)))
  unfold qdAZ
  rw[seqM_eq]
  unfold qdzZ
  have lv6:=(l1.ext ((fz_ext T h).trans e0))
  simp -implicitDefEqProofs[ld_at c1,cel_of c1,stm_at c1,stm_upd,ld_same,cel_same,over]
  refine⟨?_,?_⟩
  ·unfold qdxZ
   refine cloneEEnt lv6 x.2.2.2 l2.fone (by omega) fun v' h7 r7=>?_
   have c1':=r7.ex _ _ c1
   unfold qdwZ
   simp -implicitDefEqProofs[ld_at c1',cel_of c1',stm_at c1',stm_upd,ld_same,cel_same,over,bdMapS (sl_sl x.1) (row_sl r7.row),zcMap]
   intro o no
   have ne:=ne_fresh c1' no
   have no6:=fresh_of r7.ex no
   have hro:rowOf v'≠some o:=fun hh=>by obtain⟨z,hz⟩:=r7.row.lt o hh; rw[no] at hz; cases hz
   simp -implicitDefEqProofs[ld_at c1',cel_of c1',stm_at c1',stm_skip ne,stm_skip (Ne.symm ne),ld_skip ne,ld_skip (Ne.symm ne),cel_skip ne,cel_skip (Ne.symm ne),stm_upd,ld_same,cel_same,over,o1.1,r7.row.one.1]
   refine fin _ _ v' o _ [] rfl (ext_upd no6 r7.ex) no6 (upd_same' _ _ _) hro (r7.skip no6 hro) ?_ ?_ ?_ ?_<;>simp
  ·unfold qdyZ
   rw[zcMap]
   simp -implicitDefEqProofs only[nwM_s]
   intro o no
   have ne:=ne_fresh c1 no
   have e7:Ext h6 (upd h6 o _):=Ext.upd no (.cells #[.slice none 0 0,.slice none 0 0] qaZ (0,0))
   have co:=upd_same' h6 o (.cells #[.slice none 0 0,.slice none 0 0] qaZ (0,0))
   have c1':=e7 _ _ c1
   generalize upd h6 o _=h7 at *
   simp -implicitDefEqProofs[ld_at c1',cel_of c1',stm_at c1',stm_upd,ld_same,cel_same,over]
   refine cloneEEnt (lv6.ext e7) x.2.2.2 l2.fone (by omega) fun v' h8 r8=>?_
   have c1':=r8.ex _ _ c1'
   have co0:=co
   have co:=r8.ex _ _ co
   have hro:rowOf v'≠some o:=fun hh=>by have h1:=r8.new o hh; rw[co0] at h1; cases h1
   simp -implicitDefEqProofs[ld_at c1',cel_of c1',stm_at c1',ld_at co,cel_of co,stm_at co,stm_upd,ld_same,cel_same,over,o1.1,r8.row.one.1,bdMapS (sl_sl x.1) (row_sl r8.row)]
   refine fin _ _ v' o _ [] rfl (ext_upd no (e7.trans r8.ex)) no (upd_same' _ _ _) hro ((r8.back e7).skip no hro) ?_ ?_ ?_ ?_<;>simp
 ·have hno':hasL b u=false:=hno
  have hmem:u ∉ keysL b:=fun hh=>by rw[hasL_iff.2 hh] at hno'; cases hno'
  have put:putB b u e=b.take (pos (keysB b) u)++[(u,e)]++b.drop (pos (keysB b) u):=putB_new so hmem
  have hpb:=(pos_spec so u).1
  obtain⟨p,hp⟩:∃ p,pos (keysB b) u=p:=⟨_,rfl⟩
  rw[hp] at hpb put ⊢
  have hpb:p≤b.length:=by omega
  have k0:=k1.ext ((fz_ext T h).trans e0)
  have l0:=l1.ext ((fz_ext T h).trans e0)
  have k0:SlC 1 h6 kw b.length Lk.flatten:=k0
  have l0:SlC 4 h6 vw b.length Lv.flatten:=l0
  have fin2:∀ (h':Heap) (vk vv:Value),Ext h6 h'→Rf 1 qaHZ h6 h' vk (b.length+1) (Lk.flatten.take (p*1)++(Value.string u).cells.toList++Lk.flatten.drop (p*1)) →
    Rf 4 qrZ h6 h' vv (b.length+1) (Lv.flatten.take (p*4)++(Value.agg (sv::presC e.told).toArray).cells.toList++Lv.flatten.drop (p*4))→∀ s:Env,s 6=ptr v5 →
    ov (bdV (binf P qaZ) [(0,vk),(1,vv)]) fun v=>stM (some 2) (ptr v5) v h' fun h''=>retM P [.cell 6 qaZ] K .ret [] s h'':=by
   intro h' vk vv e7 rk rv s s6
   have c5':=e7 _ _ c5
   have u1:=rk.row.one
   have u2:=rv.row.one
   have nk:rowOf vk≠some v5:=Rf.ne_old rk c5
   have nv:rowOf vv≠some v5:=Rf.ne_old rv c5
   simp -implicitDefEqProofs[bdMapS (row_sl rk.row) (row_sl rv.row),ld_at c5',cel_of c5',stm_at c5',stm_upd,ld_same,cel_same,over,u1.1,u2.1,tgMap,s6]
   have e9:=ext_upd (o:=.cells #[vk,vv] qaZ (0,0)) n5 (e0.trans e7)
   have rk9:=(rk.back e0).skip (o:=.cells #[vk,vv] qaZ (0,0)) n5 nk
   have rv9:=(rv.back e0).skip (o:=.cells #[vk,vv] qaZ (0,0)) n5 nv
   have k3:=k2.ext (@StrR.ext) (fz_of_ext e9)
   have l3:=l2.ext (@EntR.ext) (fz_of_ext e9)
   have hs9:=hs.ext (@SessR.ext) (fz_of_ext e9)
   refine hk _ vk vv e9 ⟨?_,?_,rk.row.sn,rv.row.sn⟩
   ·have:=((k3.take p).app (El.sing (c:=[.string u]) (y:=u) (by simp) (by simp) ⟨rfl,hu⟩)).app (k3.drop p)
    rw[k2.ftake,k2.fdrop] at rk9
    rw[put]
    simp -implicitDefEqProofs only[List.map_append,List.map_take,List.map_drop,List.map_cons,List.map_nil]
    have e8:(Lk.take p).flatten++(Value.string u).cells.toList++(Lk.drop p).flatten=(Lk.take p++[[Value.string u]]++Lk.drop p).flatten:=by simp
    rw[e8] at rk9
    exact rk9.sl w (by simp; omega) this
   ·have:=((l3.take p).app (El.sing (by simp[presC]) (by simp[presC,os.1]) ⟨sv,rfl,hs9,hn⟩)).app (l3.drop p)
    rw[l2.ftake,l2.fdrop] at rv9
    rw[put]
    simp -implicitDefEqProofs only[List.map_append,List.map_take,List.map_drop,List.map_cons,List.map_nil]
    have e8:(Lv.take p).flatten++(Value.agg (sv::presC e.told).toArray).cells.toList++(Lv.drop p).flatten=(Lv.take p++[(Value.agg (sv::presC e.told).toArray).cells.toList]++Lv.drop p).flatten:=by simp
    rw[e8] at rv9
    exact rv9.sl w (by simp; omega) this
  have main:∀ s:Env,s 1 = .string u→s 3=ptr v1→s 5=ptr v3→s 6=ptr v5→s 7 = .int .i64 p→qaKZ s h6 (thenM (fun m s42 h43=>(retM P [.cell 6 qaZ] K) .ret m s42 h43) (retM P [.cell 6 qaZ] K)) []:=by
   intro s s1 s3 s5 s6 s7
   have ec0:=Ext.refl h6
   simp -implicitDefEqProofs only[presC] at c3
   unfold qaKZ
   simp -implicitDefEqProofs[ld_at c1,cel_of c1,stm_at c1,ld_at c3,cel_of c3,stm_at c3,stm_upd,ld_same,cel_same,over,s1,s3,s5,s6,s7]
   refine⟨?_,?_,?_⟩
   ·
    unfold qdfZ
    try simp only[s1,s3,s5,s6,s7]
    refine cloneEStr (k0.ext ec0) x.2.2.1 k2.fone (by omega) fun vk1 h1_ rk1=>?_
    have eb1:=ec0
    have ec1:=ec0.trans rk1.ex
    have c1_1:=ec1 _ _ c1
    have c3_1:=ec1 _ _ c3
    unfold qdeZ
    try simp only[s1,s3,s5,s6,s7]
    refine⟨by simp[ld_at c1_1,cel_of c1_1,stm_at c1_1,ld_at c3_1,cel_of c3_1,stm_at c3_1,stm_upd,ld_same,cel_same,over],?_⟩
    refine⟨by simp[ld_at c1_1,cel_of c1_1,stm_at c1_1,ld_at c3_1,cel_of c3_1,stm_at c3_1,stm_upd,ld_same,cel_same,over],?_⟩
    refine⟨?_,?_⟩
    ·
     refine bs_one cBsStr (by simp) (by omega) fun b2 h2_ n2 e2 bk2=>?_
     have nn2:=Rf.ne_new rk1 n2
     have rkk2:=rk1.ext e2
     have ec2:=ec1.trans e2
     have c1_2:=ec2 _ _ c1
     have c3_2:=ec2 _ _ c3
     refine⟨by simp[ld_at c1_2,cel_of c1_2,stm_at c1_2,ld_at c3_2,cel_of c3_2,stm_at c3_2,stm_upd,ld_same,cel_same,over],?_⟩
     refine⟨by simp[ld_at c1_2,cel_of c1_2,stm_at c1_2,ld_at c3_2,cel_of c3_2,stm_at c3_2,stm_upd,ld_same,cel_same,over],?_⟩
     refine⟨?_,?_⟩
     ·
      refine insEStr rkk2 rfl bk2 nn2 (by omega) (by omega) (by simp) fun vk3 h3_ rk3 kb3=>?_
      have ec3:=eb1.trans rk3.ex
      have rk03:=rk3.back eb1
      have c1_3:=ec3 _ _ c1
      have c3_3:=ec3 _ _ c3
      unfold qdbZ
      try simp only[s1,s3,s5,s6,s7]
      refine⟨by simp[ld_at c1_3,cel_of c1_3,stm_at c1_3,ld_at c3_3,cel_of c3_3,stm_at c3_3,stm_upd,ld_same,cel_same,over],?_⟩
      refine⟨by simp[ld_at c1_3,cel_of c1_3,stm_at c1_3,ld_at c3_3,cel_of c3_3,stm_at c3_3,stm_upd,ld_same,cel_same,over],?_⟩
      refine⟨?_,?_⟩
      ·
       refine cloneEEnt (l0.ext ec3) x.2.2.2 l2.fone (by omega) fun vv4 h4_ rv4=>?_
       have rkk4:=rk03.ext rv4.ex
       have eb4:=ec3
       have ec4:=ec3.trans rv4.ex
       have c1_4:=ec4 _ _ c1
       have c3_4:=ec4 _ _ c3
       unfold qcZZ
       try simp only[s1,s3,s5,s6,s7]
       refine⟨by simp[ld_at c1_4,cel_of c1_4,stm_at c1_4,ld_at c3_4,cel_of c3_4,stm_at c3_4,stm_upd,ld_same,cel_same,over],?_⟩
       refine bs_one cBsEnt (by simp[presC]) (by omega) fun b5 h5_ n5 e5 bv5=>?_
       have nn5:=Rf.ne_new rkk4 n5
       have rkk5:=rkk4.ext e5
       have nv5:=Rf.ne_new rv4 n5
       have rvv5:=rv4.ext e5
       have ec5:=ec4.trans e5
       have c1_5:=ec5 _ _ c1
       have c3_5:=ec5 _ _ c3
       refine insEEnt rvv5 (by simp[presC]) bv5 nv5 (by omega) (by omega) (by simp[presC,os.1]) fun vv6 h6_ rv6 kb6=>?_
       have ec6:=eb4.trans rv6.ex
       have c1_6:=ec6 _ _ c1
       have c3_6:=ec6 _ _ c3
       unfold qcYZ
       try simp only[s1,s3,s5,s6,s7]
       exact fin2 _ _ _ ec6 (rk03.ext rv6.ex) (rv6.back eb4) _ (by simp[s6])
      ·
       refine bs_one cBsEnt (by simp[presC]) (by omega) fun b8 h8_ n8 e8 bv8=>?_
       have nn8:=Rf.ne_new rk03 n8
       have rkk8:=rk03.ext e8
       have ec8:=ec3.trans e8
       have c1_8:=ec8 _ _ c1
       have c3_8:=ec8 _ _ c3
       refine⟨by simp[ld_at c1_8,cel_of c1_8,stm_at c1_8,ld_at c3_8,cel_of c3_8,stm_at c3_8,stm_upd,ld_same,cel_same,over],?_⟩
       refine cloneEEnt (l0.ext ec8) x.2.2.2 l2.fone (by omega) fun vv9 h9_ rv9=>?_
       have rkk9:=rkk8.ext rv9.ex
       have nbv9:=Rf.ne_old rv9 bv8
       have bv9:=rv9.ex _ _ bv8
       have eb9:=ec8
       have ec9:=ec8.trans rv9.ex
       have c1_9:=ec9 _ _ c1
       have c3_9:=ec9 _ _ c3
       refine insEEnt rv9 (by simp[presC]) bv9 nbv9 (by omega) (by omega) (by simp[presC,os.1]) fun vv10 h10_ rv10 kb10=>?_
       have ec10:=eb9.trans rv10.ex
       have c1_10:=ec10 _ _ c1
       have c3_10:=ec10 _ _ c3
       unfold qdaZ
       try simp only[s1,s3,s5,s6,s7]
       exact fin2 _ _ _ ec10 (rkk8.ext rv10.ex) (rv10.back eb9) _ (by simp[s6])
     ·
      refine bs_one cBsEnt (by simp[presC]) (by omega) fun b12 h12_ n12 e12 bv12=>?_
      have nn12:=Rf.ne_new rkk2 n12
      have rkk12:=rkk2.ext e12
      have bk12:=e12 _ _ bk2
      have ec12:=ec2.trans e12
      have c1_12:=ec12 _ _ c1
      have c3_12:=ec12 _ _ c3
      refine⟨by simp[ld_at c1_12,cel_of c1_12,stm_at c1_12,ld_at c3_12,cel_of c3_12,stm_at c3_12,stm_upd,ld_same,cel_same,over],?_⟩
      refine insEStr rkk12 rfl bk12 nn2 (by omega) (by omega) (by simp) fun vk13 h13_ rk13 kb13=>?_
      have bv13:=kb13 _ _ bv12 nn12
      have ec13:=eb1.trans rk13.ex
      have rk013:=rk13.back eb1
      have c1_13:=ec13 _ _ c1
      have c3_13:=ec13 _ _ c3
      refine⟨by simp[ld_at c1_13,cel_of c1_13,stm_at c1_13,ld_at c3_13,cel_of c3_13,stm_at c3_13,stm_upd,ld_same,cel_same,over],?_⟩
      refine cloneEEnt (l0.ext ec13) x.2.2.2 l2.fone (by omega) fun vv14 h14_ rv14=>?_
      have rkk14:=rk013.ext rv14.ex
      have nbv14:=Rf.ne_old rv14 bv13
      have bv14:=rv14.ex _ _ bv13
      have eb14:=ec13
      have ec14:=ec13.trans rv14.ex
      have c1_14:=ec14 _ _ c1
      have c3_14:=ec14 _ _ c3
      refine insEEnt rv14 (by simp[presC]) bv14 nbv14 (by omega) (by omega) (by simp[presC,os.1]) fun vv15 h15_ rv15 kb15=>?_
      have ec15:=eb14.trans rv15.ex
      have c1_15:=ec15 _ _ c1
      have c3_15:=ec15 _ _ c3
      unfold qdcZ
      try simp only[s1,s3,s5,s6,s7]
      exact fin2 _ _ _ ec15 (rk013.ext rv15.ex) (rv15.back eb14) _ (by simp[s6])
    ·
     refine bs_one cBsEnt (by simp[presC]) (by omega) fun b17 h17_ n17 e17 bv17=>?_
     have nn17:=Rf.ne_new rk1 n17
     have rkk17:=rk1.ext e17
     have ec17:=ec1.trans e17
     have c1_17:=ec17 _ _ c1
     have c3_17:=ec17 _ _ c3
     refine⟨by simp[ld_at c1_17,cel_of c1_17,stm_at c1_17,ld_at c3_17,cel_of c3_17,stm_at c3_17,stm_upd,ld_same,cel_same,over],?_⟩
     refine bs_one cBsStr (by simp) (by omega) fun b18 h18_ n18 e18 bk18=>?_
     have nn18:=Rf.ne_new rkk17 n18
     have rkk18:=rkk17.ext e18
     have bv18:=e18 _ _ bv17
     have ec18:=ec17.trans e18
     have c1_18:=ec18 _ _ c1
     have c3_18:=ec18 _ _ c3
     refine⟨by simp[ld_at c1_18,cel_of c1_18,stm_at c1_18,ld_at c3_18,cel_of c3_18,stm_at c3_18,stm_upd,ld_same,cel_same,over],?_⟩
     refine insEStr rkk18 rfl bk18 nn18 (by omega) (by omega) (by simp) fun vk19 h19_ rk19 kb19=>?_
     have bv19:=kb19 _ _ bv18 nn17
     have ec19:=eb1.trans rk19.ex
     have rk019:=rk19.back eb1
     have c1_19:=ec19 _ _ c1
     have c3_19:=ec19 _ _ c3
     refine⟨by simp[ld_at c1_19,cel_of c1_19,stm_at c1_19,ld_at c3_19,cel_of c3_19,stm_at c3_19,stm_upd,ld_same,cel_same,over],?_⟩
     refine cloneEEnt (l0.ext ec19) x.2.2.2 l2.fone (by omega) fun vv20 h20_ rv20=>?_
     have rkk20:=rk019.ext rv20.ex
     have nbv20:=Rf.ne_old rv20 bv19
     have bv20:=rv20.ex _ _ bv19
     have eb20:=ec19
     have ec20:=ec19.trans rv20.ex
     have c1_20:=ec20 _ _ c1
     have c3_20:=ec20 _ _ c3
     refine insEEnt rv20 (by simp[presC]) bv20 nbv20 (by omega) (by omega) (by simp[presC,os.1]) fun vv21 h21_ rv21 kb21=>?_
     have ec21:=eb20.trans rv21.ex
     have c1_21:=ec21 _ _ c1
     have c3_21:=ec21 _ _ c3
     unfold qddZ
     try simp only[s1,s3,s5,s6,s7]
     exact fin2 _ _ _ ec21 (rk019.ext rv21.ex) (rv21.back eb20) _ (by simp[s6])
   ·
    unfold qdnZ
    try simp only[s1,s3,s5,s6,s7]
    refine bs_one cBsStr (by simp) (by omega) fun b23 h23_ n23 e23 bk23=>?_
    have ec23:=ec0.trans e23
    have c1_23:=ec23 _ _ c1
    have c3_23:=ec23 _ _ c3
    refine⟨by simp[ld_at c1_23,cel_of c1_23,stm_at c1_23,ld_at c3_23,cel_of c3_23,stm_at c3_23,stm_upd,ld_same,cel_same,over],?_⟩
    refine⟨by simp[ld_at c1_23,cel_of c1_23,stm_at c1_23,ld_at c3_23,cel_of c3_23,stm_at c3_23,stm_upd,ld_same,cel_same,over],?_⟩
    refine⟨by simp[ld_at c1_23,cel_of c1_23,stm_at c1_23,ld_at c3_23,cel_of c3_23,stm_at c3_23,stm_upd,ld_same,cel_same,over],?_⟩
    refine⟨?_,?_⟩
    ·
     refine cloneEStr (k0.ext ec23) x.2.2.1 k2.fone (by omega) fun vk24 h24_ rk24=>?_
     have nbk24:=Rf.ne_old rk24 bk23
     have bk24:=rk24.ex _ _ bk23
     have eb24:=ec23
     have ec24:=ec23.trans rk24.ex
     have c1_24:=ec24 _ _ c1
     have c3_24:=ec24 _ _ c3
     unfold qdlZ
     try simp only[s1,s3,s5,s6,s7]
     refine⟨by simp[ld_at c1_24,cel_of c1_24,stm_at c1_24,ld_at c3_24,cel_of c3_24,stm_at c3_24,stm_upd,ld_same,cel_same,over],?_⟩
     refine⟨by simp[ld_at c1_24,cel_of c1_24,stm_at c1_24,ld_at c3_24,cel_of c3_24,stm_at c3_24,stm_upd,ld_same,cel_same,over],?_⟩
     refine⟨?_,?_⟩
     ·
      refine insEStr rk24 rfl bk24 nbk24 (by omega) (by omega) (by simp) fun vk25 h25_ rk25 kb25=>?_
      have ec25:=eb24.trans rk25.ex
      have rk025:=rk25.back eb24
      have c1_25:=ec25 _ _ c1
      have c3_25:=ec25 _ _ c3
      unfold qdjZ
      try simp only[s1,s3,s5,s6,s7]
      refine⟨by simp[ld_at c1_25,cel_of c1_25,stm_at c1_25,ld_at c3_25,cel_of c3_25,stm_at c3_25,stm_upd,ld_same,cel_same,over],?_⟩
      refine⟨by simp[ld_at c1_25,cel_of c1_25,stm_at c1_25,ld_at c3_25,cel_of c3_25,stm_at c3_25,stm_upd,ld_same,cel_same,over],?_⟩
      refine⟨?_,?_⟩
      ·
       refine cloneEEnt (l0.ext ec25) x.2.2.2 l2.fone (by omega) fun vv26 h26_ rv26=>?_
       have rkk26:=rk025.ext rv26.ex
       have eb26:=ec25
       have ec26:=ec25.trans rv26.ex
       have c1_26:=ec26 _ _ c1
       have c3_26:=ec26 _ _ c3
       unfold qdhZ
       try simp only[s1,s3,s5,s6,s7]
       refine⟨by simp[ld_at c1_26,cel_of c1_26,stm_at c1_26,ld_at c3_26,cel_of c3_26,stm_at c3_26,stm_upd,ld_same,cel_same,over],?_⟩
       refine bs_one cBsEnt (by simp[presC]) (by omega) fun b27 h27_ n27 e27 bv27=>?_
       have nn27:=Rf.ne_new rkk26 n27
       have rkk27:=rkk26.ext e27
       have nv27:=Rf.ne_new rv26 n27
       have rvv27:=rv26.ext e27
       have ec27:=ec26.trans e27
       have c1_27:=ec27 _ _ c1
       have c3_27:=ec27 _ _ c3
       refine insEEnt rvv27 (by simp[presC]) bv27 nv27 (by omega) (by omega) (by simp[presC,os.1]) fun vv28 h28_ rv28 kb28=>?_
       have ec28:=eb26.trans rv28.ex
       have c1_28:=ec28 _ _ c1
       have c3_28:=ec28 _ _ c3
       unfold qdgZ
       try simp only[s1,s3,s5,s6,s7]
       exact fin2 _ _ _ ec28 (rk025.ext rv28.ex) (rv28.back eb26) _ (by simp[s6])
      ·
       refine bs_one cBsEnt (by simp[presC]) (by omega) fun b30 h30_ n30 e30 bv30=>?_
       have nn30:=Rf.ne_new rk025 n30
       have rkk30:=rk025.ext e30
       have ec30:=ec25.trans e30
       have c1_30:=ec30 _ _ c1
       have c3_30:=ec30 _ _ c3
       refine⟨by simp[ld_at c1_30,cel_of c1_30,stm_at c1_30,ld_at c3_30,cel_of c3_30,stm_at c3_30,stm_upd,ld_same,cel_same,over],?_⟩
       refine cloneEEnt (l0.ext ec30) x.2.2.2 l2.fone (by omega) fun vv31 h31_ rv31=>?_
       have rkk31:=rkk30.ext rv31.ex
       have nbv31:=Rf.ne_old rv31 bv30
       have bv31:=rv31.ex _ _ bv30
       have eb31:=ec30
       have ec31:=ec30.trans rv31.ex
       have c1_31:=ec31 _ _ c1
       have c3_31:=ec31 _ _ c3
       refine insEEnt rv31 (by simp[presC]) bv31 nbv31 (by omega) (by omega) (by simp[presC,os.1]) fun vv32 h32_ rv32 kb32=>?_
       have ec32:=eb31.trans rv32.ex
       have c1_32:=ec32 _ _ c1
       have c3_32:=ec32 _ _ c3
       unfold qdiZ
       try simp only[s1,s3,s5,s6,s7]
       exact fin2 _ _ _ ec32 (rkk30.ext rv32.ex) (rv32.back eb31) _ (by simp[s6])
     ·
      refine bs_one cBsEnt (by simp[presC]) (by omega) fun b34 h34_ n34 e34 bv34=>?_
      have nn34:=Rf.ne_new rk24 n34
      have rkk34:=rk24.ext e34
      have bk34:=e34 _ _ bk24
      have ec34:=ec24.trans e34
      have c1_34:=ec34 _ _ c1
      have c3_34:=ec34 _ _ c3
      refine⟨by simp[ld_at c1_34,cel_of c1_34,stm_at c1_34,ld_at c3_34,cel_of c3_34,stm_at c3_34,stm_upd,ld_same,cel_same,over],?_⟩
      refine insEStr rkk34 rfl bk34 nbk24 (by omega) (by omega) (by simp) fun vk35 h35_ rk35 kb35=>?_
      have bv35:=kb35 _ _ bv34 nn34
      have ec35:=eb24.trans rk35.ex
      have rk035:=rk35.back eb24
      have c1_35:=ec35 _ _ c1
      have c3_35:=ec35 _ _ c3
      refine⟨by simp[ld_at c1_35,cel_of c1_35,stm_at c1_35,ld_at c3_35,cel_of c3_35,stm_at c3_35,stm_upd,ld_same,cel_same,over],?_⟩
      refine cloneEEnt (l0.ext ec35) x.2.2.2 l2.fone (by omega) fun vv36 h36_ rv36=>?_
      have rkk36:=rk035.ext rv36.ex
      have nbv36:=Rf.ne_old rv36 bv35
      have bv36:=rv36.ex _ _ bv35
      have eb36:=ec35
      have ec36:=ec35.trans rv36.ex
      have c1_36:=ec36 _ _ c1
      have c3_36:=ec36 _ _ c3
      refine insEEnt rv36 (by simp[presC]) bv36 nbv36 (by omega) (by omega) (by simp[presC,os.1]) fun vv37 h37_ rv37 kb37=>?_
      have ec37:=eb36.trans rv37.ex
      have c1_37:=ec37 _ _ c1
      have c3_37:=ec37 _ _ c3
      unfold qdkZ
      try simp only[s1,s3,s5,s6,s7]
      exact fin2 _ _ _ ec37 (rk035.ext rv37.ex) (rv37.back eb36) _ (by simp[s6])
    ·
     refine bs_one cBsEnt (by simp[presC]) (by omega) fun b39 h39_ n39 e39 bv39=>?_
     have bk39:=e39 _ _ bk23
     have ec39:=ec23.trans e39
     have c1_39:=ec39 _ _ c1
     have c3_39:=ec39 _ _ c3
     refine⟨by simp[ld_at c1_39,cel_of c1_39,stm_at c1_39,ld_at c3_39,cel_of c3_39,stm_at c3_39,stm_upd,ld_same,cel_same,over],?_⟩
     refine⟨by simp[ld_at c1_39,cel_of c1_39,stm_at c1_39,ld_at c3_39,cel_of c3_39,stm_at c3_39,stm_upd,ld_same,cel_same,over],?_⟩
     refine cloneEStr (k0.ext ec39) x.2.2.1 k2.fone (by omega) fun vk40 h40_ rk40=>?_
     have nbk40:=Rf.ne_old rk40 bk39
     have bk40:=rk40.ex _ _ bk39
     have nx40:=Rf.ne_old rk40 bv39
     have bv40:=rk40.ex _ _ bv39
     have eb40:=ec39
     have ec40:=ec39.trans rk40.ex
     have c1_40:=ec40 _ _ c1
     have c3_40:=ec40 _ _ c3
     refine⟨by simp[ld_at c1_40,cel_of c1_40,stm_at c1_40,ld_at c3_40,cel_of c3_40,stm_at c3_40,stm_upd,ld_same,cel_same,over],?_⟩
     refine insEStr rk40 rfl bk40 nbk40 (by omega) (by omega) (by simp) fun vk41 h41_ rk41 kb41=>?_
     have bv41:=kb41 _ _ bv40 nx40
     have ec41:=eb40.trans rk41.ex
     have rk041:=rk41.back eb40
     have c1_41:=ec41 _ _ c1
     have c3_41:=ec41 _ _ c3
     refine⟨by simp[ld_at c1_41,cel_of c1_41,stm_at c1_41,ld_at c3_41,cel_of c3_41,stm_at c3_41,stm_upd,ld_same,cel_same,over],?_⟩
     refine cloneEEnt (l0.ext ec41) x.2.2.2 l2.fone (by omega) fun vv42 h42_ rv42=>?_
     have rkk42:=rk041.ext rv42.ex
     have nbv42:=Rf.ne_old rv42 bv41
     have bv42:=rv42.ex _ _ bv41
     have eb42:=ec41
     have ec42:=ec41.trans rv42.ex
     have c1_42:=ec42 _ _ c1
     have c3_42:=ec42 _ _ c3
     refine insEEnt rv42 (by simp[presC]) bv42 nbv42 (by omega) (by omega) (by simp[presC,os.1]) fun vv43 h43_ rv43 kb43=>?_
     have ec43:=eb42.trans rv43.ex
     have c1_43:=ec43 _ _ c1
     have c3_43:=ec43 _ _ c3
     unfold qdmZ
     try simp only[s1,s3,s5,s6,s7]
     exact fin2 _ _ _ ec43 (rk041.ext rv43.ex) (rv43.back eb42) _ (by simp[s6])
   ·
    unfold qdrZ
    try simp only[s1,s3,s5,s6,s7]
    refine bs_one cBsEnt (by simp[presC]) (by omega) fun b45 h45_ n45 e45 bv45=>?_
    have ec45:=ec0.trans e45
    have c1_45:=ec45 _ _ c1
    have c3_45:=ec45 _ _ c3
    refine⟨by simp[ld_at c1_45,cel_of c1_45,stm_at c1_45,ld_at c3_45,cel_of c3_45,stm_at c3_45,stm_upd,ld_same,cel_same,over],?_⟩
    refine⟨by simp[ld_at c1_45,cel_of c1_45,stm_at c1_45,ld_at c3_45,cel_of c3_45,stm_at c3_45,stm_upd,ld_same,cel_same,over],?_⟩
    refine⟨?_,?_⟩
    ·
     refine cloneEStr (k0.ext ec45) x.2.2.1 k2.fone (by omega) fun vk46 h46_ rk46=>?_
     have nx46:=Rf.ne_old rk46 bv45
     have bv46:=rk46.ex _ _ bv45
     have eb46:=ec45
     have ec46:=ec45.trans rk46.ex
     have c1_46:=ec46 _ _ c1
     have c3_46:=ec46 _ _ c3
     unfold qdpZ
     try simp only[s1,s3,s5,s6,s7]
     refine⟨by simp[ld_at c1_46,cel_of c1_46,stm_at c1_46,ld_at c3_46,cel_of c3_46,stm_at c3_46,stm_upd,ld_same,cel_same,over],?_⟩
     refine bs_one cBsStr (by simp) (by omega) fun b47 h47_ n47 e47 bk47=>?_
     have nn47:=Rf.ne_new rk46 n47
     have rkk47:=rk46.ext e47
     have bv47:=e47 _ _ bv46
     have ec47:=ec46.trans e47
     have c1_47:=ec47 _ _ c1
     have c3_47:=ec47 _ _ c3
     refine⟨by simp[ld_at c1_47,cel_of c1_47,stm_at c1_47,ld_at c3_47,cel_of c3_47,stm_at c3_47,stm_upd,ld_same,cel_same,over],?_⟩
     refine insEStr rkk47 rfl bk47 nn47 (by omega) (by omega) (by simp) fun vk48 h48_ rk48 kb48=>?_
     have bv48:=kb48 _ _ bv47 nx46
     have ec48:=eb46.trans rk48.ex
     have rk048:=rk48.back eb46
     have c1_48:=ec48 _ _ c1
     have c3_48:=ec48 _ _ c3
     refine⟨by simp[ld_at c1_48,cel_of c1_48,stm_at c1_48,ld_at c3_48,cel_of c3_48,stm_at c3_48,stm_upd,ld_same,cel_same,over],?_⟩
     refine cloneEEnt (l0.ext ec48) x.2.2.2 l2.fone (by omega) fun vv49 h49_ rv49=>?_
     have rkk49:=rk048.ext rv49.ex
     have nbv49:=Rf.ne_old rv49 bv48
     have bv49:=rv49.ex _ _ bv48
     have eb49:=ec48
     have ec49:=ec48.trans rv49.ex
     have c1_49:=ec49 _ _ c1
     have c3_49:=ec49 _ _ c3
     refine insEEnt rv49 (by simp[presC]) bv49 nbv49 (by omega) (by omega) (by simp[presC,os.1]) fun vv50 h50_ rv50 kb50=>?_
     have ec50:=eb49.trans rv50.ex
     have c1_50:=ec50 _ _ c1
     have c3_50:=ec50 _ _ c3
     unfold qdoZ
     try simp only[s1,s3,s5,s6,s7]
     exact fin2 _ _ _ ec50 (rk048.ext rv50.ex) (rv50.back eb49) _ (by simp[s6])
    ·
     refine bs_one cBsStr (by simp) (by omega) fun b52 h52_ n52 e52 bk52=>?_
     have bv52:=e52 _ _ bv45
     have ec52:=ec45.trans e52
     have c1_52:=ec52 _ _ c1
     have c3_52:=ec52 _ _ c3
     refine⟨by simp[ld_at c1_52,cel_of c1_52,stm_at c1_52,ld_at c3_52,cel_of c3_52,stm_at c3_52,stm_upd,ld_same,cel_same,over],?_⟩
     refine⟨by simp[ld_at c1_52,cel_of c1_52,stm_at c1_52,ld_at c3_52,cel_of c3_52,stm_at c3_52,stm_upd,ld_same,cel_same,over],?_⟩
     refine cloneEStr (k0.ext ec52) x.2.2.1 k2.fone (by omega) fun vk53 h53_ rk53=>?_
     have nbk53:=Rf.ne_old rk53 bk52
     have bk53:=rk53.ex _ _ bk52
     have nx53:=Rf.ne_old rk53 bv52
     have bv53:=rk53.ex _ _ bv52
     have eb53:=ec52
     have ec53:=ec52.trans rk53.ex
     have c1_53:=ec53 _ _ c1
     have c3_53:=ec53 _ _ c3
     refine⟨by simp[ld_at c1_53,cel_of c1_53,stm_at c1_53,ld_at c3_53,cel_of c3_53,stm_at c3_53,stm_upd,ld_same,cel_same,over],?_⟩
     refine insEStr rk53 rfl bk53 nbk53 (by omega) (by omega) (by simp) fun vk54 h54_ rk54 kb54=>?_
     have bv54:=kb54 _ _ bv53 nx53
     have ec54:=eb53.trans rk54.ex
     have rk054:=rk54.back eb53
     have c1_54:=ec54 _ _ c1
     have c3_54:=ec54 _ _ c3
     refine⟨by simp[ld_at c1_54,cel_of c1_54,stm_at c1_54,ld_at c3_54,cel_of c3_54,stm_at c3_54,stm_upd,ld_same,cel_same,over],?_⟩
     refine cloneEEnt (l0.ext ec54) x.2.2.2 l2.fone (by omega) fun vv55 h55_ rv55=>?_
     have rkk55:=rk054.ext rv55.ex
     have nbv55:=Rf.ne_old rv55 bv54
     have bv55:=rv55.ex _ _ bv54
     have eb55:=ec54
     have ec55:=ec54.trans rv55.ex
     have c1_55:=ec55 _ _ c1
     have c3_55:=ec55 _ _ c3
     refine insEEnt rv55 (by simp[presC]) bv55 nbv55 (by omega) (by omega) (by simp[presC,os.1]) fun vv56 h56_ rv56 kb56=>?_
     have ec56:=eb55.trans rv56.ex
     have c1_56:=ec56 _ _ c1
     have c3_56:=ec56 _ _ c3
     unfold qdqZ
     try simp only[s1,s3,s5,s6,s7]
     exact fin2 _ _ _ ec56 (rk054.ext rv56.ex) (rv56.back eb55) _ (by simp[s6])
  unfold qdBZ
  simp -implicitDefEqProofs only[thenM_n]
  unfold qaLZ
  rw[seqM_eq]
  refine main _ ?_ ?_ ?_ ?_ ?_<;>simp
end Go.Proofs.YtcnphhhcknhhaaaGreat
