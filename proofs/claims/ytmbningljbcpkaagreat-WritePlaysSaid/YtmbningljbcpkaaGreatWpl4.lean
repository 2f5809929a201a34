/- Words, plain data and contracts of the Go functions that this claim reaches. No condition beyond the hypotheses that each theorem states. -/
import Derived.Test.YtmbningljbcpkaaGreatWpl3
set_option linter.unusedSimpArgs false
set_option linter.unusedVariables false
namespace Go.Den
open Go
set_option linter.unusedVariables false
variable {P:Program}{g:Nat→Bool}
def It (P:Program)(gf:FuncId)(lb:Array Value)(xs:List (Array Value))(hA:Heap):Prop :=
 ∀ (yv:Value) (I:Nat→Heap→Prop) (S:Heap→Prop) (h:Heap) (K:KTy),(∀ i h',I i h'→Ext hA h')→(∀ i h' h'',I i h'→Ext h' h''→I i h'')→I 0 h →
  (∀ i (hi:i<xs.length) h' (K':KTy),I i h'→(∀ h'',I (i+1) h''→K' (.bool true) h'')→(∀ h'',S h''→K' (.bool false) h'') →
   nxM P (do let d ← Deferred.ofValue yv xs[i]; invoke d.target d.args) h' K') →
  (∀ v h',I xs.length h'→K v h')→(∀ v h',S h'→K v h')→callM P gf (#[yv]++lb) h K
theorem getD_fold {ps:List Tmp}:∀ {xs:List Value} {tmps:Array Value} {s:Env},(∀ i,tmps.getD i undef=s i)→(ps.all fun t=>Nat.blt t tmps.size)=true →
  (∀ i,((ps.zip xs).foldl (fun tmps (x:Tmp × Value)=>tmps.setIfInBounds x.1 x.2) tmps).getD i undef=puts s (ps.zip xs) i)∧((ps.zip xs).foldl (fun tmps (x:Tmp × Value)=>tmps.setIfInBounds x.1 x.2) tmps).size=tmps.size:=by
 induction ps with
 | nil=>intro xs tmps s hs _; exact⟨by simpa using hs,by simp⟩
 | cons p ps ih =>
  intro xs tmps s hs hp
  cases xs with
  | nil=>exact⟨by simpa using hs,by simp⟩
  | cons x xs =>
   simp only[List.all_cons,Bool.and_eq_true,Nat.blt_eq] at hp
   simp only[List.zip_cons_cons,List.foldl_cons,puts]
   have h1:∀ i,(tmps.setIfInBounds p x).getD i undef=put s p x i:=fun i=>by
    by_cases hi:i=p
    ·subst hi
     simp[put,hp.1]
    ·have:=hs i
     simp only[Array.getD_eq_getD_getElem?] at this ⊢
     rw[Array.getElem?_setIfInBounds_ne (Ne.symm hi),this]
     have:Nat.beq i p=false:=by cases hh:Nat.beq i p with
      | false=>rfl
      | true=>exact absurd (Nat.eq_of_beq_eq_true hh) hi
     simp[put,this]
   obtain⟨h2,h3⟩:=ih (xs:=xs) h1 (by simpa using hp.2)
   exact⟨h2,by rw[h3]; simp⟩
theorem keep_upd {h:Heap}{l:Nat}{o:Obj}:Keep (some l) h (upd h l o):=fun b x e n=>by rw[upd_ne (fun hb=>n (by rw[hb]))]; exact e
variable {K:KTy}
theorem round_of_den2 (hg:GoodP P g)(hm:P.follows .mixedOrders=true){l:Nat}{fn:FuncId}{tmps:Array Value}{zas bd:Code}{s:Env}{h:Heap}
  (hs:∀ i,tmps.getD i undef=s i) (hf:(fits tmps.size zas && fits tmps.size bd && nrf zas && nrf bd)=true) {QA:Post} (hd:den P g zas [] s h QA)
  (hQA:∀ m2 s2 h2,QA .normal m2 s2 h2→∃ r:Loop,h2 l=some (.loop r)∧r.state = .ready∧∃ QB:Post,den P g bd m2 s2 (upd h2 l (.loop { r with state:=.busy })) QB∧∀ e m4 s4 h4,QB e m4 s4 h4→endM l K e m4 s4 h4)
  (hQN:∀ e m2 s2 h2,e≠.normal→¬ QA e m2 s2 h2):roundM P l fn tmps zas bd h K:=by
 intro w hw
 subst hw
 simp only[Bool.and_eq_true] at hf
 obtain⟨⟨⟨f1,f2⟩,f3⟩,f4⟩:=hf
 refine roundIn_of_wpIn (F:=Fence.wide) trivial (wpIn_mono (den_sound hg hm (n:=tmps.size) (r:=some l) zas [] s _ _ w (.inr f3) f1 ⟨rfl,hs,rfl⟩ hd) ?_)
 intro e a' w' hq
 cases e with
 | normal =>
  obtain⟨m',s',hR',ho,hq⟩:=hq
  obtain⟨r,hl,hst,QB,hb,hQB⟩:=hQA _ _ _ hq
  have hl':w'.heap[l]?=some (.loop r):=hl
  refine⟨_,run_beginRound hl' hst,?_⟩
  rw[← abs_putObj hl'] at hb
  have ho2:Okw w (w'.putObj l (.loop { r with state:=.busy })):=ho.trans ⟨rfl,rfl,rfl,by simp[World.putObj]⟩
  refine wpIn_mono (den_sound hg hm (n:=tmps.size) (r:=some l) bd m' s' _ _ _ (.inr f4) f2 hR' hb) ?_
  intro e2 a2 w2 hq2
  cases e2 with
  | normal =>
   obtain⟨m2,s2,hR2,ho3,hq2⟩:=hq2
   obtain⟨r2,hl2,hk⟩:=hQB _ _ _ _ hq2
   have hl2':w2.heap[l]?=some (.loop r2):=hl2
   refine⟨_,_,run_endRound none hl2',_,rfl,(ho2.trans ho3).trans ⟨rfl,rfl,rfl,by simp[World.putObj]⟩,?_⟩
   rw[abs_putObj hl2']; exact hk
  | ret =>
   obtain⟨m2,s2,hR2,ho3,hq2⟩:=hq2
   obtain⟨r2,hl2,hk⟩:=hQB _ _ _ _ hq2
   have hl2':w2.heap[l]?=some (.loop r2):=hl2
   refine⟨_,_,run_endRound (some .ret) hl2',_,rfl,(ho2.trans ho3).trans ⟨rfl,rfl,rfl,by simp[World.putObj]⟩,?_⟩
   rw[abs_putObj hl2']; exact hk
  | exit id =>
   obtain⟨m2,s2,hR2,ho3,hq2⟩:=hq2
   obtain⟨r2,hl2,hk⟩:=hQB _ _ _ _ hq2
   have hl2':w2.heap[l]?=some (.loop r2):=hl2
   refine⟨_,_,run_endRound (some (.exit id)) hl2',_,rfl,(ho2.trans ho3).trans ⟨rfl,rfl,rfl,by simp[World.putObj]⟩,?_⟩
   rw[abs_putObj hl2']; exact hk
  | goto t=>obtain⟨m2,s2,hR2,ho3,hq2⟩:=hq2; obtain⟨r2,hl2,hk⟩:=hQB _ _ _ _ hq2; exact hk.elim
  | panic c=>exact hq2.elim
  | outgrown=>exact hq2.elim
 | goto t=>obtain⟨_,_,_,_,hk⟩:=hq; exact (hQN _ _ _ _ (by simp) hk).elim
 | ret=>obtain⟨_,_,_,_,hk⟩:=hq; exact (hQN _ _ _ _ (by simp) hk).elim
 | exit id=>obtain⟨_,_,_,_,hk⟩:=hq; exact (hQN _ _ _ _ (by simp) hk).elim
 | panic c=>exact hq.elim
 | outgrown=>exact hq.elim
theorem rf_it (hg:GoodP P g)(hm:P.follows .mixedOrders=true){gv:Value}{gf:FuncId}{lb:Array Value}{xs:List (Array Value)}{hA:Heap}(hgv:gv = .func (.func gf) #[] lb)(hgf:g gf=true)(it:It P gf lb xs hA)
  {ps:Array Tmp} {zas bd:Code} {m:List Nat} {s:Env} {h:Heap} {Q:Post} (J:Nat→Heap→Prop) (S:Exit→Heap→Prop)
  (h0:J 0 h) (hx:∀ i h',J i h'→Ext hA h') (hk:∀ l,h l=none→∀ i h' h'',J i h'→Keep (some l) h' h''→J i h'') (hkS:∀ l,h l=none→∀ e h' h'',S e h'→Keep (some l) h' h''→S e h'')
  (hsz:∀ i (hi:i<xs.length),xs[i].size=ps.size)
  (round:∀ i (hi:i<xs.length) l b h' h2,h l=none→h b=none→J i h'→Keep (some l) h' h2→(∃ o,h2 l=some o)→(∃ o,h2 b=some o) →
   ∃ A:List Nat→Env→Heap→Prop,(∀ m2 s2 h3 h4,A m2 s2 h3→Keep (some l) h3 h4→A m2 s2 h4) ∧
    den P g zas [] (puts s (ps.toList.zip xs[i].toList)) h2 (fun e m2 s2 h3=>e = .normal∧A m2 s2 h3∧h3 l=h2 l∧h3 b=h2 b) ∧
    ∀ m2 s2 h3,A m2 s2 h3→(∃ o,h3 l=some o)→(∃ o,h3 b=some o) →
     den P g bd m2 s2 h3 (fun e _ _ h4=>h4 l=h3 l∧h4 b=h3 b∧match e with
      | .normal=>J (i+1) h4
      | .ret=>S .ret h4
      | .exit id=>S (.exit id) h4
      | _=>False))
  (hend:∀ b h',h b=none→h' b=some (.deferred (some []))→J xs.length h'→Q .normal (b::m) s h')
  (hret:∀ b h',h b=none→h' b=some (.deferred (some []))→S .ret h'→Q .ret (b::m) s h')
  (hexit:∀ id b h',h b=none→h' b=some (.deferred (some []))→S (.exit id) h'→Q (.exit id) (b::m) s h'):rfM P g gv ps zas bd m s h Q:=by
 refine⟨gf,lb,hgv,hgf,fun fn tmps b l hs hf hb hl hlb=>?_⟩
 obtain⟨R,hR⟩:∃ R:Loop,R={ state:=.ready,pending:=none,fn,tmps,params:=ps,assign:=zas,body:=bd,defers:=b }:=⟨_,rfl⟩
 rw[← hR]
 have hfb:fz (fun _=>[]) h=h:=fz_nil h
 let I:Nat→Heap→Prop:=fun i h'=>J i h'∧h' b=some (.deferred (some []))∧h' l=some (.loop R)
 let St:Heap→Prop:=fun h'=>h' b=some (.deferred (some []))∧((∃ r:Loop,h' l=some (.loop r)∧r.state = .done∧r.pending=some .ret∧S .ret h')∨(∃ id,∃ r:Loop,h' l=some (.loop r)∧r.state = .done∧r.pending=some (.exit id)∧S (.exit id) h'))
 have e1:Ext h (upd (upd h b (.deferred (some []))) l (.loop R)):=ext_upd hl (Ext.upd hb _)
 have start:I 0 (upd (upd h b (.deferred (some []))) l (.loop R)):=by
  refine⟨hk l hl 0 h _ h0 fun k o e _=>e1 k o e,?_,upd_same' _ _ _⟩
  rw[upd_ne (Ne.symm hlb),upd_same']
 refine it (.func (.yield l) #[] #[]) I St _ _ (fun i h' hi=>hx i h' hi.1) (fun i h' h'' hi e=>⟨hk l hl i h' h'' hi.1 fun k o ek _=>e k o ek,e _ _ hi.2.1,e _ _ hi.2.2⟩) start ?_ ?_ ?_
 ·intro i hi h' K' hI hK1 hK2
  obtain⟨hJ,hb',hl'⟩:=hI
  have hps:ps=R.params:=by rw[hR]
  refine nx_yield hl' (by rw[hsz i hi,hps]) ?_
  simp only[Bool.and_eq_true] at hf
  obtain⟨⟨⟨⟨f1,f2⟩,f3⟩,f4⟩,f5⟩:=hf
  have hR1:R.params=ps:=hps.symm
  have hR2:R.tmps=tmps:=by rw[hR]
  have hR3:R.assign=zas:=by rw[hR]
  have hR4:R.body=bd:=by rw[hR]
  have hR5:R.state = .ready:=by rw[hR]
  rw[hR1,hR2,hR3,hR4]
  have hfold:(ps.zip xs[i]).foldl (fun tmps (t,a)=>tmps.setIfInBounds t a) tmps=(ps.toList.zip xs[i].toList).foldl (fun tmps (x:Tmp × Value)=>tmps.setIfInBounds x.1 x.2) tmps:=by
   rw[← Array.foldl_toList,Array.toList_zip]
  rw[hfold]
  obtain⟨g1,g2⟩:=getD_fold (ps:=ps.toList) (xs:=xs[i].toList) hs f1
  obtain⟨A,a1,a2,a3⟩:=round i hi l b h' h' hl hb hJ (fun k o e _=>e) ⟨_,hl'⟩ ⟨_,hb'⟩
  refine round_of_den2 hg hm g1 (by rw[g2]; simp[f2,f3,f4,f5]) a2 (fun m2 s2 h2 hq=>?_) (fun e m2 s2 h2 he hq=>he hq.1)
  obtain⟨_,hA2,hl2,hb2⟩:=hq
  have hl2':h2 l=some (.loop R):=by rw[hl2]; exact hl'
  have hb2':h2 b=some (.deferred (some [])):=by rw[hb2]; exact hb'
  refine⟨R,hl2',hR5,_,a3 m2 s2 _ (a1 _ _ _ _ hA2 keep_upd) ⟨_,upd_same' _ _ _⟩ ⟨_,by rw[upd_ne (Ne.symm hlb)]; exact hb2'⟩,fun e m4 s4 h4 hq=>?_⟩
  obtain⟨hl4,hb4,hq⟩:=hq
  rw[upd_same'] at hl4
  rw[upd_ne (Ne.symm hlb)] at hb4
  have hb4':h4 b=some (.deferred (some [])):=by rw[hb4]; exact hb2'
  refine⟨_,hl4,?_⟩
  cases e with
  | normal =>
   refine hK1 _ ⟨hk l hl _ _ _ hq keep_upd,by rw[upd_ne (Ne.symm hlb)]; exact hb4',?_⟩
   rw[upd_same',hR]
  | ret =>
   refine hK2 _ ⟨by rw[upd_ne (Ne.symm hlb)]; exact hb4',.inl ⟨_,upd_same' _ _ _,rfl,rfl,hkS l hl _ _ _ hq keep_upd⟩⟩
  | exit id =>
   refine hK2 _ ⟨by rw[upd_ne (Ne.symm hlb)]; exact hb4',.inr ⟨id,_,upd_same' _ _ _,rfl,rfl,hkS l hl _ _ _ hq keep_upd⟩⟩
  | _=>exact hq.elim
 ·intro v h' hI
  refine⟨R,hI.2.2,by rw[hR]; simp,?_⟩
  have:R.pending=none:=by rw[hR]
  rw[this]
  exact hend b _ hb (by rw[upd_ne (Ne.symm hlb)]; exact hI.2.1) (hk l hl _ _ _ hI.1 keep_upd)
 ·intro v h' hS
  obtain⟨hb',hS⟩:=hS
  rcases hS with ⟨r,hl',hst,hp,hs'⟩ | ⟨id,r,hl',hst,hp,hs'⟩
  ·refine⟨r,hl',by rw[hst]; simp,?_⟩
   rw[hp]
   exact hret b _ hb (by rw[upd_ne (Ne.symm hlb)]; exact hb') (hkS l hl _ _ _ hs' keep_upd)
  ·refine⟨r,hl',by rw[hst]; simp,?_⟩
   rw[hp]
   exact hexit id b _ hb (by rw[upd_ne (Ne.symm hlb)]; exact hb') (hkS l hl _ _ _ hs' keep_upd)
@[simp] theorem retM_1 {P:Program}{rs:List ResultVar}{R:KTy}{b:Nat}{s:Env}{h:Heap}:retM P rs R .ret [b] s h=(h b=some (.deferred (some []))∧resL P s (upd h b (.deferred none)) rs (fun l=>R (tupV l) (upd h b (.deferred none)))):=rfl
end Go.Den
namespace Go.Proofs.YtmbningljbcpkaaGreat
open Go Go.Den Go.MapKept
set_option linter.unusedSimpArgs false
set_option linter.unusedVariables false
set_option maxRecDepth 20000
variable {K:KTy}
theorem late_ok (a b:Int){h:Heap}(hk:K (.bool (late a b)) h):callM P qmVZ #[.int .u64 a,.int .u64 b] h K:=by
 apply qvkZ
 unfold qroZ
 simpa [late] using hk
theorem better_ok (a b:Sess){h:Heap}(hk:∀ h',Ext h h'→K (.bool (better a b)) h'):callM P qpcZ #[.agg (sessC a).toArray,.agg (sessC b).toArray] h K:=by
 apply quUZ
 unfold qpXZ
 refine nw_agg fun v1 h1 n1 e1 c1=>?_
 refine nw_agg fun v3 h2 n3 e3 c3=>?_
 have c1:=e3 _ _ c1
 simp -implicitDefEqProofs only[sessC] at c1 c3
 simp +contextual -implicitDefEqProofs[ld_at c1,cel_of c1,stm_at c1,ld_at c3,cel_of c3,stm_at c3,stm_upd,ld_same,cel_same,over]
 exact kb (hk _ (e1.trans e3)) (by simp[better])
theorem zcSess:zc P qcZ=some #[.int .i64 0,.int .i64 0,.int .i64 0,.int .u64 0]:=by kernel_rfl
theorem zcPres:zc P qhZ=some #[.int .i64 0,.int .i64 0,.int .i64 0]:=by kernel_rfl
theorem zcInt:zc P qsZ=some #[.int .i64 0]:=by kernel_rfl
def liveS (l:List Sess)(now:Int):List Sess:=l.filter fun s=>!late now s.un
def liveX (l:List Sess)(now:Int):List (Array Value):=(liveS l now).map fun s=>#[.agg (sessC s).toArray]
theorem filter_at {α:Type}(p:α→Bool):∀ (l:List α) (k:Nat) (hk:k<l.length),p l[k]=true→(l.filter p)[((l.take k).filter p).length]?=some l[k]
 | x::l,0,_,h=>by simp only[List.getElem_cons_zero] at h; simp[List.filter_cons,h]
 | x::l,k+1,hk,h=>by
  simp -implicitDefEqProofs only[List.getElem_cons_succ] at h ⊢
  have:=filter_at p l k (by simpa using hk) h
  rw[List.take_succ_cons,List.filter_cons,List.filter_cons]
  split
  ·simpa using this
  ·exact this
theorem filter_take {α:Type}(p:α→Bool)(l:List α)(k:Nat)(hk:k<l.length):((l.take (k+1)).filter p).length=((l.take k).filter p).length+if p l[k] then 1 else 0:=by
 rw[List.take_succ_eq_append_getElem hk,List.filter_append,List.length_append]
 congr 1
 simp -implicitDefEqProofs[List.filter_cons]
 split<;>simp
theorem live_it {hA : Heap} {a b : Nat} {v : Value} {now : Int} {l : List Sess} (ca : hA a = some (.cells #[v] qbZ (0, 0))) (cb : hA b = some (.cells #[.int .u64 now] qarZ (0, 0))) (x : Sl 4 SessR hA v l) :
    It P qmWZ #[ptr a, ptr b] (liveX l now) hA := by
  intro yv I S h K hx hs h0 hround hK1 hK2
  apply quNZ
  unfold qpmZ
  have ca0 := hx _ _ h0 _ _ ca
  have hlen := x.len
  simp -implicitDefEqProofs [ld_at ca0, cel_of ca0, stm_at ca0, stm_upd, ld_same, cel_same, over, hlen]
  refine loop_on [0, 2, 6, 7] (fun s h' => ∃ k : Nat, k ≤ l.length ∧ s 8 = .int .i64 k ∧ I ((l.take k).filter fun s => !late now s.un).length h') (fun s _ => (l.length - num (s 8)).toNat) ⟨0, by omega, rfl, by simpa using h0⟩ ?_
  rintro s h1 hf ⟨k, hk, s8, hI⟩
  have s0 : s 0 = yv := by simpa using hf 0 (by simp)
  have s2 : s 2 = ptr b := by simpa using hf 2 (by simp)
  have s6 : s 6 = v := by simpa using hf 6 (by simp)
  have s7 : s 7 = .int .i64 l.length := by simpa using hf 7 (by simp)
  unfold qqGZ
  simp -implicitDefEqProofs only [s8, s7, bin_lss, ov_s, cd_b]
  refine ⟨fun hc => ?_, fun hc => ?_⟩
  rotate_left
  · have : k = l.length := by have : ¬ ((k : Int) < l.length) := by simpa using hc
                              omega
    subst this
    simp -implicitDefEqProofs
    rw [List.take_length] at hI
    exact hK1 _ _ (by simpa [liveX, liveS] using hI)
  have hlt : k < l.length := by have : ((k : Int) < l.length) := by simpa using hc
                                omega
  have x1 := x.ext (R := SessR) (@SessR.ext) (hx _ _ hI)
  obtain ⟨eb, eo, c, i1, i2, i3⟩ := x1.at (k := .i64) (i := k) (by omega) (by omega)
  simp -implicitDefEqProofs only [Int.toNat_natCast] at i3
  have hmx := x.max
  have hw : IntKind.i64.wrap ((k : Int) + 1) = k + 1 := wrap64_id (by omega) (by omega)
  unfold qqFZ
  simp -implicitDefEqProofs only [s6, s8, i1, ov_s, ldV_n i2, zcSess]
  rw [show c = sessC l[k] from i3]
  refine nw_st rfl rfl (by simp [sessC]) fun v9 h2 n2 e2 c2 => ?_
  simp -implicitDefEqProofs only [sessC, cells_agg] at c2
  have hI2 := hs _ _ _ hI e2
  have cb2 := hx _ _ hI2 _ _ cb
  simp -implicitDefEqProofs [s2, ld_at c2, cel_of c2, stm_at c2, ld_at cb2, cel_of cb2, stm_at cb2, stm_upd, ld_same, cel_same, over]
  refine late_ok _ _ ?_
  unfold qqEZ
  cases hl : late now l[k].un with
  | true =>
    simp -implicitDefEqProofs
    unfold qlUZ
    simp -implicitDefEqProofs [s8, hw, s0, s2, s6, s7]
    refine ⟨⟨k + 1, by omega, by simp, ?_⟩, by omega⟩
    rw [filter_take _ _ _ hlt]
    simpa [hl] using hI2
  | false =>
    have hat := filter_at (fun s => !late now s.un) l k hlt (by simp [hl])
    obtain ⟨hj, hat⟩ := List.getElem?_eq_some_iff.1 hat
    have hj' : ((l.take k).filter fun s => !late now s.un).length < (liveX l now).length := by simpa [liveX, liveS] using hj
    have hx' : (liveX l now)[((l.take k).filter fun s => !late now s.un).length] = #[.agg (sessC l[k]).toArray] := by simp [liveX, liveS, hat]
    simp -implicitDefEqProofs [s0, ld_at c2, cel_of c2, stm_at c2, stm_upd, ld_same, cel_same, over]
    have hr := hround _ hj' h2
    rw [hx'] at hr
    refine hr _ hI2 (fun h3 hI3 => ?_) (fun h3 hS => ?_)
    · simp -implicitDefEqProofs
      unfold qlUZ
      simp -implicitDefEqProofs [s8, hw, s0, s2, s6, s7]
      refine ⟨⟨k + 1, by omega, by simp, ?_⟩, by omega⟩
      rw [filter_take _ _ _ hlt]
      simpa [hl] using hI3
    · simp -implicitDefEqProofs
      unfold qqDZ
      simp -implicitDefEqProofs
      exact hK2 _ _ hS
end Go.Proofs.YtmbningljbcpkaaGreat
namespace Go.Proofs.YtmbningljbcpkaaGreat
open Go Go.Den Go.MapKept
set_option linter.unusedSimpArgs false
set_option linter.unusedVariables false
set_option maxRecDepth 20000
theorem tgPres:tagg P qhZ=some (some 3):=by kernel_rfl
def stepL (x:Sess × Nat)(s:Sess):Sess × Nat:=(if x.2=0 || better s x.1 then s else x.1,x.2+1)
def accL (l:List Sess)(now:Int)(i:Nat):Sess × Nat:=((liveS l now).take i).foldl stepL (⟨0,0,0,0⟩,0)
theorem accL_s {l:List Sess}{now:Int}{i:Nat}(hi:i<(liveS l now).length):accL l now (i+1)=stepL (accL l now i) (liveS l now)[i]:=by
 unfold accL
 rw[List.take_succ_eq_append_getElem hi,List.foldl_append]; rfl
theorem accL_all (l:List Sess)(now:Int):accL l now (liveS l now).length=ofAcc l now:=by
 unfold accL ofAcc liveS
 rw[List.take_length,List.foldl_filter]
 congr 1
 funext x s
 simp -implicitDefEqProofs only[ofStep,stepL]
 cases late now s.un<;>simp
theorem accL_n (l:List Sess)(now:Int):∀ i,i≤(liveS l now).length→(accL l now i).2=i
 | 0,_=>rfl
 | i+1,h=>by rw[accL_s (by omega)]; simp only[stepL]; rw[accL_n l now i (by omega)]
def OfJ (hA h:Heap)(v1 v3 v5:Nat)(l:List Sess)(now:Int)(i:Nat)(h':Heap):Prop:=Ext hA h'∧Ext h h'∧h' v1=some (.cells #[.int .i64 0,.int .i64 0,.int .i64 0] qhZ (0,0)) ∧
 h' v3=some (.cells (sessC (accL l now i).1).toArray qcZ (0,0))∧h' v5=some (.cells #[.int .i64 i] qsZ (0,0))
def OfA (hA h:Heap)(v1 v3 v5:Nat)(l:List Sess)(now:Int)(i:Nat)(s:Sess)(l' b':Nat)(m2:List Nat)(s2:Env)(h3:Heap):Prop :=
 m2=[]∧∃ sb,s2 7=ptr sb∧s2 5=ptr v3∧s2 6=ptr v5∧sb≠l'∧sb≠b'∧h3 sb=some (.cells (sessC s).toArray qcZ (0,0))∧sb≠v3∧sb≠v5∧OfJ hA h v1 v3 v5 l now i h3
variable {K:KTy}
theorem aggOf_ok (l:List Sess)(now:Int){h:Heap}{v:Value}(x:Sl 4 SessR h v l)(hl:l.length<1000000)(hk:∀ h',Ext h h'→K (.agg (presC (presOf l now)).toArray) h'):callM P qhGZ #[v,.int .u64 now] h K:=by
 apply qvtZ
 unfold qtSZ
 rw[zcPres,zcSess,zcInt]
 refine nw_tag (wf_nil h) lc fun v1 T1 h1 n1 o1 t1 c1=>?_
 refine nw_tag o1.wf lc fun v3 T3 h3 n3 o3 t3 c3=>?_
 refine nw_tag o3.wf lc fun v5 T5 h5 n5 o5 t5 c5=>?_
 have b1:=o5.see (o3.see ⟨c1,t1⟩ (not_non _)) (not_non _)
 have b3:=o5.see ⟨c3,t3⟩ (not_non _)
 have ne13:v1≠v3:=ne_fresh c1 n3
 have ne15:v1≠v5:=ne_fresh (o3.see ⟨c1,t1⟩ (not_non _)).1 n5
 have ne35:v3≠v5:=ne_fresh c3 n5
 have o0:Only non (fun _=>[]) h T5 h5:=(o1.trans o3).trans o5
 have e0:Ext h h5:=fun b o e=>o0.kp b o e (not_non _)
 have xF:Sl 4 SessR (fz T5 h5) v l:=x.ext (R:=SessR) (@SessR.ext) (by have:=o0.ext (not_non _); rwa [fz_nil] at this)
 simp -implicitDefEqProofs[ld_at c5,cel_of c5,stm_at c5,stm_upd,ld_same,cel_same,over]
 have ec5:upd h5 v5 (.cells #[.int .i64 0] qsZ (0,0))=h5:=(upd_of (fun _ _=>rfl) c5).symm
 rw[ec5,seqM_eq]
 unfold qupZ
 apply qvmZ
 unfold qrqZ
 simp -implicitDefEqProofs only[xF.one.2]
 refine nw_tag o5.wf [] fun a T6 h6 n6 o6 t6 c6=>?_
 refine nw_tag o6.wf [] fun b T7 h7 n7 o7 t7 c7=>?_
 simp -implicitDefEqProofs only[ov_s]
 have b1:=o7.see (o6.see b1 (not_non _)) (not_non _)
 have b3:=o7.see (o6.see b3 (not_non _)) (not_non _)
 have b5:=o7.see (o6.see ⟨c5,t5⟩ (not_non _)) (not_non _)
 have ba:=o7.see ⟨c6,t6⟩ (not_non _)
 have o9:Only non T5 h5 T7 h7:=o6.trans o7
 have xA:Sl 4 SessR (fz T7 h7) v l:=xF.ext (R:=SessR) (@SessR.ext) (o9.ext (not_non _))
 have e7:Ext h h7:=e0.trans fun b o e=>o9.kp b o e (not_non _)
 have n1':h v1=none:=n1
 have n3':h v3=none:=o1.fresh n3
 have n5':h v5=none:=(o1.trans o3).fresh n5
 refine rf_it good mixed rfl (by kernel_rfl) (live_it (hA:=fz T7 h7) (fz_at ba.1 ba.2) (fz_at c7 t7) xA) (OfJ (fz T7 h7) h v1 v3 v5 l now) (fun _ _=>False)
  ⟨fz_ext _ _,e7,b1.1,b3.1,b5.1⟩ (fun i h' hJ=>hJ.1) ?_ (fun _ _ _ _ _ h _=>h) ?_ ?_ ?_ (fun _ _ _ _ h=>h.elim) (fun _ _ _ _ _ h=>h.elim)
 ·intro l' hl' i h' h'' hJ k
  have nl:∀ c o,h7 c=some o→some c≠some l':=fun c o e he=>by cases he; rw[hl'] at e; cases e
  exact⟨fun c o e=>k c o (hJ.1 c o e) (nl c o (fz_ext _ _ c o e)),fun c o e=>k c o (hJ.2.1 c o e) (nl c o (e7 c o e)),k _ _ hJ.2.2.1 (nl _ _ b1.1),k _ _ hJ.2.2.2.1 (nl _ _ b3.1),k _ _ hJ.2.2.2.2 (nl _ _ b5.1)⟩
 ·intro i hi; simp[liveX]
 ·intro i hi l' b' h' h2 hl' hb' hJ k ⟨ol,hol⟩ ⟨ob,hob⟩
  have nl:∀ c o,h7 c=some o→some c≠some l':=fun c o e he=>by cases he; rw[hl'] at e; cases e
  have nb:∀ c o,h7 c=some o→c≠b':=fun c o e he=>by cases he; rw[hb'] at e; cases e
  have hJ2:OfJ (fz T7 h7) h v1 v3 v5 l now i h2:=⟨fun c o e=>k c o (hJ.1 c o e) (nl c o (fz_ext _ _ c o e)),fun c o e=>k c o (hJ.2.1 c o e) (nl c o (e7 c o e)),k _ _ hJ.2.2.1 (nl _ _ b1.1),k _ _ hJ.2.2.2.1 (nl _ _ b3.1),k _ _ hJ.2.2.2.2 (nl _ _ b5.1)⟩
  have hi':i<(liveS l now).length:=by simpa [liveX] using hi
  have hxi:(liveX l now)[i]=#[.agg (sessC (liveS l now)[i]).toArray]:=by simp[liveX]
  rw[hxi]
  refine⟨OfA (fz T7 h7) h v1 v3 v5 l now i (liveS l now)[i] l' b',?_,?_,?_⟩
  ·rintro m2 s2 h3 h4 ⟨rfl,sb,q1,q2,q3,q4,q4',q5,q6,q7,q8⟩ k4
   exact⟨rfl,sb,q1,q2,q3,q4,q4',k4 _ _ q5 (by simpa using q4),q6,q7,⟨fun c o e=>k4 c o (q8.1 c o e) (nl c o (fz_ext _ _ c o e)),fun c o e=>k4 c o (q8.2.1 c o e) (nl c o (e7 c o e)),k4 _ _ q8.2.2.1 (nl _ _ b1.1),k4 _ _ q8.2.2.2.1 (nl _ _ b3.1),k4 _ _ q8.2.2.2.2 (nl _ _ b5.1)⟩⟩
  ·rw[qvdZ]
   unfold qtTZ
   rw[zcSess]
   simp -implicitDefEqProofs
   refine nw_st rfl rfl (by simp[sessC]) fun sb h4 n4 e4 c4=>?_
   refine⟨⟨rfl,sb,by simp,by simp,by simp,fun e=>(by subst e; rw[hol] at n4; cases n4),fun e=>(by subst e; rw[hob] at n4; cases n4),c4,fun e=>(by subst e; rw[hJ2.2.2.2.1] at n4; cases n4),fun e=>(by subst e; rw[hJ2.2.2.2.2] at n4; cases n4),?_⟩,by rw[hol,e4 _ _ hol],by rw[hob,e4 _ _ hob]⟩
   exact⟨hJ2.1.trans e4,hJ2.2.1.trans e4,e4 _ _ hJ2.2.2.1,e4 _ _ hJ2.2.2.2.1,e4 _ _ hJ2.2.2.2.2⟩
  ·rintro m2 s2 h3 ⟨rfl,sb,q1,q2,q3,q4,q4',q5,q6,q7,q8⟩ ⟨ol3,hol3⟩ ⟨ob3,hob3⟩
   obtain⟨r1,r2,r3,r4,r5⟩:=q8
   rw[qveZ]
   unfold qtUZ
   have hn:=accL_n l now i (by omega)
   have hlen:(liveS l now).length≤l.length:=List.length_filter_le _ _
   have hw:IntKind.i64.wrap ((i:Int)+1)=i+1:=wrap64_id (by omega) (by omega)
   have hb5:=nb _ _ b5.1
   have hb3:=nb _ _ b3.1
   have hl5:v5≠l':=fun e=>nl _ _ b5.1 (by rw[e])
   have hl3:v3≠l':=fun e=>nl _ _ b3.1 (by rw[e])
   have hst:=accL_s hi'
   rw[show accL l now i=((accL l now i).1,i) from Prod.ext rfl hn] at hst
   have hne:sb≠v3:=q6
   have ax:∀ h4,Ext h3 h4→h4 l'=h3 l'∧h4 b'=h3 b':=fun h4 e=>⟨by rw[hol3,e _ _ hol3],by rw[hob3,e _ _ hob3]⟩
   have finT:∀ h4,Ext h3 h4→(accL l now (i+1)).1=(liveS l now)[i]→∀ h5,h5=upd (upd h4 v3 (.cells (sessC (liveS l now)[i]).toArray qcZ (0,0))) v5 (.cells #[.int .i64 (i+1:Nat)] qsZ (0,0)) →
     h5 l'=h3 l'∧h5 b'=h3 b'∧OfJ (fz T7 h7) h v1 v3 v5 l now (i+1) h5:=fun h4 e hacc h5 e5=>by
    subst e5
    have:=ax h4 e
    refine⟨by rw[upd_ne (Ne.symm hl5),upd_ne (Ne.symm hl3)]; exact this.1,by rw[upd_ne (Ne.symm hb5),upd_ne (Ne.symm hb3)]; exact this.2,fun c o ec=>?_,fun c o ec=>?_,?_,?_,upd_same' _ _ _⟩
    ·have h1:c≠v5:=fun hc=>by
      subst hc
      have:fz T7 h7 c=none:=by unfold fz; rw[if_neg]; rw[b5.2]; simp
      rw[this] at ec; cases ec
     have h2:c≠v3:=fun hc=>by
      subst hc
      have:fz T7 h7 c=none:=by unfold fz; rw[if_neg]; rw[b3.2]; simp
      rw[this] at ec; cases ec
     rw[upd_ne h1,upd_ne h2]; exact e _ _ (r1 _ _ ec)
    ·rw[upd_ne (fun hc=>by subst hc; rw[n5'] at ec; cases ec),upd_ne (fun hc=>by subst hc; rw[n3'] at ec; cases ec)]; exact e _ _ (r2 _ _ ec)
    ·rw[upd_ne ne15,upd_ne ne13]; exact e _ _ r3
    ·rw[upd_ne ne35,upd_same',hacc]
   have finF:∀ h4,Ext h3 h4→(accL l now (i+1)).1=(accL l now i).1→∀ h5,h5=upd h4 v5 (.cells #[.int .i64 (i+1:Nat)] qsZ (0,0)) →
     h5 l'=h3 l'∧h5 b'=h3 b'∧OfJ (fz T7 h7) h v1 v3 v5 l now (i+1) h5:=fun h4 e hacc h5 e5=>by
    subst e5
    have:=ax h4 e
    refine⟨by rw[upd_ne (Ne.symm hl5)]; exact this.1,by rw[upd_ne (Ne.symm hb5)]; exact this.2,fun c o ec=>?_,fun c o ec=>?_,?_,?_,upd_same' _ _ _⟩
    ·have h1:c≠v5:=fun hc=>by
      subst hc
      have:fz T7 h7 c=none:=by unfold fz; rw[if_neg]; rw[b5.2]; simp
      rw[this] at ec; cases ec
     rw[upd_ne h1]; exact e _ _ (r1 _ _ ec)
    ·rw[upd_ne (fun hc=>by subst hc; rw[n5'] at ec; cases ec)]; exact e _ _ (r2 _ _ ec)
    ·rw[upd_ne ne15]; exact e _ _ r3
    ·rw[upd_ne ne35,hacc]; exact e _ _ r4
   rw[seqM_eq]
   have hw5:(↑(i+1:Nat):Int)=i+1:=by omega
   simp -implicitDefEqProofs only[sessC] at q5 r4
   by_cases hi0:i=0
   ·subst hi0
    simp -implicitDefEqProofs[q1,q2,q3,ld_at q5,cel_of q5,stm_at q5,ld_at r4,cel_of r4,stm_at r4,ld_at r5,cel_of r5,stm_at r5,stm_skip ne35,stm_skip (Ne.symm ne35),ld_skip ne35,ld_skip (Ne.symm ne35),cel_skip ne35,cel_skip (Ne.symm ne35),stm_upd,ld_same,cel_same,over,sessC,cel_skip (Ne.symm ne35),stm_skip (Ne.symm ne35),cel_of r5,stm_at r5]
    refine finT h3 (Ext.refl _) (by rw[hst]; simp[stepL]) _ ?_
    rw[upd_comm (Ne.symm ne35)]
    rfl
   ·have hi0':¬ ((i:Int)=0):=by omega
    simp -implicitDefEqProofs[q1,q2,q3,ld_at q5,cel_of q5,stm_at q5,ld_at r4,cel_of r4,stm_at r4,ld_at r5,cel_of r5,stm_at r5,stm_upd,ld_same,cel_same,over,hi0',hi0]
    refine better_ok (liveS l now)[i] (accL l now i).1 fun h4 e4=>?_
    have q5:=e4 _ _ q5
    have r4':=e4 _ _ r4
    have r5':=e4 _ _ r5
    cases hb:better (liveS l now)[i] (accL l now i).1 with
    | true =>
     simp -implicitDefEqProofs[ld_at q5,cel_of q5,stm_at q5,ld_at r4',cel_of r4',stm_at r4',ld_at r5',cel_of r5',stm_at r5',stm_skip ne35,stm_skip (Ne.symm ne35),ld_skip ne35,ld_skip (Ne.symm ne35),cel_skip ne35,cel_skip (Ne.symm ne35),stm_upd,ld_same,cel_same,over,hw]
     refine finT h4 e4 (by rw[hst]; simp[stepL,hb]) _ ?_
     rw[upd_comm (Ne.symm ne35)]
     rfl
    | false =>
     simp -implicitDefEqProofs[ld_at q5,cel_of q5,stm_at q5,ld_at r4',cel_of r4',stm_at r4',ld_at r5',cel_of r5',stm_at r5',stm_upd,ld_same,cel_same,over,hw]
     exact finF h4 e4 (by rw[hst]; simp[stepL,hb,hi0]) _ rfl
 ·intro b' h' hb' hd hJ
  simp -implicitDefEqProofs only[blkM_n,thenM_n]
  obtain⟨r1,r2,r3,r4,r5⟩:=hJ
  have hlx:(liveX l now).length=(liveS l now).length:=by simp[liveX]
  rw[hlx] at r4 r5
  simp -implicitDefEqProofs only[sessC] at r4
  unfold quqZ
  have nb1:v1≠b':=fun e=>by subst e; rw[b1.1] at hb'; cases hb'
  have bdP:∀ a b c:Int,bdV (binf P qhZ) [(0,.int .i64 a),(1,.int .i64 b),(2,.int .i64 c)]=some (.agg #[.int .i64 a,.int .i64 b,.int .i64 c]):=fun a b c=>by kernel_rfl
  simp -implicitDefEqProofs[ld_at r3,cel_of r3,stm_at r3,ld_at r4,cel_of r4,stm_at r4,ld_at r5,cel_of r5,stm_at r5,stm_upd,ld_same,cel_same,over,bdP,upd_ne (Ne.symm nb1),hd,tgPres,ld_skip nb1]
  refine kv (hk _ ?_) (by rw[presOf,← accL_all,accL_n _ _ _ (Nat.le_refl _)]; rfl)
  intro c o ec
  rw[upd_ne (fun hc=>by subst hc; rw[e7 _ _ ec] at hb'; cases hb'),upd_ne (fun hc=>by subst hc; rw[n1'] at ec; cases ec)]
  exact r2 _ _ ec
end Go.Proofs.YtmbningljbcpkaaGreat
namespace Go.Den
open Go
set_option linter.unusedVariables false
set_option linter.unusedSimpArgs false
def ltS (a b:ByteArray):Bool:=Op.bytesLess a.toList b.toList
theorem bl_irrefl:∀ x:List UInt8,Op.bytesLess x x=false
 | []=>rfl
 | a::x=>by
  have:¬ a<a:=UInt8.lt_irrefl a
  simp[Op.bytesLess,this,bl_irrefl x]
theorem bl_trans:∀ {x y z:List UInt8},Op.bytesLess x y=true→Op.bytesLess y z=true→Op.bytesLess x z=true
 | _,_,[],_,h=>by simp[Op.bytesLess] at h
 | [],_,_::_,_,_=>rfl
 | _::_,[],_,h,_=>by simp[Op.bytesLess] at h
 | a::x,b::y,c::z,h1,h2=>by
  simp only[Op.bytesLess,Bool.or_eq_true,decide_eq_true_eq,Bool.and_eq_true,beq_iff_eq] at *
  rcases h1 with h1 | ⟨rfl,h1⟩
  ·rcases h2 with h2 | ⟨rfl,h2⟩
   ·exact .inl (UInt8.lt_trans h1 h2)
   ·exact .inl h1
  ·rcases h2 with h2 | ⟨rfl,h2⟩
   ·exact .inl h2
   ·exact .inr ⟨rfl,bl_trans h1 h2⟩
theorem bl_total:∀ x y:List UInt8,Op.bytesLess x y=false→Op.bytesLess y x=false→x=y
 | [],[],_,_=>rfl
 | [],_::_,h,_=>by simp[Op.bytesLess] at h
 | _::_,[],_,h=>by simp[Op.bytesLess] at h
 | a::x,b::y,h1,h2=>by
  simp only[Op.bytesLess,Bool.or_eq_false_iff,decide_eq_false_iff_not,Bool.and_eq_false_iff,beq_eq_false_iff_ne] at *
  have hab:a=b:=by
   have h3:=h1.1
   have h4:=h2.1
   rw[UInt8.lt_iff_toNat_lt] at h3 h4
   exact UInt8.toNat_inj.1 (by omega)
  subst hab
  congr 1
  exact bl_total x y (by rcases h1.2 with h | h; exact absurd rfl h; exact h) (by rcases h2.2 with h | h; exact absurd rfl h; exact h)
theorem ltS_irrefl (a:ByteArray):ltS a a=false:=bl_irrefl _
theorem ltS_trans {a b c:ByteArray}(h:ltS a b=true)(k:ltS b c=true):ltS a c=true:=bl_trans h k
theorem ltS_total {a b:ByteArray}(h:ltS a b=false)(k:ltS b a=false):a=b:=str_inj (bl_total _ _ h k)
theorem ltS_asymm {a b:ByteArray}(h:ltS a b=true):ltS b a=false:=by
 cases k:ltS b a with
 | false=>rfl
 | true=>have:=ltS_trans h k; rw[ltS_irrefl] at this; cases this
def SrtK (l:List ByteArray):Prop:=l.Pairwise fun a b=>ltS a b=true
def pos (l:List ByteArray)(u:ByteArray):Nat:=(l.takeWhile fun k=>ltS k u).length
theorem SrtK.at {l:List ByteArray}(s:SrtK l){i j:Nat}(hi:i<j)(hj:j<l.length):ltS (l[i]'(by omega)) l[j]=true:=List.pairwise_iff_getElem.1 s i j (by omega) hj hi
theorem pos_of {l:List ByteArray}(u:ByteArray){i:Nat}(hi:i≤l.length)(h1:∀ k (hk:k<l.length),k<i→ltS l[k] u=true)(h2:∀ (hk:i<l.length),ltS l[i] u=false):pos l u=i:=by
 induction l generalizing i with
 | nil=>simp at hi; subst hi; rfl
 | cons a l ih =>
  unfold pos
  cases i with
  | zero =>
   have:=h2 (by simp)
   simp only[List.getElem_cons_zero] at this
   simp[List.takeWhile_cons,this]
  | succ i =>
   have h0:=h1 0 (by simp) (by omega)
   simp only[List.getElem_cons_zero] at h0
   have:=ih (i:=i) (by simpa using hi) (fun k hk hki=>by have:=h1 (k+1) (by simpa using hk) (by omega); rwa [List.getElem_cons_succ] at this) (fun hk=>by have:=h2 (by simpa using hk); rwa [List.getElem_cons_succ] at this)
   unfold pos at this
   simp[List.takeWhile_cons,h0,this]
theorem pos_spec {l:List ByteArray}(s:SrtK l)(u:ByteArray):pos l u≤l.length∧(∀ k (hk:k<l.length),k<pos l u→ltS l[k] u=true)∧(∀ k (hk:k<l.length),pos l u≤k→ltS l[k] u=false):=by
 induction l with
 | nil=>simp[pos]
 | cons a l ih =>
  have s':SrtK l:=(List.pairwise_cons.1 s).2
  obtain⟨h1,h2,h3⟩:=ih s'
  cases ha:ltS a u with
  | true =>
   have e:pos (a::l) u=pos l u+1:=by simp[pos,List.takeWhile_cons,ha]
   rw[e]
   refine⟨by simpa using h1,fun k hk hkp=>?_,fun k hk hkp=>?_⟩
   ·cases k with
    | zero=>simpa using ha
    | succ k=>rw[List.getElem_cons_succ]; exact h2 k (by simpa using hk) (by omega)
   ·cases k with
    | zero=>omega
    | succ k=>rw[List.getElem_cons_succ]; exact h3 k (by simpa using hk) (by omega)
  | false =>
   have e:pos (a::l) u=0:=by simp[pos,List.takeWhile_cons,ha]
   rw[e]
   refine⟨by omega,fun k hk hkp=>by omega,fun k hk _=>?_⟩
   cases k with
   | zero=>simpa using ha
   | succ k =>
    have hk':k<l.length:=by simpa using hk
    have:=(List.pairwise_cons.1 s).1 l[k] (List.getElem_mem _)
    rw[List.getElem_cons_succ]
    cases hk2:ltS l[k] u with
    | false=>rfl
    | true=>rw[ltS_trans this hk2] at ha; cases ha
theorem mem_pos {l:List ByteArray}(s:SrtK l)(u:ByteArray):u∈l↔∃ h:pos l u<l.length,l[pos l u]=u:=by
 obtain⟨h1,h2,h3⟩:=pos_spec s u
 constructor
 ·intro h
  obtain⟨i,hi,rfl⟩:=List.getElem_of_mem h
  have hip:pos l l[i]=i:=by
   refine pos_of _ (by omega) (fun k hk hki=>s.at hki hi) (fun hk=>ltS_irrefl _)
  exact⟨by rw[hip]; exact hi,by simp only[hip]⟩
 ·rintro⟨h,e⟩; rw[← e]; exact List.getElem_mem _
def keysB (b:Book):List ByteArray:=b.map (·.1)
def hasB (b:Book)(u:ByteArray):Bool:=(keysB b).any fun k=>decide (k=u)
theorem hasB_iff {b:Book}{u:ByteArray}:hasB b u=true↔u∈keysB b:=by simp[hasB]
theorem entOf_mem {b:Book}(s:SrtK (keysB b)){i:Nat}(hi:i<b.length):entOf b b[i].1=b[i].2:=by
 induction b generalizing i with
 | nil=>simp at hi
 | cons x b ih =>
  obtain⟨k,e⟩:=x
  have s':SrtK (keysB b):=(List.pairwise_cons.1 s).2
  cases i with
  | zero=>simp[entOf]
  | succ i =>
   have hi':i<b.length:=by simpa using hi
   have hne:¬ k=b[i].1:=fun h=>by
    have:=(List.pairwise_cons.1 s).1 b[i].1 (List.mem_map_of_mem (List.getElem_mem _))
    rw[h,ltS_irrefl] at this; cases this
   simp only[List.getElem_cons_succ,entOf,if_neg hne]
   exact ih s' hi'
theorem entOf_none {b:Book}{u:ByteArray}(h:u ∉ keysB b):entOf b u=ent0:=by
 induction b with
 | nil=>rfl
 | cons x b ih =>
  obtain⟨k,e⟩:=x
  simp only[keysB,List.map_cons,List.mem_cons,not_or] at h
  simp only[entOf,if_neg (Ne.symm h.1)]
  exact ih h.2
structure BkG (b:Book):Prop where
 so:SrtK (keysB b)
 len:b.length<1000000
 ss:∀ u,(entOf b u).ss.length<1000000
end Go.Den
namespace Go.Proofs.YtmbningljbcpkaaGreat
open Go Go.Den Go.MapKept
set_option linter.unusedSimpArgs false
set_option linter.unusedVariables false
set_option maxRecDepth 20000
variable {K:KTy}
theorem isNaN_ok (a:ByteArray){h:Heap}(hk:K (.bool false) h):callM P qeKZ #[.string a] h K:=by
 apply qtVZ
 unfold qjVZ
 simpa using hk
theorem sisNaN_ok (a:ByteArray){h:Heap}(hk:K (.bool false) h):callM P qcYZ #[.string a] h K:=by
 apply qscZ
 unfold qgiZ
 simpa using hk
theorem cmpLess_ok (a b:ByteArray){h:Heap}(hk:K (.bool (ltS a b)) h):callM P qjuZ #[.string a,.string b] h K:=by
 apply qulZ
 unfold qkIZ
 refine isNaN_ok a ?_
 unfold qoYZ
 have e:binV .lss 3 false (.string a) (.string b)=some (.bool (ltS a b)):=rfl
 simp -implicitDefEqProofs[e]
 exact hk
theorem str_at {F:Heap}{v:Value}{l:List ByteArray}(x:Sl 1 StrR F v l){i:Nat}(hi:i<l.length){k:IntKind}:∃ b p,iaV (some (none,1)) v (.int k i)=some (.pointer (some ⟨b,p,none⟩))∧∀ h',Ext F h'→cel h' b p=some (.string l[i]):=by
 obtain⟨b,p,c,h1,h2,h3⟩:=x.at (k:=k) (i:=i) (by omega) (by omega)
 refine⟨b,p,h1,fun h' e=>?_⟩
 have hc:c=[.string l[i]]:=h3.1
 subst hc
 have:=(cels_get (cels_ext e h2)).2 0 (by simp)
 simpa using this
set_option maxHeartbeats 1000000 in
theorem bs_ok (l : List ByteArray) (so : SrtK l) (u : ByteArray) {h : Heap} {v : Value} (x : Sl 1 StrR h v l) (hl : l.length < 1000000) (hk : K (.tuple #[.int .i64 (pos l u), .bool (l.any fun k => decide (k = u))]) h) :
    callM P qNZ #[v, .string u] h K := by
  apply qjYZ
  unfold qaUZ
  have hlen := x.len
  simp -implicitDefEqProofs only [hlen, ov_s]
  rw [seqM_eq]
  unfold qcVZ
  refine loop_on [0, 1, 6] (fun s h' => h' = h ∧ ∃ i j : Nat, i ≤ j ∧ j ≤ l.length ∧ s 7 = .int .i64 i ∧ s 8 = .int .i64 j ∧ (∀ k (hk : k < l.length), k < i → ltS l[k] u = true) ∧ ∀ k (hk : k < l.length), j ≤ k → ltS l[k] u = false)
    (fun s _ => (num (s 8) - num (s 7)).toNat) ⟨rfl, 0, l.length, by omega, by omega, rfl, by simp, fun k _ h => by omega, fun k hk h => by omega⟩ ?_
  rintro s h1 hf ⟨rfl, i, j, hij, hj, s7, s8, hlo, hhi⟩
  have s0 : s 0 = v := by simpa using hf 0 (by simp)
  have s1 : s 1 = .string u := by simpa using hf 1 (by simp)
  have s6 : s 6 = .int .i64 l.length := by simpa using hf 6 (by simp)
  unfold qcUZ
  simp -implicitDefEqProofs only [s7, s8, bin_lss, ov_s, cd_b]
  refine ⟨fun hc => ?_, fun hc => ?_⟩
  · have hlt : i < j := by have : ((i : Int) < j) := by simpa using hc
                           omega
    obtain ⟨m, hm⟩ : ∃ m : Nat, m = (i + j) / 2 := ⟨_, rfl⟩
    have hm1 : i ≤ m ∧ m < j := by omega
    have w1 : IntKind.i64.wrap ((i : Int) + j) = (i + j : Nat) := by rw [wrap64_id (by omega) (by omega)]; omega
    have w2 : IntKind.u64.wrap ((i + j : Nat) : Int) = (i + j : Nat) := wrapU_id (by omega) (by omega)
    have w3 : binV .shr 2 true (.int .u64 ((i + j : Nat) : Int)) (.int .u64 1) = some (.int .u64 m) := by
      have : ((i + j : Nat) : Int).fdiv 2 = m := by rw [Int.fdiv_eq_ediv_of_nonneg _ (by omega)]; omega
      simp -implicitDefEqProofs [binV, intV, IntKind.bits]
      rw [← this]; rfl
    have w4 : IntKind.i64.wrap (m : Int) = m := wrap64_id (by omega) (by omega)
    have w5 : IntKind.i64.wrap ((m : Int) + 1) = m + 1 := wrap64_id (by omega) (by omega)
    obtain ⟨b, p, i1, i2⟩ := str_at x (k := .i64) (i := m) (by omega)
    unfold qcTZ
    simp -implicitDefEqProofs only [s0, s1, s7, s8, bin_add, ov_s, w1, cvV_i, w2, w3, w4, i1, ldV_c, i2 _ (Ext.refl _)]
    refine cmpLess_ok _ _ ?_
    unfold qcSZ qcQZ qcRZ
    cases hlm : ltS l[m] u with
    | true =>
      simp -implicitDefEqProofs [w5, s0, s1, s6, s7, s8]
      refine ⟨⟨m + 1, j, by omega, by omega, by simp, rfl, fun k hk hkm => ?_, hhi⟩, by omega⟩
      by_cases e : k = m
      · subst e; exact hlm
      · exact ltS_trans (so.at (show k < m by omega) (by omega)) hlm
    | false =>
      simp -implicitDefEqProofs [s0, s1, s6, s7, s8]
      refine ⟨⟨i, m, by omega, by omega, rfl, rfl, hlo, fun k hk hkm => ?_⟩, by omega⟩
      by_cases e : k = m
      · subst e; exact hlm
      · cases hh : ltS l[k] u with
        | false => rfl
        | true => rw [ltS_trans (so.at (show m < k by omega) hk) hh] at hlm; cases hlm
  · have : i = j := by have : ¬ ((i : Int) < j) := by simpa using hc
                       omega
    subst this
    have hp : pos l u = i := pos_of u hj (fun k hk hki => hlo k hk hki) (fun hk => hhi i hk (by omega))
    have hany : (l.any fun k => decide (k = u)) = true ↔ u ∈ l := by simp
    have hmem := mem_pos so u
    rw [hp] at hk
    simp -implicitDefEqProofs only [lpM_e, blkM_e, if_true, thenM_n]
    unfold qcWZ
    by_cases hil : i < l.length
    · obtain ⟨b, p, i1, i2⟩ := str_at x (k := .i64) (i := i) hil
      have hil' : (i : Int) < l.length := by omega
      by_cases heq : l[i] = u
      · have : (l.any fun k => decide (k = u)) = true := hany.2 (heq ▸ List.getElem_mem hil)
        simp -implicitDefEqProofs [s0, s1, s6, s7, s8, hil', hil, i1, i2 _ (Ext.refl _), heq]
        rw [this] at hk; exact hk
      · have : (l.any fun k => decide (k = u)) = false := by
          cases hh : (l.any fun k => decide (k = u)) with
          | false => rfl
          | true => obtain ⟨h3, h4⟩ := hmem.1 (hany.1 hh); simp only [hp] at h4; exact absurd h4 heq
        simp -implicitDefEqProofs [s0, s1, s6, s7, s8, hil', hil, i1, i2 _ (Ext.refl _), heq]
        refine sisNaN_ok _ ?_
        rw [this] at hk; exact hk
    · have hil' : ¬ ((i : Int) < l.length) := by omega
      have : (l.any fun k => decide (k = u)) = false := by
        cases hh : (l.any fun k => decide (k = u)) with
        | false => rfl
        | true => obtain ⟨h3, h4⟩ := hmem.1 (hany.1 hh); rw [hp] at h3; exact absurd h3 hil
      simp -implicitDefEqProofs [s0, s1, s6, s7, s8, hil', hil]
      rw [this] at hk; exact hk
theorem zcEnt:zc P qjZ=some #[.slice none 0 0,.int .i64 0,.int .i64 0,.int .i64 0]:=by kernel_rfl
theorem find_ok (l:List ByteArray)(so:SrtK l)(u:ByteArray){h:Heap}{kw vw:Value}(ov_:vw.cells=#[vw])(x:Sl 1 StrR h kw l)(hl:l.length<1000000)(hk:∀ h',Ext h h'→K (.tuple #[.int .i64 (pos l u),.bool (l.any fun k=>decide (k=u))]) h') :
  callM P qEZ #[.agg #[kw,vw],.string u] h K:=by
 apply qlDZ
 unfold qbkZ
 refine nw_agg fun v1 h1 n1 e1 c1=>?_
 simp -implicitDefEqProofs[ld_at c1,cel_of c1,stm_at c1,stm_upd,ld_same,cel_same,over]
 refine bs_ok l so u (x.ext (@StrR.ext) e1) hl ?_
 simp -implicitDefEqProofs
 exact hk _ e1
theorem get_ok (b:Book)(so:SrtK (keysB b))(u:ByteArray){F h:Heap}(eF:Ext F h){kw vw:Value}(x:BookR F kw vw b)(hl:b.length<1000000)
  (hk:∀ h' sv,Ext h h'→Sl 4 SessR F sv (entOf b u).ss→Sn sv→K (.tuple #[.agg (sv::presC (entOf b u).told).toArray,.bool (hasB b u)]) h'):callM P qGZ #[.agg #[kw,vw],.string u] h K:=by
 apply qlSZ
 unfold qbxZ
 rw[zcEnt]
 refine nw_agg fun v1 h1 n1 e1 c1=>?_
 refine nw_intro fun v3 h3 n3 e3 c3=>?_
 refine nw_intro fun v5 h5 n5 e5 c5=>?_
 have c1:=e5 _ _ (e3 _ _ c1)
 have ne35:=ne_fresh c3 n5
 have c3:=e5 _ _ c3
 have e0:=(e1.trans e3).trans e5
 have n3:=fresh_of e1 n3
 simp -implicitDefEqProofs[ld_at c1,cel_of c1,stm_at c1,stm_upd,ld_same,cel_same,over]
 refine find_ok (keysB b) so u x.2.1.one.2 (x.1.ext (@StrR.ext) (eF.trans e0)) (by simpa [keysB] using hl) fun h6 e6=>?_
 have c1:=e6 _ _ c1
 have c3:=e6 _ _ c3
 have c5:=e6 _ _ c5
 have e0:=e0.trans e6
 unfold qedZ
 simp -implicitDefEqProofs only[exV_0,exV_1,ov_s,unV_n,cd_b]
 refine⟨fun hn=>?_,fun hy=>?_⟩
 ·have hno:u ∉ keysB b:=fun hh=>by
   have:=hasB_iff.2 hh
   unfold hasB at this
   rw[this] at hn; cases hn
  unfold qebZ
  simp -implicitDefEqProofs[ld_at c3,cel_of c3,stm_at c3,ld_at c5,cel_of c5,stm_at c5,stm_upd,ld_same,cel_same,over]
  have he:=entOf_none hno
  refine kv (hk _ (.slice none 0 0) (ext_upd n3 e0) (by rw[he]; exact .inl ⟨rfl,_,_,rfl⟩) Sn.nil) ?_
  have:hasB b u=false:=by
   cases hh:hasB b u with
   | false=>rfl
   | true=>exact absurd (hasB_iff.1 hh) hno
  rw[he,this]; rfl
 ·have hyes:hasB b u=true:=by
   unfold hasB
   simpa using hy
  obtain⟨h1,h2⟩:=(mem_pos so u).1 (hasB_iff.1 hyes)
  have hlen:(keysB b).length=b.length:=by simp[keysB]
  have hp:pos (keysB b) u<b.length:=by omega
  have hu:b[pos (keysB b) u].1=u:=by simpa [keysB] using h2
  have he:entOf b u=b[pos (keysB b) u].2:=by
   have:=entOf_mem so hp
   rw[hu] at this; exact this
  obtain⟨eb,eo,c,i1,i2,sv,i3,i4,i5⟩:=x.2.1.at (k:=.i64) (i:=pos (keysB b) u) (by omega) (by simpa using hp)
  simp -implicitDefEqProofs only[Int.toNat_natCast,List.getElem_map] at i3 i4
  have i2:=cels_ext (eF.trans e0) i2
  rw[← he] at i3 i4
  subst i3
  unfold qecZ
  simp -implicitDefEqProofs only[presC] at i2
  simp -implicitDefEqProofs[ld_at c1,cel_of c1,stm_at c1,ld_at c3,cel_of c3,stm_at c3,stm_upd,ld_same,cel_same,over,i1,ldV_n i2,i4.one.1,i4.one.2]
  refine kv (hk _ sv (ext_upd n3 e0) i4 i5) ?_
  rw[hyes]; rfl
end Go.Proofs.YtmbningljbcpkaaGreat
namespace Go.Proofs.YtmbningljbcpkaaGreat
open Go Go.Den Go.MapKept
set_option linter.unusedSimpArgs false
set_option linter.unusedVariables false
set_option maxRecDepth 20000
theorem bsStr:bsI P qgZ=some (qXZ,1,#[.string ⟨#[]⟩]):=by kernel_rfl
theorem unSlStr:P.underlying qgZ=some (.slice qXZ):=by kernel_rfl
theorem apStr:apC P qXZ=some (1,16,1):=by kernel_rfl
def strC1 (s:ByteArray):List Value:=[.string s]
def StrE (_:Heap)(c:List Value)(s:ByteArray):Prop:=c=strC1 s
theorem strR_of {h:Heap}{v:Value}{l:List ByteArray}(x:Sl 1 StrE h v l)(hs:∀ s∈l,s.size≤maxLen):Sl 1 StrR h v l:=by
 rcases x with h1 | ⟨b,o,cap,rfl,h1,h2,h3⟩
 ·exact .inl h1
 ·exact .inr ⟨b,o,cap,rfl,h1,h2,fun i hi=>let ⟨c,h4,h5⟩:=h3 i hi; ⟨c,h4,h5,hs _ (List.getElem_mem _)⟩⟩
theorem str_sizes {h:Heap}{v:Value}{l:List ByteArray}(x:Sl 1 StrR h v l):∀ s∈l,s.size≤maxLen:=by
 intro s hs
 obtain⟨i,hi,rfl⟩:=List.getElem_of_mem hs
 obtain⟨b,o,c,_,_,h3⟩:=x.at (k:=.i64) (i:=i) (by omega) (by omega)
 exact h3.2
theorem all_succ {α:Type}{p:α→Bool}{l:List α}{i:Nat}(h:i<l.length)(ha:(l.take i).all p=true)(hn:p l[i]=true):(l.take (i+1)).all p=true:=by
 rw[List.take_succ_eq_append_getElem h,List.all_append,ha]; simp[hn]
variable {K:KTy}
set_option maxHeartbeats 1000000 in
theorem modBad_ok (x : OpD) (xw : OpW x) {h : Heap} {v : Value} (hv : Sl 1 StrR h v x.users) (hl : x.users.length < 1000000)
    (hk : ∀ h', Ext h h' → K (.bool (badB x)) h') : callM P qqlZ #[.agg (opC x v).toArray] h K := by
  apply qvhZ
  unfold qrlZ
  refine nw_agg fun v1 h1 n1 e1 c1 => ?_
  simp -implicitDefEqProofs only [opC] at c1
  have hk1 := hk h1 e1
  rw [seqM_eq]
  unfold qsOZ
  by_cases k1 : x.kind = 1
  · unfold qsIZ
    simp -implicitDefEqProofs [ld_at c1, cel_of c1, stm_at c1, stm_upd, ld_same, cel_same, over, k1]
    refine hashRight_ok _ ?_
    unfold qsHZ
    simp +contextual -implicitDefEqProofs [ld_at c1, cel_of c1, stm_at c1, stm_upd, ld_same, cel_same, over]
    refine gM_call0 (a := .bool (decide (0 ≤ x.id ∧ x.id ≤ 255 ∧ 1 ≤ x.status ∧ x.status ≤ 9 ∧ 0 ≤ x.prio ∧ x.prio ≤ 9))) (fun hc K' hk' => sessRight_ok _ _ _ hk') ?_
    simp +contextual -implicitDefEqProofs
    refine kb hk1 ?_
    rw [badB, if_pos k1]
    cases nameB x.user <;> simp
  unfold qsNZ
  simp -implicitDefEqProofs [ld_at c1, cel_of c1, stm_at c1, stm_upd, ld_same, cel_same, over, k1]
  rw [seqM_eq]
  unfold qsKZ qsJZ
  by_cases k2 : x.kind = 2 ∨ x.kind = 3
  · have hb : badB x = !(nameB x.user && decide (0 ≤ x.id ∧ x.id ≤ 255)) := by rw [badB, if_neg k1, if_pos k2]
    rw [hb] at hk1
    unfold qpTZ qsMZ
    rcases k2 with k2 | k2
    all_goals
      simp -implicitDefEqProofs [ld_at c1, cel_of c1, stm_at c1, stm_upd, ld_same, cel_same, over, k2]
      refine hashRight_ok _ ?_
      unfold qsLZ
      simp +contextual -implicitDefEqProofs [ld_at c1, cel_of c1, stm_at c1, stm_upd, ld_same, cel_same, over]
      refine gM_call0 (a := .bool (decide (0 ≤ x.id ∧ x.id ≤ 255))) (fun hc K' hk' => within_ok _ _ _ hk') ?_
      simp +contextual -implicitDefEqProofs
      refine kb hk1 ?_
      cases nameB x.user <;> simp
  have k2' : ¬ x.kind = 2 := fun h => k2 (.inl h)
  have k3' : ¬ x.kind = 3 := fun h => k2 (.inr h)
  unfold qpTZ qrJZ
  simp -implicitDefEqProofs [k2', k3']
  rw [seqM_eq]
  unfold qrwZ qrvZ qruZ
  by_cases k4 : x.kind = 4 ∨ x.kind = 6 ∨ x.kind = 7
  · have hb : badB x = !nameB x.user := by rw [badB, if_neg k1, if_neg k2, if_pos k4]
    rw [hb] at hk1
    unfold qpfZ qrxZ
    rcases k4 with k4 | k4 | k4
    all_goals
      simp -implicitDefEqProofs [ld_at c1, cel_of c1, stm_at c1, stm_upd, ld_same, cel_same, over, k4]
      refine hashRight_ok _ ?_
      simp -implicitDefEqProofs
      exact hk1
  have k4' : ¬ x.kind = 4 := fun h => k4 (.inl h)
  have k6' : ¬ x.kind = 6 := fun h => k4 (.inr (.inl h))
  have k7' : ¬ x.kind = 7 := fun h => k4 (.inr (.inr h))
  unfold qpfZ qrIZ
  simp -implicitDefEqProofs [k4', k6', k7']
  by_cases k5 : x.kind = 5
  · have hb : badB x = !(decide (1 ≤ x.users.length ∧ x.users.length ≤ 8) && x.users.all nameB) := by rw [badB, if_neg k1, if_neg k2, if_neg k4, if_pos k5]
    have hlen := hv.len
    have hk' : ∀ h', Ext h1 h' → K (.bool (!(decide (1 ≤ x.users.length ∧ x.users.length ≤ 8) && x.users.all nameB))) h' := fun h' e => by rw [← hb]; exact hk h' (e1.trans e)
    unfold qrEZ
    simp -implicitDefEqProofs [k5]
    rw [seqM_eq]
    unfold qrCZ
    simp -implicitDefEqProofs [ld_at c1, cel_of c1, stm_at c1, stm_upd, ld_same, cel_same, over, hlen]
    refine loop_on [1, 47, 48] (fun s h' => h' = h1 ∧ ∃ i : Nat, i ≤ x.users.length ∧ s 49 = .int .i64 i ∧ (x.users.take i).all nameB = true) (fun s _ => (x.users.length - num (s 49)).toNat) ⟨rfl, 0, by omega, by simp, by simp⟩ ?_
    rintro s h2 hf ⟨rfl, i, hi, s49, hall⟩
    have s1 : s 1 = ptr v1 := by simpa using hf 1 (by simp)
    have s47 : s 47 = v := by simpa using hf 47 (by simp)
    have s48 : s 48 = .int .i64 x.users.length := by simpa using hf 48 (by simp)
    unfold qrBZ
    simp -implicitDefEqProofs only [s48, s49, bin_lss, ov_s, cd_b]
    refine ⟨fun hc => ?_, fun hc => ?_⟩
    · have hlt : i < x.users.length := by have : ((i : Int) < x.users.length) := by simpa using hc
                                          omega
      obtain ⟨b, o, i1, i2⟩ := str_at hv (k := .i64) hlt
      have hw : IntKind.i64.wrap ((i : Int) + 1) = i + 1 := wrap64_id (by omega) (by omega)
      unfold qrAZ
      simp -implicitDefEqProofs only [s47, s49, i1, ov_s, ldV_c, i2 _ e1]
      refine hashRight_ok _ ?_
      unfold qrzZ qryZ
      cases hn : nameB x.users[i] with
      | true =>
        simp -implicitDefEqProofs [s49, hw, s1, s47, s48]
        refine ⟨⟨i + 1, by omega, by simp, ?_⟩, by omega⟩
        simpa using all_succ hlt hall hn
      | false =>
        simp -implicitDefEqProofs
        refine kb (hk' _ (Ext.refl _)) ?_
        have : x.users.all nameB = false := by rw [List.all_eq_false]; exact ⟨_, List.getElem_mem hlt, by simp [hn]⟩
        simp -implicitDefEqProofs [this]
    · have : i = x.users.length := by have : ¬ ((i : Int) < x.users.length) := by simpa using hc
                                      omega
      subst this
      rw [List.take_length] at hall
      unfold qrDZ
      simp -implicitDefEqProofs [s1, ld_at c1, cel_of c1, stm_at c1, stm_upd, ld_same, cel_same, over, hlen]
      refine within_ok _ _ _ ?_
      simp -implicitDefEqProofs
      refine kb (hk' _ (Ext.refl _)) ?_
      have e : decide (1 ≤ x.users.length ∧ x.users.length ≤ 8) = decide ((1 : Int) ≤ x.users.length ∧ (x.users.length : Int) ≤ 8) := decide_eq_decide.2 (by omega)
      rw [hall, e]; simp
  · have hb : badB x = !decide (x.kind = 8 ∨ x.kind = 9) := by rw [badB, if_neg k1, if_neg k2, if_neg k4, if_neg k5]
    rw [hb] at hk1
    unfold qrHZ
    simp -implicitDefEqProofs [k5]
    rw [seqM_eq]
    unfold qrGZ qrFZ
    by_cases k8 : x.kind = 8
    · simp -implicitDefEqProofs [ld_at c1, cel_of c1, stm_at c1, stm_upd, ld_same, cel_same, over, k8]
      exact kb hk1 (by simp [k8])
    · by_cases k9 : x.kind = 9
      · simp -implicitDefEqProofs [ld_at c1, cel_of c1, stm_at c1, stm_upd, ld_same, cel_same, over, k9]
        exact kb hk1 (by simp [k9])
      · simp -implicitDefEqProofs [ld_at c1, cel_of c1, stm_at c1, stm_upd, ld_same, cel_same, over, k1, k2', k3', k4', k5, k6', k7', k8, k9]
        exact kb hk1 (by simp [k8, k9])
set_option maxHeartbeats 1000000 in
theorem short_ok (x : OpD) {h : Heap} {v : Value} (hv : Sl 1 StrR h v x.users) (hk : ∀ h', Ext h h' → K (.bool (shortB x)) h') : callM P qfHZ #[.agg (opC x v).toArray] h K := by
  apply qsiZ
  unfold qhLZ
  refine nw_agg fun v1 h1 n1 e1 c1 => ?_
  simp -implicitDefEqProofs only [opC] at c1
  have hlen := hv.len
  have hk1 := hk h1 e1
  by_cases h40 : x.user.size ≤ 40
  rotate_left
  · have : (40 : Int) < x.user.size := by omega
    simp -implicitDefEqProofs [ld_at c1, cel_of c1, stm_at c1, stm_upd, ld_same, cel_same, over, this]
    exact kb hk1 (by simp [shortB, h40])
  have h40' : ¬ (40 : Int) < x.user.size := by omega
  by_cases h20 : x.users.length ≤ 20
  rotate_left
  · have : (20 : Int) < x.users.length := by omega
    simp -implicitDefEqProofs [ld_at c1, cel_of c1, stm_at c1, stm_upd, ld_same, cel_same, over, h40', this, hlen]
    exact kb hk1 (by simp [shortB, h20])
  have h20' : ¬ (20 : Int) < x.users.length := by omega
  unfold qkYZ
  simp -implicitDefEqProofs [ld_at c1, cel_of c1, stm_at c1, stm_upd, ld_same, cel_same, over, h40', h20', hlen]
  rw [seqM_eq]
  unfold qkXZ
  refine loop_on [1] (fun s h' => h' = h1 ∧ ∃ i : Nat, i ≤ x.users.length ∧ s 3 = .int .i64 i ∧ (x.users.take i).all (fun s => decide (s.size ≤ 40)) = true) (fun s _ => (x.users.length - num (s 3)).toNat) ⟨rfl, 0, by omega, rfl, by simp⟩ ?_
  rintro s h2 hf ⟨rfl, i, hi, s3, hall⟩
  have s1 : s 1 = ptr v1 := by simpa using hf 1 (by simp)
  unfold qkWZ
  simp -implicitDefEqProofs only [s1, faV_p, ov_s, ldV_c, Nat.zero_add, cel_of c1, List.getElem?_toArray, List.getElem?_cons_succ, List.getElem?_cons_zero, hlen, s3, bin_lss, cd_b]
  refine ⟨fun hc => ?_, fun hc => ?_⟩
  · have hlt : i < x.users.length := by have : ((i : Int) < x.users.length) := by simpa using hc
                                        omega
    obtain ⟨b, o, i1, i2⟩ := str_at hv (k := .i64) hlt
    have hw : IntKind.i64.wrap ((i : Int) + 1) = i + 1 := wrap64_id (by omega) (by omega)
    unfold qkVZ qkTZ qkUZ
    by_cases hn : x.users[i].size ≤ 40
    · have hn' : ¬ (40 : Int) < x.users[i].size := by omega
      simp -implicitDefEqProofs [s1, s3, ld_at c1, cel_of c1, stm_at c1, stm_upd, ld_same, cel_same, over, i1, i2 _ e1, hn', hw]
      refine ⟨⟨i + 1, by omega, by simp, ?_⟩, by omega⟩
      simpa using all_succ (p := fun s : ByteArray => decide (s.size ≤ 40)) hlt hall (by simp [hn])
    · have hn' : (40 : Int) < x.users[i].size := by omega
      simp -implicitDefEqProofs [s1, s3, ld_at c1, cel_of c1, stm_at c1, stm_upd, ld_same, cel_same, over, i1, i2 _ e1, hn']
      refine kb hk1 ?_
      have : (x.users.all fun s => decide (s.size ≤ 40)) = false := by rw [List.all_eq_false]; exact ⟨_, List.getElem_mem hlt, by simp [hn]⟩
      simp -implicitDefEqProofs [shortB, this]
  · have : i = x.users.length := by have : ¬ ((i : Int) < x.users.length) := by simpa using hc
                                    omega
    subst this
    rw [List.take_length] at hall
    simp -implicitDefEqProofs
    refine kb hk1 ?_
    simp -implicitDefEqProofs [shortB, hall, h40, h20]
end Go.Proofs.YtmbningljbcpkaaGreat
namespace Go.Proofs.YtmbningljbcpkaaGreat
open Go Go.Den Go.MapKept
set_option linter.unusedSimpArgs false
set_option linter.unusedVariables false
set_option maxRecDepth 20000
def allN (l:List ByteArray):Bool:=l.all nameB
theorem allN_s {l:List ByteArray}{i:Nat}(h:i<l.length):allN (l.take (i+1))=(allN (l.take i) && nameB l[i]):=by
 unfold allN; rw[List.take_succ_eq_append_getElem h,List.all_append]; simp
variable {K:KTy}
set_option maxHeartbeats 2000000 in
theorem refBad_ok (x : OpD) (xw : OpW x) {h : Heap} {v : Value} (hv : Sl 1 StrR h v x.users) (hl : x.users.length < 1000000)
    (hk : ∀ h', Ext h h' → K (.bool (badB x)) h') : callM P qiAZ #[.agg (opC x v).toArray] h K := by
  apply qtBZ
  unfold qjDZ
  refine nw_agg fun v1 h1 n1 e1 c1 => ?_
  simp -implicitDefEqProofs only [opC] at c1
  have hk1 := hk h1 e1
  have hlen := hv.len
  simp +contextual -implicitDefEqProofs [ld_at c1, cel_of c1, stm_at c1, stm_upd, ld_same, cel_same, over]
  by_cases k1 : x.kind = 1
  · unfold qnuZ
    simp -implicitDefEqProofs [ld_at c1, cel_of c1, stm_at c1, stm_upd, ld_same, cel_same, over, k1]
    refine refName_ok _ ?_
    unfold qntZ
    simp +contextual -implicitDefEqProofs [ld_at c1, cel_of c1, stm_at c1, stm_upd, ld_same, cel_same, over]
    refine kb hk1 ?_
    rw [badB, if_pos k1]
    cases nameB x.user
    · simp -implicitDefEqProofs
    · rw [Bool.eq_iff_iff]; simp; omega
  unfold qnBZ
  simp +contextual -implicitDefEqProofs [ld_at c1, cel_of c1, stm_at c1, stm_upd, ld_same, cel_same, over, k1]
  by_cases k2 : x.kind = 2 ∨ x.kind = 3
  · have hb : badB x = !(nameB x.user && decide (0 ≤ x.id ∧ x.id ≤ 255)) := by rw [badB, if_neg k1, if_pos k2]
    unfold qnwZ
    simp -implicitDefEqProofs [ld_at c1, cel_of c1, stm_at c1, stm_upd, ld_same, cel_same, over, k2]
    refine ⟨?_, fun h2 h3 => absurd k2 (by omega)⟩
    refine refName_ok _ ?_
    unfold qnvZ
    simp +contextual -implicitDefEqProofs
    refine kb hk1 ?_
    rw [hb]
    cases nameB x.user
    · simp -implicitDefEqProofs
    · rw [Bool.eq_iff_iff]; simp; omega
  have k2' : ¬ x.kind = 2 := fun h => k2 (.inl h)
  have k3' : ¬ x.kind = 3 := fun h => k2 (.inr h)
  unfold qnAZ
  simp +contextual -implicitDefEqProofs [ld_at c1, cel_of c1, stm_at c1, stm_upd, ld_same, cel_same, over, k2', k3']
  by_cases k4 : x.kind = 4 ∨ x.kind = 6 ∨ x.kind = 7
  · have hb : badB x = !nameB x.user := by rw [badB, if_neg k1, if_neg k2, if_pos k4]
    rw [hb] at hk1
    unfold qnxZ
    have k4x : (x.kind = 4 ∨ x.kind = 6) ∨ x.kind = 7 := by omega
    simp -implicitDefEqProofs [ld_at c1, cel_of c1, stm_at c1, stm_upd, ld_same, cel_same, over, k4x]
    refine ⟨?_, fun h2 h3 h7 => absurd k4 (by omega)⟩
    refine refName_ok _ ?_
    simp -implicitDefEqProofs
    exact hk1
  have k4' : ¬ x.kind = 4 := fun h => k4 (.inl h)
  have k6' : ¬ x.kind = 6 := fun h => k4 (.inr (.inl h))
  have k7' : ¬ x.kind = 7 := fun h => k4 (.inr (.inr h))
  unfold qnzZ
  simp -implicitDefEqProofs [k4', k6', k7']
  rw [seqM_eq]
  unfold qnyZ qmBZ
  by_cases k5 : x.kind = 5
  · have hb : badB x = !(decide (1 ≤ x.users.length ∧ x.users.length ≤ 8) && x.users.all nameB) := by rw [badB, if_neg k1, if_neg k2, if_neg k4, if_pos k5]
    rw [hb] at hk1
    have hlb : (decide ((x.users.length : Int) < 1) || decide ((8 : Int) < x.users.length)) = !decide (1 ≤ x.users.length ∧ x.users.length ≤ 8) := by
      rw [← Bool.decide_or, ← decide_not]; exact decide_eq_decide.2 (by omega)
    generalize decide (1 ≤ x.users.length ∧ x.users.length ≤ 8) = B at *
    unfold qmAZ
    simp +contextual -implicitDefEqProofs [ld_at c1, cel_of c1, stm_at c1, stm_upd, ld_same, cel_same, over, k5, hlen]
    rw [seqM_eq]
    unfold qmzZ
    refine loop_on [1] (fun s h' => h' = h1 ∧ ∃ i : Nat, i ≤ x.users.length ∧ s 5 = .int .i64 i ∧ s 4 = .bool (!(B && allN (x.users.take i)))) (fun s _ => (x.users.length - num (s 5)).toNat)
      ⟨rfl, 0, by omega, by simp, by simp [hlb, allN]⟩ ?_
    rintro s h2 hf ⟨rfl, i, hi, s5, s4⟩
    have s1 : s 1 = ptr v1 := by simpa using hf 1 (by simp)
    unfold qmyZ
    simp -implicitDefEqProofs only [s1, faV_p, ov_s, ldV_c, Nat.zero_add, cel_of c1, List.getElem?_toArray, List.getElem?_cons_succ, List.getElem?_cons_zero, hlen, s5, bin_lss, cd_b]
    refine ⟨fun hc => ?_, fun hc => ?_⟩
    · have hlt : i < x.users.length := by have : ((i : Int) < x.users.length) := by simpa using hc
                                          omega
      obtain ⟨b, o, i1, i2⟩ := str_at hv (k := .i64) hlt
      have hw : IntKind.i64.wrap ((i : Int) + 1) = i + 1 := wrap64_id (by omega) (by omega)
      have hal := allN_s hlt
      unfold qmxZ
      generalize allN (x.users.take i) = A at *
      cases hBA : (B && A) with
      | false =>
        simp -implicitDefEqProofs only [hBA] at s4
        simp -implicitDefEqProofs [s1, s4, s5, ld_at c1, cel_of c1, stm_at c1, stm_upd, ld_same, cel_same, over, hw]
        refine ⟨⟨i + 1, by omega, by simp, ?_⟩, by omega⟩
        rw [hal]; revert hBA; cases B <;> cases A <;> simp
      | true =>
        simp -implicitDefEqProofs only [hBA] at s4
        simp -implicitDefEqProofs [s1, s4, s5, ld_at c1, cel_of c1, stm_at c1, stm_upd, ld_same, cel_same, over, hw, i1, i2 _ e1]
        refine refName_ok _ ?_
        simp -implicitDefEqProofs [s1, s4, s5, hw]
        refine ⟨⟨i + 1, by omega, by simp, ?_⟩, by omega⟩
        rw [hal]; revert hBA; cases B <;> cases A <;> simp
    · have : i = x.users.length := by have : ¬ ((i : Int) < x.users.length) := by simpa using hc
                                      omega
      subst this
      rw [List.take_length] at s4
      simp -implicitDefEqProofs [s4]
      exact kb hk1 (by simp [allN])
  · have hb : badB x = !decide (x.kind = 8 ∨ x.kind = 9) := by rw [badB, if_neg k1, if_neg k2, if_neg k4, if_neg k5]
    rw [hb] at hk1
    simp -implicitDefEqProofs [ld_at c1, cel_of c1, stm_at c1, stm_upd, ld_same, cel_same, over, k5]
    unfold qmCZ
    simp +contextual -implicitDefEqProofs [ld_at c1, cel_of c1, stm_at c1, stm_upd, ld_same, cel_same, over]
    exact kb hk1 (by simp)
def NatR (_:Heap)(c:List Value)(n:Nat):Prop:=c=[.int .i64 n]
theorem NatR.ext {h h':Heap}{c:List Value}{x:Nat}(_:Ext h h')(r:NatR h c x):NatR h' c x:=r
end Go.Proofs.YtmbningljbcpkaaGreat
namespace Go.Den
open Go
set_option linter.unusedVariables false
set_option linter.unusedSimpArgs false
theorem RP.next_lt {p:RP}{ph:Int}(h:p.at_+1<p.k):p.next ph={ p with at_:=p.at_+1 }:=if_pos h
theorem RP.next_ge {p:RP}{ph:Int}(h:¬ p.at_+1<p.k):p.next ph={ p with ph:=ph,at_:=0 }:=if_neg h
end Go.Den
namespace Go.Den
open Go
set_option linter.unusedVariables false
set_option linter.unusedSimpArgs false
structure RG (r:RP):Prop where
 us:r.users.length≤1000
 of:r.of≤1000
 k8:r.k≤8
 tr:0≤r.tries∧r.tries≤4
 at_:r.at_<1000000
 sn:∀ i b,r.seen i=some b→BkG b
structure HG (H:Hall):Prop where
 n8:H.n≤8
 ac:H.acts.length<900000
 sn:∀ s,s<H.n→BkG (H.ss s).snap∧BkG (H.ss s).book
 uv:∀ s,s<H.n→U64 (H.ss s).v∧U64 (H.ss s).bound
 wh:∀ s,s<H.n→0≤(H.ss s).who∧(H.ss s).who≤1000
 cw:CfgW H.c
 c8:H.c.stripes≤8
theorem RP.s_lt {r:RP}(h:r.at_<r.k):r.s=r.ss[r.at_]'h:=by
 show r.ss.getD r.at_ 0=_
 rw[List.getD_eq_getElem?_getD,List.getElem?_eq_getElem h]; rfl
theorem HG.did {H:Hall}(x:HG H)(w k p:Int)(h:H.acts.length+1<900000):HG (H.did w k p):=⟨x.n8,by simp[Hall.did]; omega,x.sn,x.uv,x.wh,x.cw,x.c8⟩
theorem HG.put {H:Hall}(x:HG H){s:Nat}{y:Strp}(h1:BkG y.snap∧BkG y.book)(h2:U64 y.v∧U64 y.bound)(h3:0≤y.who∧y.who≤1000):HG (H.put s y) :=
 ⟨x.n8,x.ac,fun t ht=>by simp only[Hall.put,sput]; split; exact h1; exact x.sn t ht,fun t ht=>by simp only[Hall.put,sput]; split; exact h2; exact x.uv t ht,fun t ht=>by simp only[Hall.put,sput]; split; exact h3; exact x.wh t ht,x.cw,x.c8⟩
theorem HG.lock {H:Hall}(x:HG H){w:Int}{s:Nat}(hs:s<H.n)(hw:w≤900)(h:H.acts.length+1<900000):HG (H.lock w s):=by
 unfold Hall.lock
 split
 ·rename_i hc
  have hc':0≤w∧(H.ss s).who=0:=by simpa [canTake] using hc
  exact (x.did _ _ _ h).put (x.sn s hs) (x.uv s hs) (by simp; omega)
 ·exact x
theorem HG.unlock {H:Hall}(x:HG H){w:Int}{s:Nat}(hs:s<H.n)(h:H.acts.length+1<900000):HG (H.unlock w s):=by
 unfold Hall.unlock
 split
 ·exact (x.did _ _ _ h).put (x.sn s hs) (x.uv s hs) (by simp)
 ·exact x
theorem lock_n (H:Hall)(w:Int)(s:Nat):(H.lock w s).n=H.n∧(H.lock w s).c=H.c∧(H.lock w s).acts.length≤H.acts.length+1:=by
 unfold Hall.lock; split
 ·exact⟨rfl,rfl,by simp[Hall.put,Hall.did]⟩
 ·exact⟨rfl,rfl,by omega⟩
theorem unlock_n (H:Hall)(w:Int)(s:Nat):(H.unlock w s).n=H.n∧(H.unlock w s).c=H.c∧(H.unlock w s).acts.length≤H.acts.length+1:=by
 unfold Hall.unlock; split
 ·exact⟨rfl,rfl,by simp[Hall.put,Hall.did]⟩
 ·exact⟨rfl,rfl,by omega⟩
structure RK (n:Nat)(r:RP):Prop where
 rg:RG r
 at_:r.ph≠8→r.ss≠[]→r.at_<r.k
 ss:∀ s∈r.ss,s<n
 vn:r.ph≠8→r.vals=[]
 ph:0≤r.ph∧r.ph≤8
 e0:r.ss=[]→r.ph=0∨r.ph=8
 ep:∀ i,i<r.k→U64 (r.ep i)
 wr:-1000≤r.who∧r.who≤900
theorem RK.next {n:Nat}{r:RP}(x:RK n r)(h8:r.ph≠8)(h0:r.ss≠[]){ph:Int}(hp:0≤ph∧ph≤8):RK n (r.next ph):=by
 have hk:0<r.k:=by unfold RP.k; exact List.length_pos_iff.2 h0
 have g:=x.rg
 have k8:=g.k8
 by_cases hl:r.at_+1<r.k
 ·rw[RP.next_lt hl]
  exact⟨⟨g.us,g.of,g.k8,g.tr,by simp; omega,g.sn⟩,fun _ _=>hl,x.ss,fun _=>x.vn h8,x.ph,fun h=>absurd h h0,x.ep,x.wr⟩
 ·rw[RP.next_ge hl]
  exact⟨⟨g.us,g.of,g.k8,g.tr,by simp,g.sn⟩,fun _ _=>hk,x.ss,fun _=>x.vn h8,hp,fun h=>absurd h h0,x.ep,x.wr⟩
theorem RK.begin {n:Nat}{r:RP}(x:RK n r)(hv:r.vals=[]):RK n r.begin:=by
 have g:=x.rg
 exact⟨⟨g.us,g.of,g.k8,g.tr,by simp[RP.begin],fun i b h=>by simp[RP.begin] at h⟩,fun _ h0=>by show 0<r.k; unfold RP.k; exact List.length_pos_iff.2 h0,x.ss,fun _=>hv,by simp[RP.begin],fun _=>.inl rfl,fun i _=>by simp[RP.begin,U64],x.wr⟩
theorem RK.answer {n:Nat}{r:RP}(x:RK n r)(h0:r.ss≠[]){ph:Int}(hp:ph=8):RK n { r.answer with ph:=ph }:=by
 have g:=x.rg
 subst hp
 unfold RP.answer
 split
 ·exact⟨⟨g.us,g.of,g.k8,g.tr,g.at_,g.sn⟩,fun h=>absurd rfl h,x.ss,fun h=>absurd rfl h,by simp,fun h=>absurd h h0,x.ep,x.wr⟩
 ·exact⟨⟨g.us,g.of,g.k8,g.tr,g.at_,g.sn⟩,fun h=>absurd rfl h,x.ss,fun h=>absurd rfl h,by simp,fun h=>absurd h h0,x.ep,x.wr⟩
theorem answer_ph (r:RP):r.answer.ph=r.ph:=by unfold RP.answer; split<;>rfl
theorem RK.judge {n:Nat}{r:RP}(x:RK n r)(h0:r.ss≠[])(hv:r.vals=[])(hat:r.at_<r.k):RK n r.judge:=by
 have g:=x.rg
 unfold RP.judge
 split
 ·exact x.answer h0 rfl
 ·split
  ·exact⟨⟨g.us,g.of,g.k8,g.tr,g.at_,g.sn⟩,fun _ _=>hat,x.ss,fun _=>hv,by simp,fun h=>absurd h h0,x.ep,x.wr⟩
  ·rename_i h1 h2
   have ht:¬ r.tries=0:=by intro h; simp[h] at h2
   have:=g.tr
   refine RK.begin (r:={ r with tries:=r.tries-1 }) ⟨⟨g.us,g.of,g.k8,by simp; omega,g.at_,g.sn⟩,x.at_,x.ss,x.vn,x.ph,x.e0,x.ep,x.wr⟩ hv
theorem RK.step {r:RP}{H:Hall}(x:RK H.n r)(g:HG H)(n:Int)(ha:H.acts.length+1<900000) :
  RK H.n (r.step H n).1∧HG (r.step H n).2∧(r.step H n).2.n=H.n∧(r.step H n).2.c=H.c∧(r.step H n).2.acts.length≤H.acts.length+1:=by
 have rg:=x.rg
 unfold RP.step
 split
 ·exact⟨x,g,rfl,rfl,Nat.le_succ _⟩
 rename_i hen
 have hen:r.enabled H=true:=by simpa using hen
 have h8:¬ r.ph=8:=fun h=>by simp[RP.enabled,h] at hen
 split
 ·rename_i h0
  exact⟨⟨⟨rg.us,rg.of,rg.k8,rg.tr,rg.at_,rg.sn⟩,fun h=>absurd rfl h,x.ss,fun _=>rfl,by simp,fun _=>.inr rfl,x.ep,x.wr⟩,g,rfl,rfl,Nat.le_succ _⟩
 rename_i h0
 have hat:=x.at_ h8 h0
 have hs:r.s<H.n:=by rw[RP.s_lt hat]; exact x.ss _ (List.getElem_mem _)
 have hv:=x.vn h8
 have hw:=x.wr
 have did:∀ k p:Int,HG (H.did r.who k p)∧(H.did r.who k p).n=H.n∧(H.did r.who k p).c=H.c∧(H.did r.who k p).acts.length≤H.acts.length+1:=fun k p=>⟨g.did _ _ _ ha,rfl,rfl,by simp[Hall.did]⟩
 unfold RP.go
 split
 ·refine⟨RK.next (r:={ r with ep:=epset r.ep r.at_ (H.ss r.s).v,spent:=r.spent || decide (evn H.c.epochs≤(H.ss r.s).v) }) ⟨⟨rg.us,rg.of,rg.k8,rg.tr,rg.at_,rg.sn⟩,x.at_,x.ss,x.vn,x.ph,x.e0,fun i hi=>?_,x.wr⟩ h8 h0 (by omega),did _ _⟩
  simp only[epset]; split
  ·exact (g.uv _ hs).1
  ·exact x.ep i hi
 split
 ·refine⟨RK.next (r:={ r with seen:=seenset r.seen r.s (H.ss r.s).snap }) ⟨⟨rg.us,rg.of,rg.k8,rg.tr,rg.at_,fun i b h=>?_⟩,x.at_,x.ss,x.vn,x.ph,x.e0,x.ep,x.wr⟩ h8 h0 (by omega),did _ _⟩
  simp only[seenset] at h; split at h
  ·cases h; exact (g.sn _ hs).1
  ·exact rg.sn i b h
 split
 ·exact⟨⟨⟨rg.us,rg.of,rg.k8,rg.tr,rg.at_,rg.sn⟩,fun _ _=>hat,x.ss,fun _=>hv,by simp,fun h=>absurd h h0,x.ep,x.wr⟩,did _ _⟩
 split
 ·exact⟨⟨⟨rg.us,rg.of,rg.k8,rg.tr,rg.at_,rg.sn⟩,fun _ _=>hat,x.ss,fun _=>hv,by simp,fun h=>absurd h h0,x.ep,x.wr⟩,did _ _⟩
 split
 ·have y:RK H.n { r with valid:=r.valid && validB (r.ep r.at_) (H.ss r.s).v H.c.epochs }:=⟨⟨rg.us,rg.of,rg.k8,rg.tr,rg.at_,rg.sn⟩,x.at_,x.ss,x.vn,x.ph,x.e0,x.ep,x.wr⟩
  refine⟨?_,did _ _⟩
  have yn:=y.next h8 h0 (ph:=8) (by omega)
  show RK H.n (if RP.last { r with valid:=r.valid && validB (r.ep r.at_) (H.ss r.s).v H.c.epochs } then RP.judge (RP.next { r with valid:=r.valid && validB (r.ep r.at_) (H.ss r.s).v H.c.epochs } 8) else RP.next { r with valid:=r.valid && validB (r.ep r.at_) (H.ss r.s).v H.c.epochs } 8)
  split
  ·rename_i hl
   have hl':(!decide (r.at_+1<r.k))=true:=hl
   have hge:¬ r.at_+1<r.k:=by simpa using hl'
   have e:=RP.next_ge (p:={ r with valid:=r.valid && validB (r.ep r.at_) (H.ss r.s).v H.c.epochs }) (ph:=8) hge
   refine yn.judge (by rw[e]; exact h0) (by rw[e]; exact hv) (by rw[e]; show 0<r.k; omega)
  ·exact yn
 split
 ·exact⟨x.next h8 h0 (by omega),g.lock hs hw.2 ha,lock_n _ _ _⟩
 split
 ·refine⟨RK.next (r:={ r with seen:=seenset r.seen r.s (H.ss r.s).book }) ⟨⟨rg.us,rg.of,rg.k8,rg.tr,rg.at_,fun i b h=>?_⟩,x.at_,x.ss,x.vn,x.ph,x.e0,x.ep,x.wr⟩ h8 h0 (by omega),did _ _⟩
  simp only[seenset] at h; split at h
  ·cases h; exact (g.sn _ hs).2
  ·exact rg.sn i b h
 ·refine⟨?_,g.unlock hs ha,unlock_n _ _ _⟩
  have yn:=x.next h8 h0 (ph:=8) (by omega)
  show RK H.n (if r.last then (r.next 8).answer else r.next 8)
  split
  ·rename_i hl
   have hl':(!decide (r.at_+1<r.k))=true:=hl
   have hge:¬ r.at_+1<r.k:=by simpa using hl'
   have e:=RP.next_ge (p:=r) (ph:=8) hge
   have:=yn.answer (by rw[e]; exact h0) rfl (ph:=8)
   have e8:(r.next 8).answer.ph=8:=by rw[answer_ph,e]
   have ee:∀ q:RP,q.ph=8→{ q with ph:=8 }=q:=fun q h=>by cases q; simp at h; subst h; rfl
   rw[ee _ e8] at this
   exact this
  ·exact yn
end Go.Den
namespace Go.Proofs.YtmbningljbcpkaaGreat
open Go Go.Den Go.MapKept
set_option linter.unusedSimpArgs false
set_option linter.unusedVariables false
set_option maxRecDepth 20000
def rpC (r:RP)(uv sv ev:Value)(mr:Nat)(vv:Value):List Value:=[.int .i64 r.who,uv,.int .i64 r.of,sv,.int .i64 r.ph,.int .i64 r.at_,.int .i64 r.tries,ev,.bool r.valid,.bool r.spent,.map (some mr),
 .int .u64 r.t.now,.int .u64 r.t.seq,.bool r.t.closed,.int .i64 r.looked,.int .i64 r.placed,.int .i64 r.err,vv,.slice none 0 0,.bool false]
def SeenR (F h:Heap)(mr:Nat)(s:Int→Option Book):Prop:=∃ f,MapR (.int .i64) h mr f∧∀ i:Int,match s i with
 | some b=>∃ a c,f (.int .i64 i)=some (.agg #[a,c])∧BookR F a c b
 | none=>f (.int .i64 i)=none
structure RPX (T:Tags)(h:Heap)(g:Tag)(p:Nat)(r:RP)(uv sv ev:Value)(mr:Nat)(vv:Value):Prop where
 hp:h p=some (.cells (rpC r uv sv ev mr vv).toArray quVZ (0,0))
 tp:T p=g++[0]
 us:Sl 1 StrR (fz T h) uv r.users
 ss:Sl 1 NatR (fz T h) sv r.ss
 ep:Rw T h (g++[1]) 1 qarZ ev r.k (seqF r.k fun i=>[.int .u64 (r.ep i)])
 mt:T mr=g++[2]
 sn:SeenR (fz T h) h mr r.seen
 vs:Sl 3 PresR (fz T h) vv r.vals
 vn:r.vals=[]→vv = .slice none 0 0
def RPR (T:Tags)(h:Heap)(g:Tag)(p:Nat)(r:RP):Prop:=∃ uv sv ev mr vv,RPX T h g p r uv sv ev mr vv
theorem SeenR.kp {U:Tag→Prop}{T T':Tags}{h h':Heap}{g:Tag}{mr:Nat}{s:Int→Option Book}(x:SeenR (fz T h) h mr s)(k:Kp U T h T' h')(ht:T mr=g)(u:¬ U g)(n:¬ U []):SeenR (fz T' h') h' mr s:=by
 obtain⟨f,m,hs⟩:=x
 obtain⟨o,ho⟩:=m.lt
 refine⟨f,m.of (by rw[(k.at ho ht u).1,ho]),fun i=>?_⟩
 have:=hs i
 cases hsi:s i with
 | none=>simpa [hsi] using this
 | some b=>simp only[hsi] at this ⊢; obtain⟨a,c,h1,h2⟩:=this; exact⟨a,c,h1,h2.ext (k.ext n)⟩
theorem RPX.kp {U:Tag→Prop}{T T':Tags}{h h':Heap}{g:Tag}{p:Nat}{r:RP}{uv sv ev:Value}{mr:Nat}{vv:Value}(x:RPX T h g p r uv sv ev mr vv)(k:Kp U T h T' h')(o:Off U g)(n:¬ U []):RPX T' h' g p r uv sv ev mr vv:=by
 obtain⟨f,m,_⟩:=x.sn
 obtain⟨om,hom⟩:=m.lt
 exact⟨(k.at x.hp x.tp (o.at _)).1,(k.at x.hp x.tp (o.at _)).2,x.us.ext (@StrR.ext) (k.ext n),x.ss.ext (@NatR.ext) (k.ext n),x.ep.kp k (o.at _),(k.at hom x.mt (o.at _)).2,x.sn.kp k x.mt (o.at _) n,
  x.vs.ext (@PresR.ext) (k.ext n),x.vn⟩
theorem RPR.kp {U:Tag→Prop}{T T':Tags}{h h':Heap}{g:Tag}{p:Nat}{r:RP}(x:RPR T h g p r)(k:Kp U T h T' h')(o:Off U g)(n:¬ U []):RPR T' h' g p r:=by
 obtain⟨uv,sv,ev,mr,vv,x⟩:=x
 exact⟨uv,sv,ev,mr,vv,x.kp k o n⟩
end Go.Proofs.YtmbningljbcpkaaGreat
namespace Go.Proofs.YtmbningljbcpkaaGreat
open Go Go.Den Go.MapKept
set_option linter.unusedSimpArgs false
set_option linter.unusedVariables false
set_option maxRecDepth 20000
theorem bdReply0:bdV (binf P qmZ) []=some (.agg #[.int .i64 0,.slice none 0 0,.slice none 0 0,.bool false]):=by kernel_rfl
theorem zcReply:zc P qmZ=some #[.int .i64 0,.slice none 0 0,.slice none 0 0,.bool false]:=by kernel_rfl
end Go.Proofs.YtmbningljbcpkaaGreat
namespace Go.Proofs.YtmbningljbcpkaaGreat
open Go Go.Den Go.MapKept
set_option linter.unusedSimpArgs false
set_option linter.unusedVariables false
set_option maxRecDepth 20000
theorem cUnSess:P.underlying qbZ=some (.slice qcZ):=by kernel_rfl
theorem cApSess:apC P qcZ=some (4,32,4):=by kernel_rfl
theorem cBsSess:bsI P qbZ=some (qcZ,4,#[.int .i64 0,.int .i64 0,.int .i64 0,.int .u64 0]):=by kernel_rfl
theorem cZcSess:zc P qcZ=some #[.int .i64 0,.int .i64 0,.int .i64 0,.int .u64 0]:=by kernel_rfl
variable {K:KTy}
theorem cloneESess {v:Value}{n:Nat}{xs:List Value}{h:Heap}(x:SlC 4 h v n xs)(s:Sn v)(h1:∀ u∈xs,u.oneCell'=true)(hn:n<10000000)
  (hk:∀ v' h',Rf 4 qcZ h h' v' n xs→K v' h'):callM P quZ #[v] h K:=by
 apply qiXZ
 unfold qawZ
 rcases x.nil_or s with ⟨rfl,rfl,rfl⟩ | ⟨a,c,rfl⟩
 ·have e:binV .eql 7 true (.slice none 0 0) (.slice none 0 0)=some (.bool true):=rfl
  simp only[e,ov_s,cd_b,true_implies]
  exact⟨hk _ _ (Rf.nil (Ext.refl h)),fun h=>(by cases h)⟩
 ·have e:binV .eql 7 true (.slice (some a) n c) (.slice none 0 0)=some (.bool false):=rfl
  simp only[e,ov_s,cd_b,true_implies]
  refine⟨fun h=>(by cases h),?_⟩
  unfold qbXZ
  refine bs_none cBsSess fun v2 h2 e2 r2 _ f2=>?_
  have r:Rf 4 qcZ h h2 v2 0 []:=⟨e2,r2,f2,by simp⟩
  have x2:SlC 4 h2 (.slice (some a) n c) n xs:=by
   rcases x with ⟨h1,h2,h3⟩ | ⟨b,o,cap,h1,h2⟩
   ·exact .inl ⟨h1,h2,h3⟩
   ·exact .inr ⟨b,o,cap,h1,cels_ext e2 h2⟩
  refine r.app cUnSess cApSess (by omega) x2 h1 (by unfold maxLen; omega) (by omega) fun v' h' r' _=>hk v' h' ?_
  simpa using r'
theorem insESess {v : Value} {n i a : Nat} {xs : List Value} {x : Array Value} {ex : TypeId} {h0 h : Heap} (r : Rf 4 qcZ h0 h v n xs) (hx : x.size = 4) (ha : h a = some (.cells x ex (0, 0))) (hra : rowOf v ≠ some a) (hi : i ≤ n) (hn : n < 10000000) (h1 : ∀ u ∈ x.toList, u.oneCell' = true)
    (hk : ∀ v' h', Rf 4 qcZ h0 h' v' (n + 1) (xs.take (i * 4) ++ x.toList ++ xs.drop (i * 4)) → (∀ b o, h b = some o → rowOf v ≠ some b → h' b = some o) → K v' h') : callM P qalZ #[v, .int .i64 i, .slice (some ⟨a, 0, none⟩) 1 1] h K := by
  apply qiuZ
  unfold qapZ qbJZ
  have hlen : lnV 7 v = some (.int .i64 n) := by rcases r.row.2 with ⟨rfl, rfl⟩ | ⟨_, _, _, rfl, _⟩ <;> rfl
  have hsl : ∃ y, slV (some (none, 4)) v (some (.int .i64 i)) none = some y := by
    have : 0 ≤ (i : Int) ∧ (i : Int) ≤ n := by omega
    rcases r.row.2 with ⟨rfl, rfl⟩ | ⟨_, _, _, rfl, _⟩ <;> simp only [slV, bnd, this, and_self, if_true] <;> exact ⟨_, rfl⟩
  obtain ⟨y, hsl⟩ := hsl
  have e1 : lnV 7 (.slice (some ⟨a, 0, none⟩) 1 1) = some (.int .i64 (1 : Nat)) := rfl
  have e2 : binV .eql 2 true (.int .i64 (1 : Nat)) (.int .i64 0) = some (.bool false) := rfl
  simp only [hsl, hlen, e1, e2, ov_s, cd_b, true_implies]
  refine ⟨fun h => (by cases h), ?_⟩
  have e3 : binV .eql 2 false (.int .i64 (i : Int)) (.int .i64 (n : Int)) = some (.bool (decide (i = n))) := by
    simp [Int.natCast_inj]
  simp only [e3, ov_s, cd_b]
  refine ⟨fun hin => ?_, fun hin => ?_⟩
  · have hin : i = n := by simpa using hin
    subst hin
    refine r.app cUnSess cApSess (by omega) (slc_one ha hx) h1 (by unfold maxLen; omega) (by omega) fun v' h' r' kb' => hk v' h' ?_ kb'
    have hl : xs.length = i * 4 := r.row.1
    rw [List.take_of_length_le (by omega), List.drop_eq_nil_of_le (by omega), List.append_nil]
    exact r'
  have hin : i < n := by have : ¬ i = n := by simpa using hin
                         omega
  obtain ⟨g, cap, cur, rfl, hg0, hg, hcap, hcm, hcs, hct⟩ := r.own (by omega)
  have hga : g ≠ a := fun e => hra (by simp [rowOf, e])
  unfold qbIZ
  have w1 : IntKind.i64.wrap ((n : Int) + (1 : Nat)) = (n + 1 : Nat) := by rw [wrap64_id (by omega) (by omega)]; omega
  have hl : xs.length = n * 4 := r.row.1
  have hmul : n * 4 ≤ cap * 4 := Nat.mul_le_mul_right _ hcap
  simp only [bin_add, w1, ov_s]
  refine cap_vv cUnSess ?_
  unfold qbHZ
  simp only [bin_gtr, ov_s, cd_b]
  have celx : ∀ o m, o + m ≤ n * 4 → cels h g o m = some ((xs.drop o).take m) := fun o m hom => r.row.cels rfl hom
  have one_take : ∀ o m, ∀ u ∈ (xs.drop o).take m, u.oneCell' = true := fun o m u hu => r.one u (List.mem_of_mem_drop (List.mem_of_mem_take hu))
  refine ⟨fun hgr => ?_, fun hgr => ?_⟩
  · -- there is no room
    have hgr : cap < n + 1 := by have : ((cap : Int) < (n + 1 : Nat)) := by simpa using hgr
                                 omega
    have s1 : slV (some (none, 4)) (.slice (some ⟨g, 0, none⟩) n cap) none (some (.int .i64 i)) = some (.slice (some ⟨g, 0, none⟩) i cap) := by
      have : (i : Int) ≤ cap := by omega
      simp [slV, bnd, this, Addr.add_lit, show ¬ cap = 0 by omega]
    have w2 : IntKind.i64.wrap (((n + 1 : Nat) : Int) - i) = (n + 1 - i : Nat) := by rw [wrap64_id (by omega) (by omega)]; omega
    unfold qbDZ
    simp only [s1, bin_sub, bin_add, w1, w2, ov_s]
    have hii : i * 4 ≤ n * 4 := Nat.mul_le_mul_right _ (by omega)
    refine app_zeros (olds := xs.take (i * 4)) cUnSess (show P.underlying qsZ = some (.int .i64) by kernel_rfl) cApSess (by omega) (by have := celx 0 (i * 4) (by omega); simpa using this) (by omega) (by omega) (by unfold maxLen; omega) (by omega) fun b' cap' cur' hb' hc1 hc2 hc3 hc4 => ?_
    have ei : i + (n + 1 - i) = n + 1 := by omega
    rw [ei] at hc1 ⊢
    have hmul' : (n + 1) * 4 ≤ cap' * 4 := Nat.mul_le_mul_right _ hc1
    have hi1 : (i + 1) * 4 ≤ n * 4 := Nat.mul_le_mul_right _ hin
    have s2 : ∀ j : Nat, j ≤ n → slV (some (none, 4)) (.slice (some ⟨b', 0, none⟩) (n + 1) cap') (some (.int .i64 j)) none = some (.slice (some ⟨b', j * 4, none⟩) (n + 1 - j) (cap' - j)) := fun j hj => by
      have : (j : Int) ≤ (n + 1 : Nat) := by omega
      have h2 : ¬ cap' = j := by omega
      have h3 : (j : Int) ≤ (n : Int) + 1 := by omega
      simp [slV, bnd, h3, h2, Addr.add_lit]
    have s3 : slV (some (none, 4)) (.slice (some ⟨g, 0, none⟩) n cap) (some (.int .i64 i)) none = some (.slice (some ⟨g, i * 4, none⟩) (n - i) (cap - i)) := by
      have : (i : Int) ≤ n := by omega
      simp [slV, bnd, this, show ¬ cap = i by omega, Addr.add_lit]
    unfold qbCZ
    simp only [s2 i (by omega), ov_s]
    have hb'a : a ≠ b' := fun e => by subst e; rw [hb'] at ha; cases ha
    have hb'g : g ≠ b' := fun e => by subst e; rw [hb'] at hg; cases hg
    have m1 : min 1 (n + 1 - i) = 1 := by omega
    refine copy_vv cUnSess cApSess (cs := x.toList) (upd_same' _ _ _) ?_ (by rw [m1, hc3]; omega) h1 ?_
    · rw [m1, cels_skip hb'a]
      exact cels_of ha (by rw [List.drop_zero, List.take_of_length_le (by rw [Array.length_toList, hx]; omega)]) (by simpa using hx)
    unfold qbBZ
    have w3 : IntKind.i64.wrap ((i : Int) + (1 : Nat)) = (i + 1 : Nat) := by rw [wrap64_id (by omega) (by omega)]; omega
    simp only [bin_add, w3, s2 (i + 1) (by omega), s3, ov_s, upd_upd]
    have m2 : min (n - i) (n + 1 - (i + 1)) = n - i := by omega
    have e5 : i * 4 + (n - i) * 4 = n * 4 := by rw [← Nat.add_mul]; congr 1; omega
    have e6 : (i + 1) * 4 + (n - i) * 4 = (n + 1) * 4 := by rw [← Nat.add_mul]; congr 1; omega
    refine copy_vv cUnSess cApSess (cs := (xs.drop (i * 4)).take ((n - i) * 4)) (upd_same' _ _ _) ?_ (by rw [m2, over_size, hc3]; omega) (one_take _ _) ?_
    · rw [m2, cels_skip hb'g]
      exact celx _ _ (by omega)
    rw [upd_upd]
    have hb0 : h0 b' = none := fresh_of r.ex hb'
    have hdl : (xs.drop (i * 4)).take ((n - i) * 4) = xs.drop (i * 4) := List.take_of_length_le (by simp [hl] <;> omega)
    refine hk _ _ ⟨ext_upd hb0 r.ex, ⟨by simp [hl, hx] <;> omega, .inr ⟨b', cap', _, rfl, upd_same' _ _ _, hc1, hc2, by simp [over_size, hc3], ?_⟩⟩, fun b hb => by simp [rowOf] at hb; subst hb; exact hb0, fun u hu => ?_⟩ fun b o hb _ => by rw [upd_ne (fun hh => by rw [hh, hb'] at hb; cases hb)]; exact hb
    · rw [hdl]
      have l1 : (xs.drop (i * 4)).length = (n - i) * 4 := by simp [hl] <;> omega
      have cl : cur'.toList.length = cap' * 4 := by simpa using hc3
      rw [over_list (by rw [over_size, hc3, l1]; omega), over_list (by rw [hc3, Array.length_toList, hx]; omega)]
      have x1 : x.toList.length = 4 := by simpa using hx
      have e7 : spl cur'.toList (i * 4) x.toList = xs.take (i * 4) ++ x.toList ++ cur'.toList.drop (i * 4 + 4) := by
        unfold spl; rw [hc4, x1]
      have e8 : (i + 1) * 4 = (xs.take (i * 4) ++ x.toList).length := by simp [hl, hx] <;> omega
      have e9 : (xs.take (i * 4) ++ x.toList ++ xs.drop (i * 4)).length = (n + 1) * 4 := by simp [hl, hx] <;> omega
      rw [e7]
      unfold spl
      rw [e8, List.take_left, List.take_left' e9]
    · simp only [List.mem_append] at hu
      rcases hu with (hu | hu) | hu
      · exact r.one u (List.mem_of_mem_take hu)
      · exact h1 u hu
      · exact r.one u (List.mem_of_mem_drop hu)
  · -- there is room
    have hgr : n + 1 ≤ cap := by have : ¬ ((cap : Int) < (n + 1 : Nat)) := by simpa using hgr
                                 omega
    have hmul' : (n + 1) * 4 ≤ cap * 4 := Nat.mul_le_mul_right _ hgr
    have hi1 : (i + 1) * 4 ≤ n * 4 := Nat.mul_le_mul_right _ hin
    have s1 : slV (some (none, 4)) (.slice (some ⟨g, 0, none⟩) n cap) none (some (.int .i64 (n + 1 : Nat))) = some (.slice (some ⟨g, 0, none⟩) (n + 1) cap) := by
      have : ((n + 1 : Nat) : Int) ≤ cap := by omega
      have h3 : 0 ≤ (n : Int) + 1 ∧ (n : Int) + 1 ≤ cap := by omega
      simp [slV, bnd, h3, Addr.add_lit, show ¬ cap = 0 by omega]
    have w3 : IntKind.i64.wrap ((i : Int) + (1 : Nat)) = (i + 1 : Nat) := by rw [wrap64_id (by omega) (by omega)]; omega
    have s2 : ∀ j : Nat, j ≤ n → slV (some (none, 4)) (.slice (some ⟨g, 0, none⟩) (n + 1) cap) (some (.int .i64 j)) none = some (.slice (some ⟨g, j * 4, none⟩) (n + 1 - j) (cap - j)) := fun j hj => by
      have h2 : ¬ cap = j := by omega
      have h3 : (j : Int) ≤ (n : Int) + 1 := by omega
      simp [slV, bnd, h3, h2, Addr.add_lit]
    unfold qbGZ
    simp only [bin_add, w1, w3, s1, s2 (i + 1) (by omega), ov_s]
    refine overlaps_nx (tS := qbZ) (tR := qetZ) (f := qfgZ) (by kernel_rfl) (by kernel_rfl) (by kernel_rfl) (by kernel_rfl) cUnSess cApSess (Ne.symm hga) ha hg (by rw [hcs]; omega) ?_
    unfold qbFZ
    simp only [unV_n, ov_s, cd_b, Bool.not_false, true_implies]
    refine ⟨?_, fun h => (by cases h)⟩
    unfold qbEZ
    simp only [bin_add, w3, s2 (i + 1) (by omega), s2 i (by omega), ov_s]
    have m2 : min (n + 1 - i) (n + 1 - (i + 1)) = n - i := by omega
    have e5 : i * 4 + (n - i) * 4 = n * 4 := by rw [← Nat.add_mul]; congr 1; omega
    have e6 : (i + 1) * 4 + (n - i) * 4 = (n + 1) * 4 := by rw [← Nat.add_mul]; congr 1; omega
    refine copy_vv cUnSess cApSess (cs := (xs.drop (i * 4)).take ((n - i) * 4)) hg ?_ (by rw [m2, hcs]; omega) (one_take _ _) ?_
    · rw [m2]; exact celx _ _ (by omega)
    try unfold qbAZ
    try simp only [s2 i (by omega), ov_s]
    have m1 : min 1 (n + 1 - i) = 1 := by omega
    refine copy_vv cUnSess cApSess (cs := x.toList) (upd_same' _ _ _) ?_ (by rw [m1, over_size, hcs]; omega) h1 ?_
    · rw [m1, cels_skip (Ne.symm hga)]
      exact cels_of ha (by rw [List.drop_zero, List.take_of_length_le (by rw [Array.length_toList, hx]; omega)]) (by simpa using hx)
    rw [upd_upd]
    have hdl : (xs.drop (i * 4)).take ((n - i) * 4) = xs.drop (i * 4) := List.take_of_length_le (by simp [hl] <;> omega)
    refine hk _ _ ⟨ext_upd hg0 r.ex, ⟨by simp [hl, hx] <;> omega, .inr ⟨g, cap, _, rfl, upd_same' _ _ _, hgr, hcm, by simp [over_size, hcs], ?_⟩⟩, fun b hb => by simp [rowOf] at hb; subst hb; exact hg0, fun u hu => ?_⟩ fun b o hb hn => by rw [upd_ne (fun hh => hn (by rw [hh]; rfl))]; exact hb
    · rw [hdl]
      have l1 : (xs.drop (i * 4)).length = (n - i) * 4 := by simp [hl] <;> omega
      have cl : cur.toList.length = cap * 4 := by simpa using hcs
      have x1 : x.toList.length = 4 := by simpa using hx
      rw [over_list (by rw [over_size, hcs, x1]; omega), over_list (by rw [hcs, l1]; omega)]
      have e10 : cur.toList.take (i * 4) = xs.take (i * 4) := by rw [← hct, List.take_take, Nat.min_eq_left (by omega)]
      exact spl_ins e10 (by rw [x1]; omega) (by omega) (by rw [l1]; omega) (by omega)
    · simp only [List.mem_append] at hu
      rcases hu with (hu | hu) | hu
      · exact r.one u (List.mem_of_mem_take hu)
      · exact h1 u hu
      · exact r.one u (List.mem_of_mem_drop hu)
theorem delESess {v : Value} {n i : Nat} {xs : List Value} {h0 h : Heap} (r : Rf 4 qcZ h0 h v n xs) (hi : i < n) (hn : n < 10000000)
    (hk : ∀ v' h', Rf 4 qcZ h0 h' v' (n - 1) (xs.take (i * 4) ++ xs.drop ((i + 1) * 4)) → K v' h') : callM P qamZ #[v, .int .i64 i, .int .i64 (i + 1 : Nat)] h K := by
  apply qivZ
  unfold qaqZ
  obtain ⟨g, cap, cur, rfl, hg0, hg, hcap, hcm, hcs, hct⟩ := r.own (by omega)
  have hl : xs.length = n * 4 := r.row.1
  have hmul : n * 4 ≤ cap * 4 := Nat.mul_le_mul_right _ hcap
  have hi1 : (i + 1) * 4 ≤ n * 4 := Nat.mul_le_mul_right _ hi
  have hlen : lnV 7 (.slice (some ⟨g, 0, none⟩) n cap) = some (.int .i64 n) := rfl
  have s0 : ∃ y, sl3V (some (none, 4)) (.slice (some ⟨g, 0, none⟩) n cap) (some (.int .i64 i)) (.int .i64 (i + 1 : Nat)) (.int .i64 n) = some y := by
    have h1 : (n : Int) ≤ cap := by omega
    have h2 : (0 : Int) ≤ (i : Int) + 1 ∧ (i : Int) + 1 ≤ n := by omega
    have h3 : (i : Int) ≤ (i : Int) + 1 := by omega
    have h4 : i ≤ ((i : Int) + 1).toNat := by omega
    simp [sl3V, bnd, h1, h2, h3]
  obtain ⟨y, s0⟩ := s0
  have e3 : binV .eql 2 false (.int .i64 (i : Int)) (.int .i64 (i + 1 : Nat)) = some (.bool false) := by
    have : ¬ (i : Int) = (i + 1 : Nat) := by omega
    simp [-Int.natCast_add, this]
  simp only [hlen, s0, e3, ov_s, cd_b, true_implies]
  refine ⟨fun h => (by cases h), ?_⟩
  unfold qbLZ
  have s1 : slV (some (none, 4)) (.slice (some ⟨g, 0, none⟩) n cap) none (some (.int .i64 i)) = some (.slice (some ⟨g, 0, none⟩) i cap) := by
    have : (i : Int) ≤ cap := by omega
    simp [slV, bnd, this, Addr.add_lit, show ¬ cap = 0 by omega]
  have s2 : ∃ q, slV (some (none, 4)) (.slice (some ⟨g, 0, none⟩) n cap) (some (.int .i64 (i + 1 : Nat))) none = some (.slice (some ⟨g, q, none⟩) (n - (i + 1)) (cap - (i + 1))) ∧ cels h g q ((n - (i + 1)) * 4) = some (xs.drop ((i + 1) * 4)) := by
    have h3 : (0 : Int) ≤ (i : Int) + 1 ∧ (i : Int) + 1 ≤ n := by omega
    have h4 : ((i : Int) + 1).toNat = i + 1 := by omega
    by_cases hc : cap = i + 1
    · refine ⟨0, by simp [slV, bnd, h3, h4, hc, show n = i + 1 by omega], ?_⟩
      have : n - (i + 1) = 0 := by omega
      rw [this, List.drop_eq_nil_of_le (by rw [hl]; have : n = i + 1 := by omega
                                           subst this; omega)]
      simp [cels]
    · refine ⟨(i + 1) * 4, by simp [slV, bnd, h3, h4, hc, Addr.add_lit], ?_⟩
      have e5 : (i + 1) * 4 + (n - (i + 1)) * 4 = n * 4 := by rw [← Nat.add_mul]; congr 1; omega
      rw [r.row.cels (g := g) rfl (by omega), List.take_of_length_le (by simp [hl] <;> omega)]
  obtain ⟨q, s2, s3⟩ := s2
  simp only [hlen, s1, s2, ov_s]
  have e5 : i * 4 + (n - (i + 1)) * 4 = (n - 1) * 4 := by rw [← Nat.add_mul]; congr 1; omega
  have e6 : (n - 1) * 4 ≤ n * 4 := Nat.mul_le_mul_right _ (by omega)
  refine app_fit cUnSess cApSess hg s3 (by rw [hcs]; omega) (by omega) (fun u hu => r.one u (List.mem_of_mem_drop hu)) ?_
  unfold qbKZ
  have e7 : i + (n - (i + 1)) = n - 1 := by omega
  rw [e7]
  have s4 : slV (some (none, 4)) (.slice (some ⟨g, 0, none⟩) (n - 1) cap) (some (.int .i64 (n - 1 : Nat))) (some (.int .i64 n)) = some (.slice (some ⟨g, (n - 1) * 4, none⟩) (n - (n - 1)) (cap - (n - 1))) := by
    have h1 : (n : Int) ≤ cap := by omega
    have h2 : ((n - 1 : Nat) : Int) ≤ n := by omega
    simp [slV, bnd, h1, h2, show ¬ cap = n - 1 by omega, Addr.add_lit]
  have hlen2 : lnV 7 (.slice (some ⟨g, 0, none⟩) (n - 1) cap) = some (.int .i64 (n - 1 : Nat)) := rfl
  simp only [hlen2, s4, ov_s]
  have l1 : (xs.drop ((i + 1) * 4)).length = (n - (i + 1)) * 4 := by rw [List.length_drop, hl, ← Nat.sub_mul]
  have l2 : (xs.take (i * 4)).length = i * 4 := by rw [List.length_take, hl]; omega
  have e8 : (n - 1) * 4 + (n - (n - 1)) * 4 = n * 4 := by rw [← Nat.add_mul]; congr 1; omega
  have cl : cur.toList.length = cap * 4 := by simpa using hcs
  have e9 : (over cur (0 + i * 4) (xs.drop ((i + 1) * 4))).toList = xs.take (i * 4) ++ xs.drop ((i + 1) * 4) ++ cur.toList.drop (0 + i * 4 + (n - (i + 1)) * 4) := by
    rw [over_list (by rw [hcs, l1]; omega)]
    unfold spl
    rw [l1]
    congr 2
    rw [← hct, List.take_take, Nat.min_eq_left (by omega), Nat.zero_add]
  have e10 : (xs.take (i * 4) ++ xs.drop ((i + 1) * 4)).length = (n - 1) * 4 := by rw [List.length_append, l1, l2, e5]
  refine clear_vv cUnSess cApSess (fun z hz => by rw [cZcSess] at hz; cases hz; rfl) (by omega) (upd_same' _ _ _) (by rw [over_size, hcs]; omega) (fun hz => by omega) fun cs hcs' => ?_
  rw [upd_upd]
  refine hk _ _ ⟨ext_upd hg0 r.ex, ⟨e10, .inr ⟨g, cap, _, rfl, upd_same' _ _ _, by omega, hcm, by simp [over_size, hcs], ?_⟩⟩, fun b hb => by simp [rowOf] at hb; subst hb; exact hg0, fun u hu => ?_⟩
  · rw [over_list (by rw [over_size, hcs, hcs']; omega), e9]
    unfold spl
    rw [List.append_assoc ((xs.take (i * 4) ++ xs.drop ((i + 1) * 4) ++ _).take _), List.take_append_of_le_length (by rw [List.length_take]; simp only [List.length_append, List.length_drop, l1, l2, cl]; omega), List.take_take, Nat.min_self]
    exact List.take_left' e10
  · simp only [List.mem_append] at hu
    rcases hu with hu | hu
    · exact r.one u (List.mem_of_mem_take hu)
    · exact r.one u (List.mem_of_mem_drop hu)
theorem cUnStr:P.underlying qgZ=some (.slice qXZ):=by kernel_rfl
theorem cApStr:apC P qXZ=some (1,16,1):=by kernel_rfl
theorem cBsStr:bsI P qgZ=some (qXZ,1,#[.string ⟨#[]⟩]):=by kernel_rfl
theorem cZcStr:zc P qXZ=some #[.string ⟨#[]⟩]:=by kernel_rfl
theorem cloneEStr {v:Value}{n:Nat}{xs:List Value}{h:Heap}(x:SlC 1 h v n xs)(s:Sn v)(h1:∀ u∈xs,u.oneCell'=true)(hn:n<10000000)
  (hk:∀ v' h',Rf 1 qXZ h h' v' n xs→K v' h'):callM P qxZ #[v] h K:=by
 apply qpkZ
 unfold qcKZ
 rcases x.nil_or s with ⟨rfl,rfl,rfl⟩ | ⟨a,c,rfl⟩
 ·have e:binV .eql 7 true (.slice none 0 0) (.slice none 0 0)=some (.bool true):=rfl
  simp only[e,ov_s,cd_b,true_implies]
  exact⟨hk _ _ (Rf.nil (Ext.refl h)),fun h=>(by cases h)⟩
 ·have e:binV .eql 7 true (.slice (some a) n c) (.slice none 0 0)=some (.bool false):=rfl
  simp only[e,ov_s,cd_b,true_implies]
  refine⟨fun h=>(by cases h),?_⟩

  refine bs_none cBsStr fun v2 h2 e2 r2 _ f2=>?_
  have r:Rf 1 qXZ h h2 v2 0 []:=⟨e2,r2,f2,by simp⟩
  have x2:SlC 1 h2 (.slice (some a) n c) n xs:=by
   rcases x with ⟨h1,h2,h3⟩ | ⟨b,o,cap,h1,h2⟩
   ·exact .inl ⟨h1,h2,h3⟩
   ·exact .inr ⟨b,o,cap,h1,cels_ext e2 h2⟩
  refine r.app cUnStr cApStr (by omega) x2 h1 (by unfold maxLen; omega) (by omega) fun v' h' r' _=>hk v' h' ?_
  simpa using r'
theorem insEStr {v : Value} {n i a : Nat} {xs : List Value} {x : Array Value} {ex : TypeId} {h0 h : Heap} (r : Rf 1 qXZ h0 h v n xs) (hx : x.size = 1) (ha : h a = some (.cells x ex (0, 0))) (hra : rowOf v ≠ some a) (hi : i ≤ n) (hn : n < 10000000) (h1 : ∀ u ∈ x.toList, u.oneCell' = true)
    (hk : ∀ v' h', Rf 1 qXZ h0 h' v' (n + 1) (xs.take (i * 1) ++ x.toList ++ xs.drop (i * 1)) → (∀ b o, h b = some o → rowOf v ≠ some b → h' b = some o) → K v' h') : callM P qoZ #[v, .int .i64 i, .slice (some ⟨a, 0, none⟩) 1 1] h K := by
  apply qodZ
  unfold qcrZ qeTZ
  have hlen : lnV 7 v = some (.int .i64 n) := by rcases r.row.2 with ⟨rfl, rfl⟩ | ⟨_, _, _, rfl, _⟩ <;> rfl
  have hsl : ∃ y, slV (some (none, 1)) v (some (.int .i64 i)) none = some y := by
    have : 0 ≤ (i : Int) ∧ (i : Int) ≤ n := by omega
    rcases r.row.2 with ⟨rfl, rfl⟩ | ⟨_, _, _, rfl, _⟩ <;> simp only [slV, bnd, this, and_self, if_true] <;> exact ⟨_, rfl⟩
  obtain ⟨y, hsl⟩ := hsl
  have e1 : lnV 7 (.slice (some ⟨a, 0, none⟩) 1 1) = some (.int .i64 (1 : Nat)) := rfl
  have e2 : binV .eql 2 true (.int .i64 (1 : Nat)) (.int .i64 0) = some (.bool false) := rfl
  simp only [hsl, hlen, e1, e2, ov_s, cd_b, true_implies]
  refine ⟨fun h => (by cases h), ?_⟩
  have e3 : binV .eql 2 false (.int .i64 (i : Int)) (.int .i64 (n : Int)) = some (.bool (decide (i = n))) := by
    simp [Int.natCast_inj]
  simp only [e3, ov_s, cd_b]
  refine ⟨fun hin => ?_, fun hin => ?_⟩
  · have hin : i = n := by simpa using hin
    subst hin
    refine r.app cUnStr cApStr (by omega) (slc_one ha hx) h1 (by unfold maxLen; omega) (by omega) fun v' h' r' kb' => hk v' h' ?_ kb'
    have hl : xs.length = i * 1 := r.row.1
    rw [List.take_of_length_le (by omega), List.drop_eq_nil_of_le (by omega), List.append_nil]
    exact r'
  have hin : i < n := by have : ¬ i = n := by simpa using hin
                         omega
  obtain ⟨g, cap, cur, rfl, hg0, hg, hcap, hcm, hcs, hct⟩ := r.own (by omega)
  have hga : g ≠ a := fun e => hra (by simp [rowOf, e])
  unfold qeSZ
  have w1 : IntKind.i64.wrap ((n : Int) + (1 : Nat)) = (n + 1 : Nat) := by rw [wrap64_id (by omega) (by omega)]; omega
  have hl : xs.length = n * 1 := r.row.1
  have hmul : n * 1 ≤ cap * 1 := Nat.mul_le_mul_right _ hcap
  simp only [bin_add, w1, ov_s]
  refine cap_vv cUnStr ?_
  unfold qeRZ
  simp only [bin_gtr, ov_s, cd_b]
  have celx : ∀ o m, o + m ≤ n * 1 → cels h g o m = some ((xs.drop o).take m) := fun o m hom => r.row.cels rfl hom
  have one_take : ∀ o m, ∀ u ∈ (xs.drop o).take m, u.oneCell' = true := fun o m u hu => r.one u (List.mem_of_mem_drop (List.mem_of_mem_take hu))
  refine ⟨fun hgr => ?_, fun hgr => ?_⟩
  · -- there is no room
    have hgr : cap < n + 1 := by have : ((cap : Int) < (n + 1 : Nat)) := by simpa using hgr
                                 omega
    have s1 : slV (some (none, 1)) (.slice (some ⟨g, 0, none⟩) n cap) none (some (.int .i64 i)) = some (.slice (some ⟨g, 0, none⟩) i cap) := by
      have : (i : Int) ≤ cap := by omega
      simp [slV, bnd, this, Addr.add_lit, show ¬ cap = 0 by omega]
    have w2 : IntKind.i64.wrap (((n + 1 : Nat) : Int) - i) = (n + 1 - i : Nat) := by rw [wrap64_id (by omega) (by omega)]; omega
    unfold qeNZ
    simp only [s1, bin_sub, bin_add, w1, w2, ov_s]
    have hii : i * 1 ≤ n * 1 := Nat.mul_le_mul_right _ (by omega)
    refine app_zeros (olds := xs.take (i * 1)) cUnStr (show P.underlying qsZ = some (.int .i64) by kernel_rfl) cApStr (by omega) (by have := celx 0 (i * 1) (by omega); simpa using this) (by omega) (by omega) (by unfold maxLen; omega) (by omega) fun b' cap' cur' hb' hc1 hc2 hc3 hc4 => ?_
    have ei : i + (n + 1 - i) = n + 1 := by omega
    rw [ei] at hc1 ⊢
    have hmul' : (n + 1) * 1 ≤ cap' * 1 := Nat.mul_le_mul_right _ hc1
    have hi1 : (i + 1) * 1 ≤ n * 1 := Nat.mul_le_mul_right _ hin
    have s2 : ∀ j : Nat, j ≤ n → slV (some (none, 1)) (.slice (some ⟨b', 0, none⟩) (n + 1) cap') (some (.int .i64 j)) none = some (.slice (some ⟨b', j * 1, none⟩) (n + 1 - j) (cap' - j)) := fun j hj => by
      have : (j : Int) ≤ (n + 1 : Nat) := by omega
      have h2 : ¬ cap' = j := by omega
      have h3 : (j : Int) ≤ (n : Int) + 1 := by omega
      simp [slV, bnd, h3, h2, Addr.add_lit]
    have s3 : slV (some (none, 1)) (.slice (some ⟨g, 0, none⟩) n cap) (some (.int .i64 i)) none = some (.slice (some ⟨g, i * 1, none⟩) (n - i) (cap - i)) := by
      have : (i : Int) ≤ n := by omega
      simp [slV, bnd, this, show ¬ cap = i by omega, Addr.add_lit]
    unfold qeMZ
    simp only [s2 i (by omega), ov_s]
    have hb'a : a ≠ b' := fun e => by subst e; rw [hb'] at ha; cases ha
    have hb'g : g ≠ b' := fun e => by subst e; rw [hb'] at hg; cases hg
    have m1 : min 1 (n + 1 - i) = 1 := by omega
    refine copy_vv cUnStr cApStr (cs := x.toList) (upd_same' _ _ _) ?_ (by rw [m1, hc3]; omega) h1 ?_
    · rw [m1, cels_skip hb'a]
      exact cels_of ha (by rw [List.drop_zero, List.take_of_length_le (by rw [Array.length_toList, hx]; omega)]) (by simpa using hx)
    unfold qeLZ
    have w3 : IntKind.i64.wrap ((i : Int) + (1 : Nat)) = (i + 1 : Nat) := by rw [wrap64_id (by omega) (by omega)]; omega
    simp only [bin_add, w3, s2 (i + 1) (by omega), s3, ov_s, upd_upd]
    have m2 : min (n - i) (n + 1 - (i + 1)) = n - i := by omega
    have e5 : i * 1 + (n - i) * 1 = n * 1 := by rw [← Nat.add_mul]; congr 1; omega
    have e6 : (i + 1) * 1 + (n - i) * 1 = (n + 1) * 1 := by rw [← Nat.add_mul]; congr 1; omega
    refine copy_vv cUnStr cApStr (cs := (xs.drop (i * 1)).take ((n - i) * 1)) (upd_same' _ _ _) ?_ (by rw [m2, over_size, hc3]; omega) (one_take _ _) ?_
    · rw [m2, cels_skip hb'g]
      exact celx _ _ (by omega)
    rw [upd_upd]
    have hb0 : h0 b' = none := fresh_of r.ex hb'
    have hdl : (xs.drop (i * 1)).take ((n - i) * 1) = xs.drop (i * 1) := List.take_of_length_le (by simp [hl] <;> omega)
    refine hk _ _ ⟨ext_upd hb0 r.ex, ⟨by simp [hl, hx] <;> omega, .inr ⟨b', cap', _, rfl, upd_same' _ _ _, hc1, hc2, by simp [over_size, hc3], ?_⟩⟩, fun b hb => by simp [rowOf] at hb; subst hb; exact hb0, fun u hu => ?_⟩ fun b o hb _ => by rw [upd_ne (fun hh => by rw [hh, hb'] at hb; cases hb)]; exact hb
    · rw [hdl]
      have l1 : (xs.drop (i * 1)).length = (n - i) * 1 := by simp [hl] <;> omega
      have cl : cur'.toList.length = cap' * 1 := by simpa using hc3
      rw [over_list (by rw [over_size, hc3, l1]; omega), over_list (by rw [hc3, Array.length_toList, hx]; omega)]
      have x1 : x.toList.length = 1 := by simpa using hx
      have e7 : spl cur'.toList (i * 1) x.toList = xs.take (i * 1) ++ x.toList ++ cur'.toList.drop (i * 1 + 1) := by
        unfold spl; rw [hc4, x1]
      have e8 : (i + 1) * 1 = (xs.take (i * 1) ++ x.toList).length := by simp [hl, hx] <;> omega
      have e9 : (xs.take (i * 1) ++ x.toList ++ xs.drop (i * 1)).length = (n + 1) * 1 := by simp [hl, hx] <;> omega
      rw [e7]
      unfold spl
      rw [e8, List.take_left, List.take_left' e9]
    · simp only [List.mem_append] at hu
      rcases hu with (hu | hu) | hu
      · exact r.one u (List.mem_of_mem_take hu)
      · exact h1 u hu
      · exact r.one u (List.mem_of_mem_drop hu)
  · -- there is room
    have hgr : n + 1 ≤ cap := by have : ¬ ((cap : Int) < (n + 1 : Nat)) := by simpa using hgr
                                 omega
    have hmul' : (n + 1) * 1 ≤ cap * 1 := Nat.mul_le_mul_right _ hgr
    have hi1 : (i + 1) * 1 ≤ n * 1 := Nat.mul_le_mul_right _ hin
    have s1 : slV (some (none, 1)) (.slice (some ⟨g, 0, none⟩) n cap) none (some (.int .i64 (n + 1 : Nat))) = some (.slice (some ⟨g, 0, none⟩) (n + 1) cap) := by
      have : ((n + 1 : Nat) : Int) ≤ cap := by omega
      have h3 : 0 ≤ (n : Int) + 1 ∧ (n : Int) + 1 ≤ cap := by omega
      simp [slV, bnd, h3, Addr.add_lit, show ¬ cap = 0 by omega]
    have w3 : IntKind.i64.wrap ((i : Int) + (1 : Nat)) = (i + 1 : Nat) := by rw [wrap64_id (by omega) (by omega)]; omega
    have s2 : ∀ j : Nat, j ≤ n → slV (some (none, 1)) (.slice (some ⟨g, 0, none⟩) (n + 1) cap) (some (.int .i64 j)) none = some (.slice (some ⟨g, j * 1, none⟩) (n + 1 - j) (cap - j)) := fun j hj => by
      have h2 : ¬ cap = j := by omega
      have h3 : (j : Int) ≤ (n : Int) + 1 := by omega
      simp [slV, bnd, h3, h2, Addr.add_lit]
    unfold qeQZ
    simp only [bin_add, w1, w3, s1, s2 (i + 1) (by omega), ov_s]
    refine overlaps_nx (tS := qgZ) (tR := qetZ) (f := qiYZ) (by kernel_rfl) (by kernel_rfl) (by kernel_rfl) (by kernel_rfl) cUnStr cApStr (Ne.symm hga) ha hg (by rw [hcs]; omega) ?_
    unfold qePZ
    simp only [unV_n, ov_s, cd_b, Bool.not_false, true_implies]
    refine ⟨?_, fun h => (by cases h)⟩
    unfold qeOZ
    simp only [bin_add, w3, s2 (i + 1) (by omega), s2 i (by omega), ov_s]
    have m2 : min (n + 1 - i) (n + 1 - (i + 1)) = n - i := by omega
    have e5 : i * 1 + (n - i) * 1 = n * 1 := by rw [← Nat.add_mul]; congr 1; omega
    have e6 : (i + 1) * 1 + (n - i) * 1 = (n + 1) * 1 := by rw [← Nat.add_mul]; congr 1; omega
    refine copy_vv cUnStr cApStr (cs := (xs.drop (i * 1)).take ((n - i) * 1)) hg ?_ (by rw [m2, hcs]; omega) (one_take _ _) ?_
    · rw [m2]; exact celx _ _ (by omega)
    try unfold qeGZ
    try simp only [s2 i (by omega), ov_s]
    have m1 : min 1 (n + 1 - i) = 1 := by omega
    refine copy_vv cUnStr cApStr (cs := x.toList) (upd_same' _ _ _) ?_ (by rw [m1, over_size, hcs]; omega) h1 ?_
    · rw [m1, cels_skip (Ne.symm hga)]
      exact cels_of ha (by rw [List.drop_zero, List.take_of_length_le (by rw [Array.length_toList, hx]; omega)]) (by simpa using hx)
    rw [upd_upd]
    have hdl : (xs.drop (i * 1)).take ((n - i) * 1) = xs.drop (i * 1) := List.take_of_length_le (by simp [hl] <;> omega)
    refine hk _ _ ⟨ext_upd hg0 r.ex, ⟨by simp [hl, hx] <;> omega, .inr ⟨g, cap, _, rfl, upd_same' _ _ _, hgr, hcm, by simp [over_size, hcs], ?_⟩⟩, fun b hb => by simp [rowOf] at hb; subst hb; exact hg0, fun u hu => ?_⟩ fun b o hb hn => by rw [upd_ne (fun hh => hn (by rw [hh]; rfl))]; exact hb
    · rw [hdl]
      have l1 : (xs.drop (i * 1)).length = (n - i) * 1 := by simp [hl] <;> omega
      have cl : cur.toList.length = cap * 1 := by simpa using hcs
      have x1 : x.toList.length = 1 := by simpa using hx
      rw [over_list (by rw [over_size, hcs, x1]; omega), over_list (by rw [hcs, l1]; omega)]
      have e10 : cur.toList.take (i * 1) = xs.take (i * 1) := by rw [← hct, List.take_take, Nat.min_eq_left (by omega)]
      exact spl_ins e10 (by rw [x1]; omega) (by omega) (by rw [l1]; omega) (by omega)
    · simp only [List.mem_append] at hu
      rcases hu with (hu | hu) | hu
      · exact r.one u (List.mem_of_mem_take hu)
      · exact h1 u hu
      · exact r.one u (List.mem_of_mem_drop hu)
theorem delEStr {v : Value} {n i : Nat} {xs : List Value} {h0 h : Heap} (r : Rf 1 qXZ h0 h v n xs) (hi : i < n) (hn : n < 10000000)
    (hk : ∀ v' h', Rf 1 qXZ h0 h' v' (n - 1) (xs.take (i * 1) ++ xs.drop ((i + 1) * 1)) → K v' h') : callM P qbOZ #[v, .int .i64 i, .int .i64 (i + 1 : Nat)] h K := by
  apply qoeZ
  unfold qcsZ
  obtain ⟨g, cap, cur, rfl, hg0, hg, hcap, hcm, hcs, hct⟩ := r.own (by omega)
  have hl : xs.length = n * 1 := r.row.1
  have hmul : n * 1 ≤ cap * 1 := Nat.mul_le_mul_right _ hcap
  have hi1 : (i + 1) * 1 ≤ n * 1 := Nat.mul_le_mul_right _ hi
  have hlen : lnV 7 (.slice (some ⟨g, 0, none⟩) n cap) = some (.int .i64 n) := rfl
  have s0 : ∃ y, sl3V (some (none, 1)) (.slice (some ⟨g, 0, none⟩) n cap) (some (.int .i64 i)) (.int .i64 (i + 1 : Nat)) (.int .i64 n) = some y := by
    have h1 : (n : Int) ≤ cap := by omega
    have h2 : (0 : Int) ≤ (i : Int) + 1 ∧ (i : Int) + 1 ≤ n := by omega
    have h3 : (i : Int) ≤ (i : Int) + 1 := by omega
    have h4 : i ≤ ((i : Int) + 1).toNat := by omega
    simp [sl3V, bnd, h1, h2, h3]
  obtain ⟨y, s0⟩ := s0
  have e3 : binV .eql 2 false (.int .i64 (i : Int)) (.int .i64 (i + 1 : Nat)) = some (.bool false) := by
    have : ¬ (i : Int) = (i + 1 : Nat) := by omega
    simp [-Int.natCast_add, this]
  simp only [hlen, s0, e3, ov_s, cd_b, true_implies]
  refine ⟨fun h => (by cases h), ?_⟩
  unfold qeVZ
  have s1 : slV (some (none, 1)) (.slice (some ⟨g, 0, none⟩) n cap) none (some (.int .i64 i)) = some (.slice (some ⟨g, 0, none⟩) i cap) := by
    have : (i : Int) ≤ cap := by omega
    simp [slV, bnd, this, Addr.add_lit, show ¬ cap = 0 by omega]
  have s2 : ∃ q, slV (some (none, 1)) (.slice (some ⟨g, 0, none⟩) n cap) (some (.int .i64 (i + 1 : Nat))) none = some (.slice (some ⟨g, q, none⟩) (n - (i + 1)) (cap - (i + 1))) ∧ cels h g q ((n - (i + 1)) * 1) = some (xs.drop ((i + 1) * 1)) := by
    have h3 : (0 : Int) ≤ (i : Int) + 1 ∧ (i : Int) + 1 ≤ n := by omega
    have h4 : ((i : Int) + 1).toNat = i + 1 := by omega
    by_cases hc : cap = i + 1
    · refine ⟨0, by simp [slV, bnd, h3, h4, hc, show n = i + 1 by omega], ?_⟩
      have : n - (i + 1) = 0 := by omega
      rw [this, List.drop_eq_nil_of_le (by rw [hl]; have : n = i + 1 := by omega
                                           subst this; omega)]
      simp [cels]
    · refine ⟨(i + 1) * 1, by simp [slV, bnd, h3, h4, hc, Addr.add_lit], ?_⟩
      have e5 : (i + 1) * 1 + (n - (i + 1)) * 1 = n * 1 := by rw [← Nat.add_mul]; congr 1; omega
      rw [r.row.cels (g := g) rfl (by omega), List.take_of_length_le (by simp [hl] <;> omega)]
  obtain ⟨q, s2, s3⟩ := s2
  simp only [hlen, s1, s2, ov_s]
  have e5 : i * 1 + (n - (i + 1)) * 1 = (n - 1) * 1 := by rw [← Nat.add_mul]; congr 1; omega
  have e6 : (n - 1) * 1 ≤ n * 1 := Nat.mul_le_mul_right _ (by omega)
  refine app_fit cUnStr cApStr hg s3 (by rw [hcs]; omega) (by omega) (fun u hu => r.one u (List.mem_of_mem_drop hu)) ?_
  unfold qeUZ
  have e7 : i + (n - (i + 1)) = n - 1 := by omega
  rw [e7]
  have s4 : slV (some (none, 1)) (.slice (some ⟨g, 0, none⟩) (n - 1) cap) (some (.int .i64 (n - 1 : Nat))) (some (.int .i64 n)) = some (.slice (some ⟨g, (n - 1) * 1, none⟩) (n - (n - 1)) (cap - (n - 1))) := by
    have h1 : (n : Int) ≤ cap := by omega
    have h2 : ((n - 1 : Nat) : Int) ≤ n := by omega
    simp [slV, bnd, h1, h2, show ¬ cap = n - 1 by omega, Addr.add_lit]
  have hlen2 : lnV 7 (.slice (some ⟨g, 0, none⟩) (n - 1) cap) = some (.int .i64 (n - 1 : Nat)) := rfl
  simp only [hlen2, s4, ov_s]
  have l1 : (xs.drop ((i + 1) * 1)).length = (n - (i + 1)) * 1 := by rw [List.length_drop, hl, ← Nat.sub_mul]
  have l2 : (xs.take (i * 1)).length = i * 1 := by rw [List.length_take, hl]; omega
  have e8 : (n - 1) * 1 + (n - (n - 1)) * 1 = n * 1 := by rw [← Nat.add_mul]; congr 1; omega
  have cl : cur.toList.length = cap * 1 := by simpa using hcs
  have e9 : (over cur (0 + i * 1) (xs.drop ((i + 1) * 1))).toList = xs.take (i * 1) ++ xs.drop ((i + 1) * 1) ++ cur.toList.drop (0 + i * 1 + (n - (i + 1)) * 1) := by
    rw [over_list (by rw [hcs, l1]; omega)]
    unfold spl
    rw [l1]
    congr 2
    rw [← hct, List.take_take, Nat.min_eq_left (by omega), Nat.zero_add]
  have e10 : (xs.take (i * 1) ++ xs.drop ((i + 1) * 1)).length = (n - 1) * 1 := by rw [List.length_append, l1, l2, e5]
  refine clear_vv cUnStr cApStr (fun z hz => by rw [cZcStr] at hz; cases hz; rfl) (by omega) (upd_same' _ _ _) (by rw [over_size, hcs]; omega) (fun hz => by omega) fun cs hcs' => ?_
  rw [upd_upd]
  refine hk _ _ ⟨ext_upd hg0 r.ex, ⟨e10, .inr ⟨g, cap, _, rfl, upd_same' _ _ _, by omega, hcm, by simp [over_size, hcs], ?_⟩⟩, fun b hb => by simp [rowOf] at hb; subst hb; exact hg0, fun u hu => ?_⟩
  · rw [over_list (by rw [over_size, hcs, hcs']; omega), e9]
    unfold spl
    rw [List.append_assoc ((xs.take (i * 1) ++ xs.drop ((i + 1) * 1) ++ _).take _), List.take_append_of_le_length (by rw [List.length_take]; simp only [List.length_append, List.length_drop, l1, l2, cl]; omega), List.take_take, Nat.min_self]
    exact List.take_left' e10
  · simp only [List.mem_append] at hu
    rcases hu with hu | hu
    · exact r.one u (List.mem_of_mem_take hu)
    · exact r.one u (List.mem_of_mem_drop hu)
theorem cUnEnt:P.underlying qeZ=some (.slice qjZ):=by kernel_rfl
theorem cApEnt:apC P qjZ=some (4,48,4):=by kernel_rfl
theorem cBsEnt:bsI P qeZ=some (qjZ,4,#[.slice none 0 0,.int .i64 0,.int .i64 0,.int .i64 0]):=by kernel_rfl
theorem cZcEnt:zc P qjZ=some #[.slice none 0 0,.int .i64 0,.int .i64 0,.int .i64 0]:=by kernel_rfl
theorem cloneEEnt {v:Value}{n:Nat}{xs:List Value}{h:Heap}(x:SlC 4 h v n xs)(s:Sn v)(h1:∀ u∈xs,u.oneCell'=true)(hn:n<10000000)
  (hk:∀ v' h',Rf 4 qjZ h h' v' n xs→K v' h'):callM P qdZ #[v] h K:=by
 apply qjUZ
 unfold qaOZ
 rcases x.nil_or s with ⟨rfl,rfl,rfl⟩ | ⟨a,c,rfl⟩
 ·have e:binV .eql 7 true (.slice none 0 0) (.slice none 0 0)=some (.bool true):=rfl
  simp only[e,ov_s,cd_b,true_implies]
  exact⟨hk _ _ (Rf.nil (Ext.refl h)),fun h=>(by cases h)⟩
 ·have e:binV .eql 7 true (.slice (some a) n c) (.slice none 0 0)=some (.bool false):=rfl
  simp only[e,ov_s,cd_b,true_implies]
  refine⟨fun h=>(by cases h),?_⟩
  unfold qcCZ
  refine bs_none cBsEnt fun v2 h2 e2 r2 _ f2=>?_
  have r:Rf 4 qjZ h h2 v2 0 []:=⟨e2,r2,f2,by simp⟩
  have x2:SlC 4 h2 (.slice (some a) n c) n xs:=by
   rcases x with ⟨h1,h2,h3⟩ | ⟨b,o,cap,h1,h2⟩
   ·exact .inl ⟨h1,h2,h3⟩
   ·exact .inr ⟨b,o,cap,h1,cels_ext e2 h2⟩
  refine r.app cUnEnt cApEnt (by omega) x2 h1 (by unfold maxLen; omega) (by omega) fun v' h' r' _=>hk v' h' ?_
  simpa using r'
theorem insEEnt {v : Value} {n i a : Nat} {xs : List Value} {x : Array Value} {ex : TypeId} {h0 h : Heap} (r : Rf 4 qjZ h0 h v n xs) (hx : x.size = 4) (ha : h a = some (.cells x ex (0, 0))) (hra : rowOf v ≠ some a) (hi : i ≤ n) (hn : n < 10000000) (h1 : ∀ u ∈ x.toList, u.oneCell' = true)
    (hk : ∀ v' h', Rf 4 qjZ h0 h' v' (n + 1) (xs.take (i * 4) ++ x.toList ++ xs.drop (i * 4)) → (∀ b o, h b = some o → rowOf v ≠ some b → h' b = some o) → K v' h') : callM P qiZ #[v, .int .i64 i, .slice (some ⟨a, 0, none⟩) 1 1] h K := by
  apply qjjZ
  unfold qaDZ qcmZ
  have hlen : lnV 7 v = some (.int .i64 n) := by rcases r.row.2 with ⟨rfl, rfl⟩ | ⟨_, _, _, rfl, _⟩ <;> rfl
  have hsl : ∃ y, slV (some (none, 4)) v (some (.int .i64 i)) none = some y := by
    have : 0 ≤ (i : Int) ∧ (i : Int) ≤ n := by omega
    rcases r.row.2 with ⟨rfl, rfl⟩ | ⟨_, _, _, rfl, _⟩ <;> simp only [slV, bnd, this, and_self, if_true] <;> exact ⟨_, rfl⟩
  obtain ⟨y, hsl⟩ := hsl
  have e1 : lnV 7 (.slice (some ⟨a, 0, none⟩) 1 1) = some (.int .i64 (1 : Nat)) := rfl
  have e2 : binV .eql 2 true (.int .i64 (1 : Nat)) (.int .i64 0) = some (.bool false) := rfl
  simp only [hsl, hlen, e1, e2, ov_s, cd_b, true_implies]
  refine ⟨fun h => (by cases h), ?_⟩
  have e3 : binV .eql 2 false (.int .i64 (i : Int)) (.int .i64 (n : Int)) = some (.bool (decide (i = n))) := by
    simp [Int.natCast_inj]
  simp only [e3, ov_s, cd_b]
  refine ⟨fun hin => ?_, fun hin => ?_⟩
  · have hin : i = n := by simpa using hin
    subst hin
    refine r.app cUnEnt cApEnt (by omega) (slc_one ha hx) h1 (by unfold maxLen; omega) (by omega) fun v' h' r' kb' => hk v' h' ?_ kb'
    have hl : xs.length = i * 4 := r.row.1
    rw [List.take_of_length_le (by omega), List.drop_eq_nil_of_le (by omega), List.append_nil]
    exact r'
  have hin : i < n := by have : ¬ i = n := by simpa using hin
                         omega
  obtain ⟨g, cap, cur, rfl, hg0, hg, hcap, hcm, hcs, hct⟩ := r.own (by omega)
  have hga : g ≠ a := fun e => hra (by simp [rowOf, e])
  unfold qclZ
  have w1 : IntKind.i64.wrap ((n : Int) + (1 : Nat)) = (n + 1 : Nat) := by rw [wrap64_id (by omega) (by omega)]; omega
  have hl : xs.length = n * 4 := r.row.1
  have hmul : n * 4 ≤ cap * 4 := Nat.mul_le_mul_right _ hcap
  simp only [bin_add, w1, ov_s]
  refine cap_vv cUnEnt ?_
  unfold qckZ
  simp only [bin_gtr, ov_s, cd_b]
  have celx : ∀ o m, o + m ≤ n * 4 → cels h g o m = some ((xs.drop o).take m) := fun o m hom => r.row.cels rfl hom
  have one_take : ∀ o m, ∀ u ∈ (xs.drop o).take m, u.oneCell' = true := fun o m u hu => r.one u (List.mem_of_mem_drop (List.mem_of_mem_take hu))
  refine ⟨fun hgr => ?_, fun hgr => ?_⟩
  · -- there is no room
    have hgr : cap < n + 1 := by have : ((cap : Int) < (n + 1 : Nat)) := by simpa using hgr
                                 omega
    have s1 : slV (some (none, 4)) (.slice (some ⟨g, 0, none⟩) n cap) none (some (.int .i64 i)) = some (.slice (some ⟨g, 0, none⟩) i cap) := by
      have : (i : Int) ≤ cap := by omega
      simp [slV, bnd, this, Addr.add_lit, show ¬ cap = 0 by omega]
    have w2 : IntKind.i64.wrap (((n + 1 : Nat) : Int) - i) = (n + 1 - i : Nat) := by rw [wrap64_id (by omega) (by omega)]; omega
    unfold qcgZ
    simp only [s1, bin_sub, bin_add, w1, w2, ov_s]
    have hii : i * 4 ≤ n * 4 := Nat.mul_le_mul_right _ (by omega)
    refine app_zeros (olds := xs.take (i * 4)) cUnEnt (show P.underlying qsZ = some (.int .i64) by kernel_rfl) cApEnt (by omega) (by have := celx 0 (i * 4) (by omega); simpa using this) (by omega) (by omega) (by unfold maxLen; omega) (by omega) fun b' cap' cur' hb' hc1 hc2 hc3 hc4 => ?_
    have ei : i + (n + 1 - i) = n + 1 := by omega
    rw [ei] at hc1 ⊢
    have hmul' : (n + 1) * 4 ≤ cap' * 4 := Nat.mul_le_mul_right _ hc1
    have hi1 : (i + 1) * 4 ≤ n * 4 := Nat.mul_le_mul_right _ hin
    have s2 : ∀ j : Nat, j ≤ n → slV (some (none, 4)) (.slice (some ⟨b', 0, none⟩) (n + 1) cap') (some (.int .i64 j)) none = some (.slice (some ⟨b', j * 4, none⟩) (n + 1 - j) (cap' - j)) := fun j hj => by
      have : (j : Int) ≤ (n + 1 : Nat) := by omega
      have h2 : ¬ cap' = j := by omega
      have h3 : (j : Int) ≤ (n : Int) + 1 := by omega
      simp [slV, bnd, h3, h2, Addr.add_lit]
    have s3 : slV (some (none, 4)) (.slice (some ⟨g, 0, none⟩) n cap) (some (.int .i64 i)) none = some (.slice (some ⟨g, i * 4, none⟩) (n - i) (cap - i)) := by
      have : (i : Int) ≤ n := by omega
      simp [slV, bnd, this, show ¬ cap = i by omega, Addr.add_lit]
    unfold qcfZ
    simp only [s2 i (by omega), ov_s]
    have hb'a : a ≠ b' := fun e => by subst e; rw [hb'] at ha; cases ha
    have hb'g : g ≠ b' := fun e => by subst e; rw [hb'] at hg; cases hg
    have m1 : min 1 (n + 1 - i) = 1 := by omega
    refine copy_vv cUnEnt cApEnt (cs := x.toList) (upd_same' _ _ _) ?_ (by rw [m1, hc3]; omega) h1 ?_
    · rw [m1, cels_skip hb'a]
      exact cels_of ha (by rw [List.drop_zero, List.take_of_length_le (by rw [Array.length_toList, hx]; omega)]) (by simpa using hx)
    unfold qceZ
    have w3 : IntKind.i64.wrap ((i : Int) + (1 : Nat)) = (i + 1 : Nat) := by rw [wrap64_id (by omega) (by omega)]; omega
    simp only [bin_add, w3, s2 (i + 1) (by omega), s3, ov_s, upd_upd]
    have m2 : min (n - i) (n + 1 - (i + 1)) = n - i := by omega
    have e5 : i * 4 + (n - i) * 4 = n * 4 := by rw [← Nat.add_mul]; congr 1; omega
    have e6 : (i + 1) * 4 + (n - i) * 4 = (n + 1) * 4 := by rw [← Nat.add_mul]; congr 1; omega
    refine copy_vv cUnEnt cApEnt (cs := (xs.drop (i * 4)).take ((n - i) * 4)) (upd_same' _ _ _) ?_ (by rw [m2, over_size, hc3]; omega) (one_take _ _) ?_
    · rw [m2, cels_skip hb'g]
      exact celx _ _ (by omega)
    rw [upd_upd]
    have hb0 : h0 b' = none := fresh_of r.ex hb'
    have hdl : (xs.drop (i * 4)).take ((n - i) * 4) = xs.drop (i * 4) := List.take_of_length_le (by simp [hl] <;> omega)
    refine hk _ _ ⟨ext_upd hb0 r.ex, ⟨by simp [hl, hx] <;> omega, .inr ⟨b', cap', _, rfl, upd_same' _ _ _, hc1, hc2, by simp [over_size, hc3], ?_⟩⟩, fun b hb => by simp [rowOf] at hb; subst hb; exact hb0, fun u hu => ?_⟩ fun b o hb _ => by rw [upd_ne (fun hh => by rw [hh, hb'] at hb; cases hb)]; exact hb
    · rw [hdl]
      have l1 : (xs.drop (i * 4)).length = (n - i) * 4 := by simp [hl] <;> omega
      have cl : cur'.toList.length = cap' * 4 := by simpa using hc3
      rw [over_list (by rw [over_size, hc3, l1]; omega), over_list (by rw [hc3, Array.length_toList, hx]; omega)]
      have x1 : x.toList.length = 4 := by simpa using hx
      have e7 : spl cur'.toList (i * 4) x.toList = xs.take (i * 4) ++ x.toList ++ cur'.toList.drop (i * 4 + 4) := by
        unfold spl; rw [hc4, x1]
      have e8 : (i + 1) * 4 = (xs.take (i * 4) ++ x.toList).length := by simp [hl, hx] <;> omega
      have e9 : (xs.take (i * 4) ++ x.toList ++ xs.drop (i * 4)).length = (n + 1) * 4 := by simp [hl, hx] <;> omega
      rw [e7]
      unfold spl
      rw [e8, List.take_left, List.take_left' e9]
    · simp only [List.mem_append] at hu
      rcases hu with (hu | hu) | hu
      · exact r.one u (List.mem_of_mem_take hu)
      · exact h1 u hu
      · exact r.one u (List.mem_of_mem_drop hu)
  · -- there is room
    have hgr : n + 1 ≤ cap := by have : ¬ ((cap : Int) < (n + 1 : Nat)) := by simpa using hgr
                                 omega
    have hmul' : (n + 1) * 4 ≤ cap * 4 := Nat.mul_le_mul_right _ hgr
    have hi1 : (i + 1) * 4 ≤ n * 4 := Nat.mul_le_mul_right _ hin
    have s1 : slV (some (none, 4)) (.slice (some ⟨g, 0, none⟩) n cap) none (some (.int .i64 (n + 1 : Nat))) = some (.slice (some ⟨g, 0, none⟩) (n + 1) cap) := by
      have : ((n + 1 : Nat) : Int) ≤ cap := by omega
      have h3 : 0 ≤ (n : Int) + 1 ∧ (n : Int) + 1 ≤ cap := by omega
      simp [slV, bnd, h3, Addr.add_lit, show ¬ cap = 0 by omega]
    have w3 : IntKind.i64.wrap ((i : Int) + (1 : Nat)) = (i + 1 : Nat) := by rw [wrap64_id (by omega) (by omega)]; omega
    have s2 : ∀ j : Nat, j ≤ n → slV (some (none, 4)) (.slice (some ⟨g, 0, none⟩) (n + 1) cap) (some (.int .i64 j)) none = some (.slice (some ⟨g, j * 4, none⟩) (n + 1 - j) (cap - j)) := fun j hj => by
      have h2 : ¬ cap = j := by omega
      have h3 : (j : Int) ≤ (n : Int) + 1 := by omega
      simp [slV, bnd, h3, h2, Addr.add_lit]
    unfold qcjZ
    simp only [bin_add, w1, w3, s1, s2 (i + 1) (by omega), ov_s]
    refine overlaps_nx (tS := qeZ) (tR := qetZ) (f := qfzZ) (by kernel_rfl) (by kernel_rfl) (by kernel_rfl) (by kernel_rfl) cUnEnt cApEnt (Ne.symm hga) ha hg (by rw [hcs]; omega) ?_
    unfold qciZ
    simp only [unV_n, ov_s, cd_b, Bool.not_false, true_implies]
    refine ⟨?_, fun h => (by cases h)⟩
    unfold qchZ
    simp only [bin_add, w3, s2 (i + 1) (by omega), s2 i (by omega), ov_s]
    have m2 : min (n + 1 - i) (n + 1 - (i + 1)) = n - i := by omega
    have e5 : i * 4 + (n - i) * 4 = n * 4 := by rw [← Nat.add_mul]; congr 1; omega
    have e6 : (i + 1) * 4 + (n - i) * 4 = (n + 1) * 4 := by rw [← Nat.add_mul]; congr 1; omega
    refine copy_vv cUnEnt cApEnt (cs := (xs.drop (i * 4)).take ((n - i) * 4)) hg ?_ (by rw [m2, hcs]; omega) (one_take _ _) ?_
    · rw [m2]; exact celx _ _ (by omega)
    try unfold qbYZ
    try simp only [s2 i (by omega), ov_s]
    have m1 : min 1 (n + 1 - i) = 1 := by omega
    refine copy_vv cUnEnt cApEnt (cs := x.toList) (upd_same' _ _ _) ?_ (by rw [m1, over_size, hcs]; omega) h1 ?_
    · rw [m1, cels_skip (Ne.symm hga)]
      exact cels_of ha (by rw [List.drop_zero, List.take_of_length_le (by rw [Array.length_toList, hx]; omega)]) (by simpa using hx)
    rw [upd_upd]
    have hdl : (xs.drop (i * 4)).take ((n - i) * 4) = xs.drop (i * 4) := List.take_of_length_le (by simp [hl] <;> omega)
    refine hk _ _ ⟨ext_upd hg0 r.ex, ⟨by simp [hl, hx] <;> omega, .inr ⟨g, cap, _, rfl, upd_same' _ _ _, hgr, hcm, by simp [over_size, hcs], ?_⟩⟩, fun b hb => by simp [rowOf] at hb; subst hb; exact hg0, fun u hu => ?_⟩ fun b o hb hn => by rw [upd_ne (fun hh => hn (by rw [hh]; rfl))]; exact hb
    · rw [hdl]
      have l1 : (xs.drop (i * 4)).length = (n - i) * 4 := by simp [hl] <;> omega
      have cl : cur.toList.length = cap * 4 := by simpa using hcs
      have x1 : x.toList.length = 4 := by simpa using hx
      rw [over_list (by rw [over_size, hcs, x1]; omega), over_list (by rw [hcs, l1]; omega)]
      have e10 : cur.toList.take (i * 4) = xs.take (i * 4) := by rw [← hct, List.take_take, Nat.min_eq_left (by omega)]
      exact spl_ins e10 (by rw [x1]; omega) (by omega) (by rw [l1]; omega) (by omega)
    · simp only [List.mem_append] at hu
      rcases hu with (hu | hu) | hu
      · exact r.one u (List.mem_of_mem_take hu)
      · exact h1 u hu
      · exact r.one u (List.mem_of_mem_drop hu)
theorem delEEnt {v : Value} {n i : Nat} {xs : List Value} {h0 h : Heap} (r : Rf 4 qjZ h0 h v n xs) (hi : i < n) (hn : n < 10000000)
    (hk : ∀ v' h', Rf 4 qjZ h0 h' v' (n - 1) (xs.take (i * 4) ++ xs.drop ((i + 1) * 4)) → K v' h') : callM P qauZ #[v, .int .i64 i, .int .i64 (i + 1 : Nat)] h K := by
  apply qjiZ
  unfold qaCZ
  obtain ⟨g, cap, cur, rfl, hg0, hg, hcap, hcm, hcs, hct⟩ := r.own (by omega)
  have hl : xs.length = n * 4 := r.row.1
  have hmul : n * 4 ≤ cap * 4 := Nat.mul_le_mul_right _ hcap
  have hi1 : (i + 1) * 4 ≤ n * 4 := Nat.mul_le_mul_right _ hi
  have hlen : lnV 7 (.slice (some ⟨g, 0, none⟩) n cap) = some (.int .i64 n) := rfl
  have s0 : ∃ y, sl3V (some (none, 4)) (.slice (some ⟨g, 0, none⟩) n cap) (some (.int .i64 i)) (.int .i64 (i + 1 : Nat)) (.int .i64 n) = some y := by
    have h1 : (n : Int) ≤ cap := by omega
    have h2 : (0 : Int) ≤ (i : Int) + 1 ∧ (i : Int) + 1 ≤ n := by omega
    have h3 : (i : Int) ≤ (i : Int) + 1 := by omega
    have h4 : i ≤ ((i : Int) + 1).toNat := by omega
    simp [sl3V, bnd, h1, h2, h3]
  obtain ⟨y, s0⟩ := s0
  have e3 : binV .eql 2 false (.int .i64 (i : Int)) (.int .i64 (i + 1 : Nat)) = some (.bool false) := by
    have : ¬ (i : Int) = (i + 1 : Nat) := by omega
    simp [-Int.natCast_add, this]
  simp only [hlen, s0, e3, ov_s, cd_b, true_implies]
  refine ⟨fun h => (by cases h), ?_⟩
  unfold qcdZ
  have s1 : slV (some (none, 4)) (.slice (some ⟨g, 0, none⟩) n cap) none (some (.int .i64 i)) = some (.slice (some ⟨g, 0, none⟩) i cap) := by
    have : (i : Int) ≤ cap := by omega
    simp [slV, bnd, this, Addr.add_lit, show ¬ cap = 0 by omega]
  have s2 : ∃ q, slV (some (none, 4)) (.slice (some ⟨g, 0, none⟩) n cap) (some (.int .i64 (i + 1 : Nat))) none = some (.slice (some ⟨g, q, none⟩) (n - (i + 1)) (cap - (i + 1))) ∧ cels h g q ((n - (i + 1)) * 4) = some (xs.drop ((i + 1) * 4)) := by
    have h3 : (0 : Int) ≤ (i : Int) + 1 ∧ (i : Int) + 1 ≤ n := by omega
    have h4 : ((i : Int) + 1).toNat = i + 1 := by omega
    by_cases hc : cap = i + 1
    · refine ⟨0, by simp [slV, bnd, h3, h4, hc, show n = i + 1 by omega], ?_⟩
      have : n - (i + 1) = 0 := by omega
      rw [this, List.drop_eq_nil_of_le (by rw [hl]; have : n = i + 1 := by omega
                                           subst this; omega)]
      simp [cels]
    · refine ⟨(i + 1) * 4, by simp [slV, bnd, h3, h4, hc, Addr.add_lit], ?_⟩
      have e5 : (i + 1) * 4 + (n - (i + 1)) * 4 = n * 4 := by rw [← Nat.add_mul]; congr 1; omega
      rw [r.row.cels (g := g) rfl (by omega), List.take_of_length_le (by simp [hl] <;> omega)]
  obtain ⟨q, s2, s3⟩ := s2
  simp only [hlen, s1, s2, ov_s]
  have e5 : i * 4 + (n - (i + 1)) * 4 = (n - 1) * 4 := by rw [← Nat.add_mul]; congr 1; omega
  have e6 : (n - 1) * 4 ≤ n * 4 := Nat.mul_le_mul_right _ (by omega)
  refine app_fit cUnEnt cApEnt hg s3 (by rw [hcs]; omega) (by omega) (fun u hu => r.one u (List.mem_of_mem_drop hu)) ?_
  unfold qccZ
  have e7 : i + (n - (i + 1)) = n - 1 := by omega
  rw [e7]
  have s4 : slV (some (none, 4)) (.slice (some ⟨g, 0, none⟩) (n - 1) cap) (some (.int .i64 (n - 1 : Nat))) (some (.int .i64 n)) = some (.slice (some ⟨g, (n - 1) * 4, none⟩) (n - (n - 1)) (cap - (n - 1))) := by
    have h1 : (n : Int) ≤ cap := by omega
    have h2 : ((n - 1 : Nat) : Int) ≤ n := by omega
    simp [slV, bnd, h1, h2, show ¬ cap = n - 1 by omega, Addr.add_lit]
  have hlen2 : lnV 7 (.slice (some ⟨g, 0, none⟩) (n - 1) cap) = some (.int .i64 (n - 1 : Nat)) := rfl
  simp only [hlen2, s4, ov_s]
  have l1 : (xs.drop ((i + 1) * 4)).length = (n - (i + 1)) * 4 := by rw [List.length_drop, hl, ← Nat.sub_mul]
  have l2 : (xs.take (i * 4)).length = i * 4 := by rw [List.length_take, hl]; omega
  have e8 : (n - 1) * 4 + (n - (n - 1)) * 4 = n * 4 := by rw [← Nat.add_mul]; congr 1; omega
  have cl : cur.toList.length = cap * 4 := by simpa using hcs
  have e9 : (over cur (0 + i * 4) (xs.drop ((i + 1) * 4))).toList = xs.take (i * 4) ++ xs.drop ((i + 1) * 4) ++ cur.toList.drop (0 + i * 4 + (n - (i + 1)) * 4) := by
    rw [over_list (by rw [hcs, l1]; omega)]
    unfold spl
    rw [l1]
    congr 2
    rw [← hct, List.take_take, Nat.min_eq_left (by omega), Nat.zero_add]
  have e10 : (xs.take (i * 4) ++ xs.drop ((i + 1) * 4)).length = (n - 1) * 4 := by rw [List.length_append, l1, l2, e5]
  refine clear_vv cUnEnt cApEnt (fun z hz => by rw [cZcEnt] at hz; cases hz; rfl) (by omega) (upd_same' _ _ _) (by rw [over_size, hcs]; omega) (fun hz => by omega) fun cs hcs' => ?_
  rw [upd_upd]
  refine hk _ _ ⟨ext_upd hg0 r.ex, ⟨e10, .inr ⟨g, cap, _, rfl, upd_same' _ _ _, by omega, hcm, by simp [over_size, hcs], ?_⟩⟩, fun b hb => by simp [rowOf] at hb; subst hb; exact hg0, fun u hu => ?_⟩
  · rw [over_list (by rw [over_size, hcs, hcs']; omega), e9]
    unfold spl
    rw [List.append_assoc ((xs.take (i * 4) ++ xs.drop ((i + 1) * 4) ++ _).take _), List.take_append_of_le_length (by rw [List.length_take]; simp only [List.length_append, List.length_drop, l1, l2, cl]; omega), List.take_take, Nat.min_self]
    exact List.take_left' e10
  · simp only [List.mem_append] at hu
    rcases hu with hu | hu
    · exact r.one u (List.mem_of_mem_take hu)
    · exact r.one u (List.mem_of_mem_drop hu)
end Go.Proofs.YtmbningljbcpkaaGreat
namespace Go.Den
open Go
set_option linter.unusedVariables false
set_option linter.unusedSimpArgs false
structure El {α:Type}(sz:Nat)(R:Heap→List Value→α→Prop)(h:Heap)(L:List (List Value))(ys:List α):Prop where
 len:L.length=ys.length
 size:∀ c∈L,c.length=sz
 one:∀ c∈L,∀ u∈c,u.oneCell'=true
 el:∀ i (h1:i<L.length) (h2:i<ys.length),R h L[i] ys[i]
section
variable {α:Type}{sz:Nat}{R:Heap→List Value→α→Prop}{h h':Heap}{L M:List (List Value)}{ys zs:List α}
theorem El.nil:El sz R h [] ([]:List α):=⟨rfl,by simp,by simp,fun i h=>by simp at h⟩
theorem El.ext (hR:∀ {h h' c x},Ext h h'→R h c x→R h' c x)(e:Ext h h')(x:El sz R h L ys):El sz R h' L ys:=⟨x.len,x.size,x.one,fun i h1 h2=>hR e (x.el i h1 h2)⟩
theorem El.take (x:El sz R h L ys)(i:Nat):El sz R h (L.take i) (ys.take i) :=
 ⟨by simp[x.len],fun c hc=>x.size c (List.mem_of_mem_take hc),fun c hc=>x.one c (List.mem_of_mem_take hc),fun k h1 h2=>by
  rw[List.getElem_take,List.getElem_take]; exact x.el k _ _⟩
theorem El.drop (x:El sz R h L ys)(i:Nat):El sz R h (L.drop i) (ys.drop i) :=
 ⟨by simp[x.len],fun c hc=>x.size c (List.mem_of_mem_drop hc),fun c hc=>x.one c (List.mem_of_mem_drop hc),fun k h1 h2=>by
  rw[List.getElem_drop,List.getElem_drop]; exact x.el _ _ _⟩
theorem El.app (x:El sz R h L ys)(y:El sz R h M zs):El sz R h (L++M) (ys++zs):=by
 refine⟨by simp[x.len,y.len],fun c hc=>?_,fun c hc=>?_,fun i h1 h2=>?_⟩
 ·rcases List.mem_append.1 hc with hc | hc
  ·exact x.size c hc
  ·exact y.size c hc
 ·rcases List.mem_append.1 hc with hc | hc
  ·exact x.one c hc
  ·exact y.one c hc
 ·by_cases hi:i<L.length
  ·have hi':i<ys.length:=by rw[← x.len]; exact hi
   rw[List.getElem_append_left hi,List.getElem_append_left hi']; exact x.el i hi hi'
  ·have hi':¬ i<ys.length:=by rw[← x.len]; exact hi
   rw[List.getElem_append_right (by omega),List.getElem_append_right (by omega)]
   have hl:=x.len
   simp only[← hl]
   exact y.el (i-L.length) (by simp at h1; omega) (by simp at h2; omega)
theorem El.sing {c:List Value}{y:α}(h1:c.length=sz)(h2:∀ u∈c,u.oneCell'=true)(h3:R h c y):El sz R h [c] [y] :=
 ⟨rfl,by simpa using h1,by simpa using h2,fun i (k1:i<1) k2=>by
  have:i=0:=by omega
  subst this; exact h3⟩
theorem El.enc {enc:α→List Value}(hl:∀ y,(enc y).length=sz)(h1:∀ y,∀ u∈enc y,u.oneCell'=true)(hR:∀ h y,R h (enc y) y):El sz R h (ys.map enc) ys :=
 ⟨by simp,fun c hc=>by obtain⟨y,_,rfl⟩:=List.mem_map.1 hc; exact hl y,fun c hc=>by obtain⟨y,_,rfl⟩:=List.mem_map.1 hc; exact h1 y,fun i k1 k2=>by simp only[List.getElem_map]; exact hR h _⟩
theorem El.fone (x:El sz R h L ys):∀ u∈L.flatten,u.oneCell'=true:=fun u hu=>by
 obtain⟨c,hc,hu⟩:=List.mem_flatten.1 hu
 exact x.one c hc u hu
theorem El.ftake (x:El sz R h L ys)(i:Nat):L.flatten.take (i*sz)=(L.take i).flatten:=flat_take x.size
theorem El.fdrop (x:El sz R h L ys)(i:Nat):L.flatten.drop (i*sz)=(L.drop i).flatten:=flat_drop x.size
theorem Sl.els {v:Value}(x:Sl sz R h v ys)(h1:∀ c y,R h c y→∀ u∈c,u.oneCell'=true):∃ L,SlC sz h v ys.length L.flatten∧El sz R h L ys:=by
 obtain⟨L,q1,q2,q3,q4⟩:=x.slc
 refine⟨L,q1,q2,q3,fun c hc=>?_,q4⟩
 obtain⟨i,hi,rfl⟩:=List.getElem_of_mem hc
 exact h1 _ _ (q4 i hi (by omega))
theorem SlC.ext {v:Value}{n:Nat}{xs:List Value}(e:Ext h h')(x:SlC sz h v n xs):SlC sz h' v n xs:=by
 rcases x with ⟨h1,h2,h3⟩ | ⟨b,o,cap,h1,h2⟩
 ·exact .inl ⟨h1,h2,h3⟩
 ·exact .inr ⟨b,o,cap,h1,cels_ext e h2⟩
theorem Rf.sl {T:Tags}{e:TypeId}{h0:Heap}{v:Value}{n:Nat}(r:Rf sz e h0 h v n L.flatten)(w:Wf T h0)(hn:n=ys.length)(x:El sz R (fz T h) L ys):Sl sz R (fz T h) v ys :=
 (r.row.fz w r.new).slL hn x.len x.size x.el
end
theorem StrR.one {h:Heap}:∀ c y,StrR h c y→∀ u∈c,u.oneCell'=true:=fun c y r u hu=>by
 have:c=[.string y]:=r.1
 subst this; simp at hu; subst hu; rfl
theorem SessR.one {h:Heap}:∀ c y,SessR h c y→∀ u∈c,u.oneCell'=true:=fun c y r u hu=>by
 have:c=sessC y:=r
 subst this; simp[sessC] at hu; rcases hu with rfl | rfl | rfl | rfl<;>rfl
theorem EntR.one {h:Heap}:∀ c y,EntR h c y→∀ u∈c,u.oneCell'=true:=fun c y r u hu=>by
 obtain⟨v,rfl,h1,h2⟩:=r
 simp[presC] at hu; rcases hu with rfl | rfl | rfl | rfl
 ·exact h1.one.1
 ·rfl
 ·rfl
 ·rfl
theorem EvR.one {h:Heap}:∀ c y,EvR h c y→∀ u∈c,u.oneCell'=true:=fun c y r u hu=>by
 have:c=evC y:=r
 subst this; simp[evC,presC] at hu; rcases hu with rfl | rfl | rfl | rfl | rfl | rfl | rfl | rfl<;>rfl
def putB {α:Type}:List (ByteArray × α)→ByteArray→α→List (ByteArray × α)
 | [],u,e=>[(u,e)]
 | (k,x)::r,u,e=>if ltS k u then (k,x)::putB r u e else if k=u then (u,e)::r else (u,e)::(k,x)::r
def delB {α:Type}(b:List (ByteArray × α))(u:ByteArray):List (ByteArray × α):=b.filter fun x=>!decide (x.1=u)
def keysL {α:Type}(b:List (ByteArray × α)):List ByteArray:=b.map (·.1)
def hasL {α:Type}(b:List (ByteArray × α))(u:ByteArray):Bool:=(keysL b).any fun k=>decide (k=u)
theorem hasL_iff {α:Type}{b:List (ByteArray × α)}{u:ByteArray}:hasL b u=true↔u∈keysL b:=by simp[hasL]
theorem pos_cons_lt {k u:ByteArray}{l:List ByteArray}(h:ltS k u=true):pos (k::l) u=pos l u+1:=by simp[pos,List.takeWhile_cons,h]
theorem pos_cons_ge {k u:ByteArray}{l:List ByteArray}(h:ltS k u=false):pos (k::l) u=0:=by simp[pos,List.takeWhile_cons,h]
theorem putB_has {α:Type}{u:ByteArray}{e:α}:∀ {b:List (ByteArray × α)},SrtK (keysL b)→u∈keysL b→putB b u e=b.take (pos (keysL b) u)++[(u,e)]++b.drop (pos (keysL b) u+1)
 | [],_,h=>by simp[keysL] at h
 | (k,x)::r,s,h=>by
  have s':SrtK (keysL r):=(List.pairwise_cons.1 s).2
  simp only[putB]
  cases hk:ltS k u with
  | true =>
   have:u∈keysL r:=by
    simp only[keysL,List.map_cons,List.mem_cons] at h
    rcases h with rfl | h
    ·rw[ltS_irrefl] at hk; cases hk
    ·exact h
   have e1:pos (keysL ((k,x)::r)) u=pos (keysL r) u+1:=pos_cons_lt hk
   rw[e1,if_pos rfl,putB_has s' this]
   rfl
  | false =>
   have hku:k=u:=by
    simp only[keysL,List.map_cons,List.mem_cons] at h
    rcases h with rfl | h
    ·rfl
    ·have:=(List.pairwise_cons.1 s).1 u h
     rw[hk] at this; cases this
   have e1:pos (keysL ((k,x)::r)) u=0:=pos_cons_ge hk
   rw[e1]
   simp[hku]
theorem putB_new {α:Type}{u:ByteArray}{e:α}:∀ {b:List (ByteArray × α)},SrtK (keysL b)→u ∉ keysL b→putB b u e=b.take (pos (keysL b) u)++[(u,e)]++b.drop (pos (keysL b) u)
 | [],_,h=>by simp[putB]
 | (k,x)::r,s,h=>by
  have s':SrtK (keysL r):=(List.pairwise_cons.1 s).2
  simp only[keysL,List.map_cons,List.mem_cons,not_or] at h
  simp only[putB]
  cases hk:ltS k u with
  | true =>
   have e1:pos (keysL ((k,x)::r)) u=pos (keysL r) u+1:=pos_cons_lt hk
   rw[e1,if_pos rfl,putB_new s' h.2]
   rfl
  | false =>
   have e1:pos (keysL ((k,x)::r)) u=0:=pos_cons_ge hk
   rw[e1]
   simp[Ne.symm h.1]
theorem delB_none {α:Type}{u:ByteArray}{b:List (ByteArray × α)}(h:u ∉ keysL b):delB b u=b:=by
 refine List.filter_eq_self.2 fun x hx=>?_
 have:x.1≠u:=fun e=>h (e▸List.mem_map_of_mem hx)
 simp[this]
theorem delB_has {α:Type}{u:ByteArray}:∀ {b:List (ByteArray × α)},SrtK (keysL b)→u∈keysL b→delB b u=b.take (pos (keysL b) u)++b.drop (pos (keysL b) u+1)
 | [],_,h=>by simp[keysL] at h
 | (k,x)::r,s,h=>by
  have s':SrtK (keysL r):=(List.pairwise_cons.1 s).2
  cases hk:ltS k u with
  | true =>
   have hne:k≠u:=fun e=>by rw[e,ltS_irrefl] at hk; cases hk
   have:u∈keysL r:=by
    simp only[keysL,List.map_cons,List.mem_cons] at h
    exact h.resolve_left (Ne.symm hne)
   have e1:pos (keysL ((k,x)::r)) u=pos (keysL r) u+1:=pos_cons_lt hk
   rw[e1]
   have:=delB_has s' this
   unfold delB at this ⊢
   simp[hne,this]
  | false =>
   have hku:k=u:=by
    simp only[keysL,List.map_cons,List.mem_cons] at h
    rcases h with rfl | h
    ·rfl
    ·have:=(List.pairwise_cons.1 s).1 u h
     rw[hk] at this; cases this
   have e1:pos (keysL ((k,x)::r)) u=0:=pos_cons_ge hk
   have hn:u ∉ keysL r:=fun h=>by
    have:=(List.pairwise_cons.1 s).1 u h
    rw[hk] at this; cases this
   rw[e1]
   have:=delB_none hn
   unfold delB at this ⊢
   simp[hku,this]
theorem keys_putB {α:Type}{u:ByteArray}{e:α}:∀ {b:List (ByteArray × α)} {k:ByteArray},k∈keysL (putB b u e)→k=u∨k∈keysL b
 | [],k,h=>by simp[putB,keysL] at h; exact .inl h
 | (k',x)::r,k,h=>by
  simp only[putB] at h
  split at h
  ·simp only[keysL,List.map_cons,List.mem_cons] at h ⊢
   rcases h with h | h
   ·exact .inr (.inl h)
   ·rcases keys_putB h with h | h
    ·exact .inl h
    ·exact .inr (.inr h)
  ·split at h
   ·simp only[keysL,List.map_cons,List.mem_cons] at h ⊢
    rcases h with h | h
    ·exact .inl h
    ·exact .inr (.inr h)
   ·simp only[keysL,List.map_cons,List.mem_cons] at h ⊢
    exact h
theorem putB_srt {α:Type}{u:ByteArray}{e:α}:∀ {b:List (ByteArray × α)},SrtK (keysL b)→SrtK (keysL (putB b u e))
 | [],_=>by simp[putB,keysL,SrtK]
 | (k,x)::r,s=>by
  obtain⟨s1,s2⟩:=List.pairwise_cons.1 s
  simp only[putB]
  cases hk:ltS k u with
  | true =>
   rw[if_pos rfl]
   refine List.pairwise_cons.2 ⟨fun j hj=>?_,putB_srt s2⟩
   rcases keys_putB hj with rfl | hj
   ·exact hk
   ·exact s1 j hj
  | false =>
   simp only[Bool.false_eq_true,if_false]
   by_cases hku:k=u
   ·rw[if_pos hku]; subst hku; exact List.pairwise_cons.2 ⟨s1,s2⟩
   ·rw[if_neg hku]
    have huk:ltS u k=true:=by
     cases h:ltS u k with
     | true=>rfl
     | false=>exact absurd (ltS_total hk h) hku
    refine List.pairwise_cons.2 ⟨fun j hj=>?_,s⟩
    simp only[List.map_cons,List.mem_cons] at hj
    rcases hj with rfl | hj
    ·exact huk
    ·exact ltS_trans huk (s1 j hj)
theorem delB_srt {α:Type}{u:ByteArray}{b:List (ByteArray × α)}(s:SrtK (keysL b)):SrtK (keysL (delB b u)):=by
 unfold SrtK keysL delB at *
 exact s.sublist ((List.filter_sublist).map _)
theorem putB_len {α:Type}{u:ByteArray}{e:α}:∀ {b:List (ByteArray × α)},(putB b u e).length≤b.length+1
 | []=>by simp[putB]
 | (k,x)::r=>by
  have:=putB_len (u:=u) (e:=e) (b:=r)
  simp only[putB]; split
  ·simp; omega
  ·split<;>simp
theorem delB_len {α:Type}{u:ByteArray}{b:List (ByteArray × α)}:(delB b u).length≤b.length:=List.length_filter_le _ _
end Go.Den
namespace Go.Den
open Go
set_option linter.unusedVariables false
theorem flat_spl {sz:Nat}{L:List (List Value)}{i:Nat}{c:List Value}(hL:∀ c∈L,c.length=sz)(hi:i<L.length)(hc:c.length=sz):spl L.flatten (i*sz) c=(L.take i++[c]++L.drop (i+1)).flatten:=by
 unfold spl
 rw[hc,show i*sz+sz=(i+1)*sz by rw[Nat.add_mul]; omega,flat_take hL,flat_drop hL]
 simp
theorem Rf.st {sz : Nat} {e : TypeId} {h0 h : Heap} {v : Value} {n : Nat} {L : List (List Value)} (r : Rf sz e h0 h v n L.flatten) (hL : ∀ c ∈ L, c.length = sz) (hn : L.length = n) {i : Nat} (hi : i < n) {c : Value} (hc : c.cells.size = sz) (h1 : ∀ u ∈ c.cells.toList, u.oneCell' = true) {k : IntKind} :
    ∃ g, rowOf v = some g ∧ iaV (some (none, sz)) v (.int k i) = some (.pointer (some ⟨g, i * sz, none⟩)) ∧ h0 g = none ∧ (∃ o, h g = some o) ∧
      ∀ K : Heap → Prop, (∀ o', Rf sz e h0 (upd h g o') v n (L.take i ++ [c.cells.toList] ++ L.drop (i + 1)).flatten → K (upd h g o')) → stM (some sz) (.pointer (some ⟨g, i * sz, none⟩)) c h K := by
  obtain ⟨g, h2, h3⟩ := r.row.ia (k := k) hi
  obtain ⟨o, ho⟩ := r.row.lt g h2
  refine ⟨g, h2, h3, r.new g h2, ⟨o, ho⟩, fun K hK => ?_⟩
  refine r.row.st h2 hc (by have : (i + 1) * sz ≤ n * sz := Nat.mul_le_mul_right _ hi
                            rw [Nat.add_mul] at this; omega) h1 fun h' hk hr => ?_
  obtain ⟨o', ho'⟩ := hr.lt g h2
  have e1 : h' = upd h g o' := upd_of hk ho'
  rw [flat_spl hL (by omega) (by simpa using hc)] at hr
  subst e1
  refine hK o' ⟨ext_upd (r.new g h2) r.ex, hr, r.new, fun u hu => ?_⟩
  simp only [List.flatten_append, List.mem_append, List.flatten_cons, List.flatten_nil, List.append_nil] at hu
  rcases hu with (hu | hu) | hu
  · obtain ⟨d, hd, hu⟩ := List.mem_flatten.1 hu
    exact r.one u (List.mem_flatten.2 ⟨d, List.mem_of_mem_take hd, hu⟩)
  · exact h1 u hu
  · obtain ⟨d, hd, hu⟩ := List.mem_flatten.1 hu
    exact r.one u (List.mem_flatten.2 ⟨d, List.mem_of_mem_drop hd, hu⟩)
theorem keys_put_has {α:Type}{u:ByteArray}{e:α}:∀ {b:List (ByteArray × α)},SrtK (keysL b)→u∈keysL b→keysL (putB b u e)=keysL b
 | [],_,h=>by simp[keysL] at h
 | (k,x)::r,s,h=>by
  have s':SrtK (keysL r):=(List.pairwise_cons.1 s).2
  simp only[putB]
  cases hk:ltS k u with
  | true =>
   have:u∈keysL r:=by
    simp only[keysL,List.map_cons,List.mem_cons] at h
    rcases h with rfl | h
    ·rw[ltS_irrefl] at hk; cases hk
    ·exact h
   have ih:=keys_put_has (e:=e) s' this
   rw[if_pos rfl]
   simp only[keysL,List.map_cons] at ih ⊢
   rw[ih]
  | false =>
   have hku:k=u:=by
    simp only[keysL,List.map_cons,List.mem_cons] at h
    rcases h with rfl | h
    ·rfl
    ·have:=(List.pairwise_cons.1 s).1 u h
     rw[hk] at this; cases this
   simp[hku,keysL]
theorem Rf.skip {sz:Nat}{e:TypeId}{h0 h:Heap}{v:Value}{n:Nat}{xs:List Value}{b:Nat}{o:Obj}(r:Rf sz e h0 h v n xs)(hb:h0 b=none)(hv:rowOf v≠some b):Rf sz e h0 (upd h b o) v n xs :=
 ⟨ext_upd hb r.ex,r.row.of_at fun g hg=>by rw[upd_ne (fun hh=>hv (by rw[hg,hh]))],r.new,r.one⟩
theorem Rf.ne_old {sz:Nat}{e:TypeId}{h0 h:Heap}{v:Value}{n:Nat}{xs:List Value}{b:Nat}{o:Obj}(r:Rf sz e h0 h v n xs)(hb:h0 b=some o):rowOf v≠some b:=fun hh=>by rw[r.new b hh] at hb; cases hb
theorem Rf.ne_new {sz:Nat}{e:TypeId}{h0 h:Heap}{v:Value}{n:Nat}{xs:List Value}{b:Nat}(r:Rf sz e h0 h v n xs)(hb:h b=none):rowOf v≠some b:=fun hh=>by obtain⟨o,ho⟩:=r.row.lt b hh; rw[hb] at ho; cases ho
end Go.Den
namespace Go.Den
open Go
theorem cels_sub {h:Heap}{b o n:Nat}{l:List Value}(hc:cels h b o n=some l){j m:Nat}(hj:j+m≤n):cels h b (o+j) m=some ((l.drop j).take m):=by
 obtain⟨h1,h2⟩:=cels_get hc
 have:∀ (m o:Nat) (l':List Value),l'.length=m→(∀ i (hi:i<m),cel h b (o+i)=l'[i]?)→cels h b o m=some l':=by
  intro m
  induction m with
  | zero=>intro o l' hl _; simp[List.eq_nil_of_length_eq_zero hl,cels]
  | succ m ih =>
   intro o l' hl hi
   cases l' with
   | nil=>simp at hl
   | cons x l' =>
    have e0:=hi 0 (by omega)
    simp only[Nat.add_zero,List.getElem?_cons_zero] at e0
    have e1:=ih (o+1) l' (by simpa using hl) fun i hi'=>by
     have:=hi (i+1) (by omega)
     rw[List.getElem?_cons_succ] at this
     rw[← this]; congr 1; omega
    simp only[cels,e0,e1]
 refine this m (o+j) _ (by simp; omega) fun i hi=>?_
 have:=h2 (j+i) (by omega)
 rw[show o+j+i=o+(j+i) by omega,this,List.getElem?_take_of_lt hi,List.getElem?_drop]
 exact (List.getElem?_eq_getElem _).symm
end Go.Den
namespace Go.Den
open Go
def valL {α:Type}(d:α):List (ByteArray × α)→ByteArray→α
 | [],_=>d
 | (k,e)::r,u=>if k=u then e else valL d r u
theorem valL_mem {α:Type}{d:α}{b:List (ByteArray × α)}(s:SrtK (keysL b)){i:Nat}(hi:i<b.length):valL d b b[i].1=b[i].2:=by
 induction b generalizing i with
 | nil=>simp at hi
 | cons x b ih =>
  obtain⟨k,e⟩:=x
  have s':SrtK (keysL b):=(List.pairwise_cons.1 s).2
  cases i with
  | zero=>simp[valL]
  | succ i =>
   have hi':i<b.length:=by simpa using hi
   have hne:¬ k=b[i].1:=fun h=>by
    have:=(List.pairwise_cons.1 s).1 b[i].1 (List.mem_map_of_mem (List.getElem_mem _))
    rw[h,ltS_irrefl] at this; cases this
   simp only[List.getElem_cons_succ,valL,if_neg hne]
   exact ih s' hi'
theorem valL_none {α:Type}{d:α}{b:List (ByteArray × α)}{u:ByteArray}(h:u ∉ keysL b):valL d b u=d:=by
 induction b with
 | nil=>rfl
 | cons x b ih =>
  obtain⟨k,e⟩:=x
  simp only[keysL,List.map_cons,List.mem_cons,not_or] at h
  simp only[valL,if_neg (Ne.symm h.1)]
  exact ih h.2
end Go.Den
namespace Go.Proofs.YtmbningljbcpkaaGreat
open Go Go.Den Go.MapKept
set_option linter.unusedSimpArgs false
set_option linter.unusedVariables false
set_option maxRecDepth 20000
theorem bdMap (a b:Option Addr)(n m c d:Nat):bdV (binf P qaZ) [(0,.slice a n c),(1,.slice b m d)]=some (.agg #[.slice a n c,.slice b m d]):=by kernel_rfl
theorem tgMap:tagg P qaZ=some (some 2):=by kernel_rfl
theorem row_sl {sz:Nat}{e:TypeId}{h:Heap}{v:Value}{n:Nat}{xs:List Value}(r:Row sz e h v n xs):∃ a n c,v = .slice a n c:=by
 rcases r.2 with ⟨rfl,_⟩ | ⟨g,cap,cur,rfl,_⟩<;>exact⟨_,_,_,rfl⟩
theorem sl_sl {α:Type}{sz:Nat}{R:Heap→List Value→α→Prop}{h:Heap}{v:Value}{xs:List α}(x:Sl sz R h v xs):∃ a n c,v = .slice a n c:=by
 rcases x with ⟨rfl,a,c,rfl⟩ | ⟨b,o,cap,rfl,_⟩<;>exact⟨_,_,_,rfl⟩
theorem bdMapS {k v:Value}(hk:∃ a n c,k = .slice a n c)(hv:∃ a n c,v = .slice a n c):bdV (binf P qaZ) [(0,k),(1,v)]=some (.agg #[k,v]):=by
 obtain⟨a,n,c,rfl⟩:=hk
 obtain⟨b,m,d,rfl⟩:=hv
 exact bdMap _ _ _ _ _ _
variable {K:KTy}
theorem with_ok (b:Book)(so:SrtK (keysB b))(u:ByteArray)(hu:u.size≤maxLen)(e:Ent){T:Tags}{h:Heap}(w:Wf T h){kw vw sv:Value}(x:BookR (fz T h) kw vw b)(hs:Sl 4 SessR (fz T h) sv e.ss)(hn:Sn sv)(hl:b.length<1000000)
  (hk:∀ h' k v,Ext h h'→BookR (fz T h') k v (putB b u e)→K (.agg #[k,v]) h'):callM P qaYZ #[.agg #[kw,vw],.string u,.agg (sv::presC e.told).toArray] h K:=by
 apply qlEZ
 unfold qblZ
 rw[zcMap]
 refine nw_agg fun v1 h1 n1 e1 c1=>?_
 refine nw_agg fun v3 h3 n3 e3 c3=>?_
 refine nw_intro fun v5 h5 n5 e5 c5=>?_
 have ne13:=ne_fresh c1 n3
 have ne15:=ne_fresh (e3 _ _ c1) n5
 have ne35:=ne_fresh c3 n5
 have c1:=e5 _ _ (e3 _ _ c1)
 have c3:=e5 _ _ c3
 have n5:h v5=none:=fresh_of (e1.trans e3) n5
 have e0:=(e1.trans e3).trans e5
 have kl:(keysB b).length=b.length:=by simp[keysB]
 simp -implicitDefEqProofs[ld_at c1,cel_of c1,stm_at c1,stm_upd,ld_same,cel_same,over]
 refine find_ok (keysB b) so u x.2.1.one.2 (x.1.ext (@StrR.ext) ((fz_ext T h).trans e0)) (by omega) fun h6 e6=>?_
 have c1:=e6 _ _ c1
 have c3:=e6 _ _ c3
 have c5:=e6 _ _ c5
 have e0:=e0.trans e6
 have w6:=w.ext e0
 have x6:BookR (fz T h6) kw vw b:=x.ext (fz_of_ext e0)
 have hs6:Sl 4 SessR (fz T h6) sv e.ss:=hs.ext (@SessR.ext) (fz_of_ext e0)
 unfold qdOZ
 simp -implicitDefEqProofs only[exV_0,exV_1,ov_s]
 rw[seqM_eq]
 unfold qdNZ
 simp -implicitDefEqProofs only[cd_b]
 have o1:=x6.1.one
 have o2:=x6.2.1.one
 have os:=hs6.one
 obtain⟨Lk,k1,k2⟩:=x.1.els StrR.one
 obtain⟨Lv,l1,l2⟩:=x.2.1.els EntR.one
 simp -implicitDefEqProofs only[List.length_map] at k1 l1
 have lk:=k2.len
 have lv:=l2.len
 simp -implicitDefEqProofs only[List.length_map] at lk lv
 refine⟨fun hy=>?_,fun hno=>?_⟩
 ·have hyes:hasL b u=true:=hy
  have hmem:=hasL_iff.1 hyes
  obtain⟨p1,p2⟩:=(mem_pos so u).1 hmem
  have hpb:pos (keysB b) u<b.length:=by omega
  have put:putB b u e=b.take (pos (keysB b) u)++[(u,e)]++b.drop (pos (keysB b) u+1):=putB_has so hmem
  have keq:(putB b u e).map (·.1)=b.map (·.1):=keys_put_has so hmem
  obtain⟨p,hp⟩:∃ p,pos (keysB b) u=p:=⟨_,rfl⟩
  rw[hp] at hpb put ⊢
  -- what is left once the values lie anew
  have fin:∀ (h7:Heap) (vo v':Value) (o:Nat) (s:Env) (m:List Nat),vo=ptr o→Ext h6 h7→h6 o=none→h7 o=some (.cells #[kw,v'] qaZ (0,0))→rowOf v'≠some o→Rf 4 qjZ h6 h7 v' b.length Lv.flatten →
    s 9=vo→s 5=ptr v3→s 6=ptr v5→s 7 = .int .i64 p→qaTZ s h7 (thenM (fun m s13 h14=>qaNZ s13 h14 m K) (retM P [.cell 6 qaZ] K)) []:=by
   rintro h7 vo v' o s m rfl e7 no co hro r s9 s5 s6 s7
   have nov:v5≠o:=ne_fresh c5 no
   have no3:v3≠o:=ne_fresh c3 no
   have c1':=c1
   have c5':=c5
   have c1:=e7 _ _ c1
   have c3:=e7 _ _ c3
   have c5:=e7 _ _ c5
   obtain⟨g,q1,q2,q3,⟨go,q4⟩,q5⟩:=r.st (i:=p) (c:=.agg (sv::presC e.told).toArray) (k:=.i64) l2.size (by omega) hpb (by simp[presC]) (by simp[presC,os.1])
   have hgo:g≠o:=fun hh=>hro (by rw[q1,hh])
   have hg5:v5≠g:=ne_fresh c5' q3
   have hg1:v1≠g:=ne_fresh c1' q3
   unfold qaTZ
   simp -implicitDefEqProofs only[presC] at c3 q5
   have ov':=r.row.one
   simp -implicitDefEqProofs[s9,s5,s6,s7,ld_at co,cel_of co,stm_at co,ld_at c3,cel_of c3,stm_at c3,ld_at c5,cel_of c5,stm_at c5,stm_upd,ld_same,cel_same,over,q2]
   refine q5 _ fun o' r'=>?_
   have e8:=ext_upd (o:=o') q3 e7
   simp -implicitDefEqProofs[ld_at co,cel_of co,stm_at co,ld_at c3,cel_of c3,stm_at c3,ld_at c5,cel_of c5,stm_at c5,stm_skip hgo,stm_skip (Ne.symm hgo),ld_skip hgo,ld_skip (Ne.symm hgo),cel_skip hgo,cel_skip (Ne.symm hgo),stm_skip hg5,stm_skip (Ne.symm hg5),ld_skip hg5,ld_skip (Ne.symm hg5),cel_skip hg5,cel_skip (Ne.symm hg5),stm_upd,ld_same,cel_same,over,s9,s5,s6,s7,o1.1,ov'.1,tgMap]
   rw[upd_comm hg5]
   have e9:=ext_upd (o:=.cells #[kw,v'] qaZ (0,0)) n5 (e0.trans e8)
   refine hk _ kw v' e9 ⟨?_,?_,x.2.2.1,r'.row.sn⟩
   ·rw[keq]; exact x.1.ext (@StrR.ext) (fz_of_ext e9)
   ·have r9:=(r'.back e0).skip (o:=.cells #[kw,v'] qaZ (0,0)) n5 (by rw[q1]; intro hh; cases hh; exact hg5 rfl)
    rw[put]
    simp -implicitDefEqProofs only[List.map_append,List.map_take,List.map_drop,List.map_cons,List.map_nil]
    have l3:=l2.ext (@EntR.ext) (fz_of_ext e9)
    have hs9:=hs.ext (@SessR.ext) (fz_of_ext e9)
    exact r9.sl w (by simp; omega) (((l3.take p).app (El.sing (by simp[presC]) (by simp[presC,os.1]) ⟨sv,rfl,hs9,hn⟩)).app (l3.drop (p+1)))
  unfold qdLZ
  rw[seqM_eq]
  unfold qdKZ
  have lv6:=(l1.ext ((fz_ext T h).trans e0))
  simp -implicitDefEqProofs[ld_at c1,cel_of c1,stm_at c1,stm_upd,ld_same,cel_same,over]
  refine⟨?_,?_⟩
  ·unfold qdIZ
   refine cloneEEnt lv6 x.2.2.2 l2.fone (by omega) fun v' h7 r7=>?_
   have c1':=r7.ex _ _ c1
   unfold qdHZ
   simp -implicitDefEqProofs[ld_at c1',cel_of c1',stm_at c1',stm_upd,ld_same,cel_same,over,bdMapS (sl_sl x.1) (row_sl r7.row),zcMap]
   intro o no
   have ne:=ne_fresh c1' no
   have no6:=fresh_of r7.ex no
   have hro:rowOf v'≠some o:=fun hh=>by obtain⟨z,hz⟩:=r7.row.lt o hh; rw[no] at hz; cases hz
   simp -implicitDefEqProofs[ld_at c1',cel_of c1',stm_at c1',stm_skip ne,stm_skip (Ne.symm ne),ld_skip ne,ld_skip (Ne.symm ne),cel_skip ne,cel_skip (Ne.symm ne),stm_upd,ld_same,cel_same,over,o1.1,r7.row.one.1]
   refine fin _ _ v' o _ [] rfl (ext_upd no6 r7.ex) no6 (upd_same' _ _ _) hro (r7.skip no6 hro) ?_ ?_ ?_ ?_<;>simp
  ·unfold qdJZ
   rw[zcMap]
   simp -implicitDefEqProofs only[nwM_s]
   intro o no
   have ne:=ne_fresh c1 no
   have e7:Ext h6 (upd h6 o _):=Ext.upd no (.cells #[.slice none 0 0,.slice none 0 0] qaZ (0,0))
   have co:=upd_same' h6 o (.cells #[.slice none 0 0,.slice none 0 0] qaZ (0,0))
   have c1':=e7 _ _ c1
   generalize upd h6 o _=h7 at *
   simp -implicitDefEqProofs[ld_at c1',cel_of c1',stm_at c1',stm_upd,ld_same,cel_same,over]
   refine cloneEEnt (lv6.ext e7) x.2.2.2 l2.fone (by omega) fun v' h8 r8=>?_
   have c1':=r8.ex _ _ c1'
   have co0:=co
   have co:=r8.ex _ _ co
   have hro:rowOf v'≠some o:=fun hh=>by have h1:=r8.new o hh; rw[co0] at h1; cases h1
   simp -implicitDefEqProofs[ld_at c1',cel_of c1',stm_at c1',ld_at co,cel_of co,stm_at co,stm_upd,ld_same,cel_same,over,o1.1,r8.row.one.1,bdMapS (sl_sl x.1) (row_sl r8.row)]
   refine fin _ _ v' o _ [] rfl (ext_upd no (e7.trans r8.ex)) no (upd_same' _ _ _) hro ((r8.back e7).skip no hro) ?_ ?_ ?_ ?_<;>simp
 ·have hno':hasL b u=false:=hno
  have hmem:u ∉ keysL b:=fun hh=>by rw[hasL_iff.2 hh] at hno'; cases hno'
  have put:putB b u e=b.take (pos (keysB b) u)++[(u,e)]++b.drop (pos (keysB b) u):=putB_new so hmem
  have hpb:=(pos_spec so u).1
  obtain⟨p,hp⟩:∃ p,pos (keysB b) u=p:=⟨_,rfl⟩
  rw[hp] at hpb put ⊢
  have hpb:p≤b.length:=by omega
  have k0:=k1.ext ((fz_ext T h).trans e0)
  have l0:=l1.ext ((fz_ext T h).trans e0)
  have k0:SlC 1 h6 kw b.length Lk.flatten:=k0
  have l0:SlC 4 h6 vw b.length Lv.flatten:=l0
  have fin2:∀ (h':Heap) (vk vv:Value),Ext h6 h'→Rf 1 qXZ h6 h' vk (b.length+1) (Lk.flatten.take (p*1)++(Value.string u).cells.toList++Lk.flatten.drop (p*1)) →
    Rf 4 qjZ h6 h' vv (b.length+1) (Lv.flatten.take (p*4)++(Value.agg (sv::presC e.told).toArray).cells.toList++Lv.flatten.drop (p*4))→∀ s:Env,s 6=ptr v5 →
    ov (bdV (binf P qaZ) [(0,vk),(1,vv)]) fun v=>stM (some 2) (ptr v5) v h' fun h''=>retM P [.cell 6 qaZ] K .ret [] s h'':=by
   intro h' vk vv e7 rk rv s s6
   have c5':=e7 _ _ c5
   have u1:=rk.row.one
   have u2:=rv.row.one
   have nk:rowOf vk≠some v5:=Rf.ne_old rk c5
   have nv:rowOf vv≠some v5:=Rf.ne_old rv c5
   simp -implicitDefEqProofs[bdMapS (row_sl rk.row) (row_sl rv.row),ld_at c5',cel_of c5',stm_at c5',stm_upd,ld_same,cel_same,over,u1.1,u2.1,tgMap,s6]
   have e9:=ext_upd (o:=.cells #[vk,vv] qaZ (0,0)) n5 (e0.trans e7)
   have rk9:=(rk.back e0).skip (o:=.cells #[vk,vv] qaZ (0,0)) n5 nk
   have rv9:=(rv.back e0).skip (o:=.cells #[vk,vv] qaZ (0,0)) n5 nv
   have k3:=k2.ext (@StrR.ext) (fz_of_ext e9)
   have l3:=l2.ext (@EntR.ext) (fz_of_ext e9)
   have hs9:=hs.ext (@SessR.ext) (fz_of_ext e9)
   refine hk _ vk vv e9 ⟨?_,?_,rk.row.sn,rv.row.sn⟩
   ·have:=((k3.take p).app (El.sing (c:=[.string u]) (y:=u) (by simp) (by simp) ⟨rfl,hu⟩)).app (k3.drop p)
    rw[k2.ftake,k2.fdrop] at rk9
    rw[put]
    simp -implicitDefEqProofs only[List.map_append,List.map_take,List.map_drop,List.map_cons,List.map_nil]
    have e8:(Lk.take p).flatten++(Value.string u).cells.toList++(Lk.drop p).flatten=(Lk.take p++[[Value.string u]]++Lk.drop p).flatten:=by simp
    rw[e8] at rk9
    exact rk9.sl w (by simp; omega) this
   ·have:=((l3.take p).app (El.sing (by simp[presC]) (by simp[presC,os.1]) ⟨sv,rfl,hs9,hn⟩)).app (l3.drop p)
    rw[l2.ftake,l2.fdrop] at rv9
    rw[put]
    simp -implicitDefEqProofs only[List.map_append,List.map_take,List.map_drop,List.map_cons,List.map_nil]
    have e8:(Lv.take p).flatten++(Value.agg (sv::presC e.told).toArray).cells.toList++(Lv.drop p).flatten=(Lv.take p++[(Value.agg (sv::presC e.told).toArray).cells.toList]++Lv.drop p).flatten:=by simp
    rw[e8] at rv9
    exact rv9.sl w (by simp; omega) this
  have main:∀ s:Env,s 1 = .string u→s 3=ptr v1→s 5=ptr v3→s 6=ptr v5→s 7 = .int .i64 p→qaMZ s h6 (thenM (fun m s42 h43=>(retM P [.cell 6 qaZ] K) .ret m s42 h43) (retM P [.cell 6 qaZ] K)) []:=by
   intro s s1 s3 s5 s6 s7
   have ec0:=Ext.refl h6
   simp -implicitDefEqProofs only[presC] at c3
   unfold qaMZ
   simp -implicitDefEqProofs[ld_at c1,cel_of c1,stm_at c1,ld_at c3,cel_of c3,stm_at c3,stm_upd,ld_same,cel_same,over,s1,s3,s5,s6,s7]
   refine⟨?_,?_,?_⟩
   ·
    unfold qdoZ
    try simp only[s1,s3,s5,s6,s7]
    refine cloneEStr (k0.ext ec0) x.2.2.1 k2.fone (by omega) fun vk1 h1_ rk1=>?_
    have eb1:=ec0
    have ec1:=ec0.trans rk1.ex
    have c1_1:=ec1 _ _ c1
    have c3_1:=ec1 _ _ c3
    unfold qdnZ
    try simp only[s1,s3,s5,s6,s7]
    refine⟨by simp[ld_at c1_1,cel_of c1_1,stm_at c1_1,ld_at c3_1,cel_of c3_1,stm_at c3_1,stm_upd,ld_same,cel_same,over],?_⟩
    refine⟨by simp[ld_at c1_1,cel_of c1_1,stm_at c1_1,ld_at c3_1,cel_of c3_1,stm_at c3_1,stm_upd,ld_same,cel_same,over],?_⟩
    refine⟨?_,?_⟩
    ·
     refine bs_one cBsStr (by simp) (by omega) fun b2 h2_ n2 e2 bk2=>?_
     have nn2:=Rf.ne_new rk1 n2
     have rkk2:=rk1.ext e2
     have ec2:=ec1.trans e2
     have c1_2:=ec2 _ _ c1
     have c3_2:=ec2 _ _ c3
     refine⟨by simp[ld_at c1_2,cel_of c1_2,stm_at c1_2,ld_at c3_2,cel_of c3_2,stm_at c3_2,stm_upd,ld_same,cel_same,over],?_⟩
     refine⟨by simp[ld_at c1_2,cel_of c1_2,stm_at c1_2,ld_at c3_2,cel_of c3_2,stm_at c3_2,stm_upd,ld_same,cel_same,over],?_⟩
     refine⟨?_,?_⟩
     ·
      refine insEStr rkk2 rfl bk2 nn2 (by omega) (by omega) (by simp) fun vk3 h3_ rk3 kb3=>?_
      have ec3:=eb1.trans rk3.ex
      have rk03:=rk3.back eb1
      have c1_3:=ec3 _ _ c1
      have c3_3:=ec3 _ _ c3
      unfold qdkZ
      try simp only[s1,s3,s5,s6,s7]
      refine⟨by simp[ld_at c1_3,cel_of c1_3,stm_at c1_3,ld_at c3_3,cel_of c3_3,stm_at c3_3,stm_upd,ld_same,cel_same,over],?_⟩
      refine⟨by simp[ld_at c1_3,cel_of c1_3,stm_at c1_3,ld_at c3_3,cel_of c3_3,stm_at c3_3,stm_upd,ld_same,cel_same,over],?_⟩
      refine⟨?_,?_⟩
      ·
       refine cloneEEnt (l0.ext ec3) x.2.2.2 l2.fone (by omega) fun vv4 h4_ rv4=>?_
       have rkk4:=rk03.ext rv4.ex
       have eb4:=ec3
       have ec4:=ec3.trans rv4.ex
       have c1_4:=ec4 _ _ c1
       have c3_4:=ec4 _ _ c3
       unfold qdiZ
       try simp only[s1,s3,s5,s6,s7]
       refine⟨by simp[ld_at c1_4,cel_of c1_4,stm_at c1_4,ld_at c3_4,cel_of c3_4,stm_at c3_4,stm_upd,ld_same,cel_same,over],?_⟩
       refine bs_one cBsEnt (by simp[presC]) (by omega) fun b5 h5_ n5 e5 bv5=>?_
       have nn5:=Rf.ne_new rkk4 n5
       have rkk5:=rkk4.ext e5
       have nv5:=Rf.ne_new rv4 n5
       have rvv5:=rv4.ext e5
       have ec5:=ec4.trans e5
       have c1_5:=ec5 _ _ c1
       have c3_5:=ec5 _ _ c3
       refine insEEnt rvv5 (by simp[presC]) bv5 nv5 (by omega) (by omega) (by simp[presC,os.1]) fun vv6 h6_ rv6 kb6=>?_
       have ec6:=eb4.trans rv6.ex
       have c1_6:=ec6 _ _ c1
       have c3_6:=ec6 _ _ c3
       unfold qdhZ
       try simp only[s1,s3,s5,s6,s7]
       exact fin2 _ _ _ ec6 (rk03.ext rv6.ex) (rv6.back eb4) _ (by simp[s6])
      ·
       refine bs_one cBsEnt (by simp[presC]) (by omega) fun b8 h8_ n8 e8 bv8=>?_
       have nn8:=Rf.ne_new rk03 n8
       have rkk8:=rk03.ext e8
       have ec8:=ec3.trans e8
       have c1_8:=ec8 _ _ c1
       have c3_8:=ec8 _ _ c3
       refine⟨by simp[ld_at c1_8,cel_of c1_8,stm_at c1_8,ld_at c3_8,cel_of c3_8,stm_at c3_8,stm_upd,ld_same,cel_same,over],?_⟩
       refine cloneEEnt (l0.ext ec8) x.2.2.2 l2.fone (by omega) fun vv9 h9_ rv9=>?_
       have rkk9:=rkk8.ext rv9.ex
       have nbv9:=Rf.ne_old rv9 bv8
       have bv9:=rv9.ex _ _ bv8
       have eb9:=ec8
       have ec9:=ec8.trans rv9.ex
       have c1_9:=ec9 _ _ c1
       have c3_9:=ec9 _ _ c3
       refine insEEnt rv9 (by simp[presC]) bv9 nbv9 (by omega) (by omega) (by simp[presC,os.1]) fun vv10 h10_ rv10 kb10=>?_
       have ec10:=eb9.trans rv10.ex
       have c1_10:=ec10 _ _ c1
       have c3_10:=ec10 _ _ c3
       unfold qdjZ
       try simp only[s1,s3,s5,s6,s7]
       exact fin2 _ _ _ ec10 (rkk8.ext rv10.ex) (rv10.back eb9) _ (by simp[s6])
     ·
      refine bs_one cBsEnt (by simp[presC]) (by omega) fun b12 h12_ n12 e12 bv12=>?_
      have nn12:=Rf.ne_new rkk2 n12
      have rkk12:=rkk2.ext e12
      have bk12:=e12 _ _ bk2
      have ec12:=ec2.trans e12
      have c1_12:=ec12 _ _ c1
      have c3_12:=ec12 _ _ c3
      refine⟨by simp[ld_at c1_12,cel_of c1_12,stm_at c1_12,ld_at c3_12,cel_of c3_12,stm_at c3_12,stm_upd,ld_same,cel_same,over],?_⟩
      refine insEStr rkk12 rfl bk12 nn2 (by omega) (by omega) (by simp) fun vk13 h13_ rk13 kb13=>?_
      have bv13:=kb13 _ _ bv12 nn12
      have ec13:=eb1.trans rk13.ex
      have rk013:=rk13.back eb1
      have c1_13:=ec13 _ _ c1
      have c3_13:=ec13 _ _ c3
      refine⟨by simp[ld_at c1_13,cel_of c1_13,stm_at c1_13,ld_at c3_13,cel_of c3_13,stm_at c3_13,stm_upd,ld_same,cel_same,over],?_⟩
      refine cloneEEnt (l0.ext ec13) x.2.2.2 l2.fone (by omega) fun vv14 h14_ rv14=>?_
      have rkk14:=rk013.ext rv14.ex
      have nbv14:=Rf.ne_old rv14 bv13
      have bv14:=rv14.ex _ _ bv13
      have eb14:=ec13
      have ec14:=ec13.trans rv14.ex
      have c1_14:=ec14 _ _ c1
      have c3_14:=ec14 _ _ c3
      refine insEEnt rv14 (by simp[presC]) bv14 nbv14 (by omega) (by omega) (by simp[presC,os.1]) fun vv15 h15_ rv15 kb15=>?_
      have ec15:=eb14.trans rv15.ex
      have c1_15:=ec15 _ _ c1
      have c3_15:=ec15 _ _ c3
      unfold qdlZ
      try simp only[s1,s3,s5,s6,s7]
      exact fin2 _ _ _ ec15 (rk013.ext rv15.ex) (rv15.back eb14) _ (by simp[s6])
    ·
     refine bs_one cBsEnt (by simp[presC]) (by omega) fun b17 h17_ n17 e17 bv17=>?_
     have nn17:=Rf.ne_new rk1 n17
     have rkk17:=rk1.ext e17
     have ec17:=ec1.trans e17
     have c1_17:=ec17 _ _ c1
     have c3_17:=ec17 _ _ c3
     refine⟨by simp[ld_at c1_17,cel_of c1_17,stm_at c1_17,ld_at c3_17,cel_of c3_17,stm_at c3_17,stm_upd,ld_same,cel_same,over],?_⟩
     refine bs_one cBsStr (by simp) (by omega) fun b18 h18_ n18 e18 bk18=>?_
     have nn18:=Rf.ne_new rkk17 n18
     have rkk18:=rkk17.ext e18
     have bv18:=e18 _ _ bv17
     have ec18:=ec17.trans e18
     have c1_18:=ec18 _ _ c1
     have c3_18:=ec18 _ _ c3
     refine⟨by simp[ld_at c1_18,cel_of c1_18,stm_at c1_18,ld_at c3_18,cel_of c3_18,stm_at c3_18,stm_upd,ld_same,cel_same,over],?_⟩
     refine insEStr rkk18 rfl bk18 nn18 (by omega) (by omega) (by simp) fun vk19 h19_ rk19 kb19=>?_
     have bv19:=kb19 _ _ bv18 nn17
     have ec19:=eb1.trans rk19.ex
     have rk019:=rk19.back eb1
     have c1_19:=ec19 _ _ c1
     have c3_19:=ec19 _ _ c3
     refine⟨by simp[ld_at c1_19,cel_of c1_19,stm_at c1_19,ld_at c3_19,cel_of c3_19,stm_at c3_19,stm_upd,ld_same,cel_same,over],?_⟩
     refine cloneEEnt (l0.ext ec19) x.2.2.2 l2.fone (by omega) fun vv20 h20_ rv20=>?_
     have rkk20:=rk019.ext rv20.ex
     have nbv20:=Rf.ne_old rv20 bv19
     have bv20:=rv20.ex _ _ bv19
     have eb20:=ec19
     have ec20:=ec19.trans rv20.ex
     have c1_20:=ec20 _ _ c1
     have c3_20:=ec20 _ _ c3
     refine insEEnt rv20 (by simp[presC]) bv20 nbv20 (by omega) (by omega) (by simp[presC,os.1]) fun vv21 h21_ rv21 kb21=>?_
     have ec21:=eb20.trans rv21.ex
     have c1_21:=ec21 _ _ c1
     have c3_21:=ec21 _ _ c3
     unfold qdmZ
     try simp only[s1,s3,s5,s6,s7]
     exact fin2 _ _ _ ec21 (rk019.ext rv21.ex) (rv21.back eb20) _ (by simp[s6])
   ·
    unfold qdwZ
    try simp only[s1,s3,s5,s6,s7]
    refine bs_one cBsStr (by simp) (by omega) fun b23 h23_ n23 e23 bk23=>?_
    have ec23:=ec0.trans e23
    have c1_23:=ec23 _ _ c1
    have c3_23:=ec23 _ _ c3
    refine⟨by simp[ld_at c1_23,cel_of c1_23,stm_at c1_23,ld_at c3_23,cel_of c3_23,stm_at c3_23,stm_upd,ld_same,cel_same,over],?_⟩
    refine⟨by simp[ld_at c1_23,cel_of c1_23,stm_at c1_23,ld_at c3_23,cel_of c3_23,stm_at c3_23,stm_upd,ld_same,cel_same,over],?_⟩
    refine⟨by simp[ld_at c1_23,cel_of c1_23,stm_at c1_23,ld_at c3_23,cel_of c3_23,stm_at c3_23,stm_upd,ld_same,cel_same,over],?_⟩
    refine⟨?_,?_⟩
    ·
     refine cloneEStr (k0.ext ec23) x.2.2.1 k2.fone (by omega) fun vk24 h24_ rk24=>?_
     have nbk24:=Rf.ne_old rk24 bk23
     have bk24:=rk24.ex _ _ bk23
     have eb24:=ec23
     have ec24:=ec23.trans rk24.ex
     have c1_24:=ec24 _ _ c1
     have c3_24:=ec24 _ _ c3
     unfold qduZ
     try simp only[s1,s3,s5,s6,s7]
     refine⟨by simp[ld_at c1_24,cel_of c1_24,stm_at c1_24,ld_at c3_24,cel_of c3_24,stm_at c3_24,stm_upd,ld_same,cel_same,over],?_⟩
     refine⟨by simp[ld_at c1_24,cel_of c1_24,stm_at c1_24,ld_at c3_24,cel_of c3_24,stm_at c3_24,stm_upd,ld_same,cel_same,over],?_⟩
     refine⟨?_,?_⟩
     ·
      refine insEStr rk24 rfl bk24 nbk24 (by omega) (by omega) (by simp) fun vk25 h25_ rk25 kb25=>?_
      have ec25:=eb24.trans rk25.ex
      have rk025:=rk25.back eb24
      have c1_25:=ec25 _ _ c1
      have c3_25:=ec25 _ _ c3
      unfold qdsZ
      try simp only[s1,s3,s5,s6,s7]
      refine⟨by simp[ld_at c1_25,cel_of c1_25,stm_at c1_25,ld_at c3_25,cel_of c3_25,stm_at c3_25,stm_upd,ld_same,cel_same,over],?_⟩
      refine⟨by simp[ld_at c1_25,cel_of c1_25,stm_at c1_25,ld_at c3_25,cel_of c3_25,stm_at c3_25,stm_upd,ld_same,cel_same,over],?_⟩
      refine⟨?_,?_⟩
      ·
       refine cloneEEnt (l0.ext ec25) x.2.2.2 l2.fone (by omega) fun vv26 h26_ rv26=>?_
       have rkk26:=rk025.ext rv26.ex
       have eb26:=ec25
       have ec26:=ec25.trans rv26.ex
       have c1_26:=ec26 _ _ c1
       have c3_26:=ec26 _ _ c3
       unfold qdqZ
       try simp only[s1,s3,s5,s6,s7]
       refine⟨by simp[ld_at c1_26,cel_of c1_26,stm_at c1_26,ld_at c3_26,cel_of c3_26,stm_at c3_26,stm_upd,ld_same,cel_same,over],?_⟩
       refine bs_one cBsEnt (by simp[presC]) (by omega) fun b27 h27_ n27 e27 bv27=>?_
       have nn27:=Rf.ne_new rkk26 n27
       have rkk27:=rkk26.ext e27
       have nv27:=Rf.ne_new rv26 n27
       have rvv27:=rv26.ext e27
       have ec27:=ec26.trans e27
       have c1_27:=ec27 _ _ c1
       have c3_27:=ec27 _ _ c3
       refine insEEnt rvv27 (by simp[presC]) bv27 nv27 (by omega) (by omega) (by simp[presC,os.1]) fun vv28 h28_ rv28 kb28=>?_
       have ec28:=eb26.trans rv28.ex
       have c1_28:=ec28 _ _ c1
       have c3_28:=ec28 _ _ c3
       unfold qdpZ
       try simp only[s1,s3,s5,s6,s7]
       exact fin2 _ _ _ ec28 (rk025.ext rv28.ex) (rv28.back eb26) _ (by simp[s6])
      ·
       refine bs_one cBsEnt (by simp[presC]) (by omega) fun b30 h30_ n30 e30 bv30=>?_
       have nn30:=Rf.ne_new rk025 n30
       have rkk30:=rk025.ext e30
       have ec30:=ec25.trans e30
       have c1_30:=ec30 _ _ c1
       have c3_30:=ec30 _ _ c3
       refine⟨by simp[ld_at c1_30,cel_of c1_30,stm_at c1_30,ld_at c3_30,cel_of c3_30,stm_at c3_30,stm_upd,ld_same,cel_same,over],?_⟩
       refine cloneEEnt (l0.ext ec30) x.2.2.2 l2.fone (by omega) fun vv31 h31_ rv31=>?_
       have rkk31:=rkk30.ext rv31.ex
       have nbv31:=Rf.ne_old rv31 bv30
       have bv31:=rv31.ex _ _ bv30
       have eb31:=ec30
       have ec31:=ec30.trans rv31.ex
       have c1_31:=ec31 _ _ c1
       have c3_31:=ec31 _ _ c3
       refine insEEnt rv31 (by simp[presC]) bv31 nbv31 (by omega) (by omega) (by simp[presC,os.1]) fun vv32 h32_ rv32 kb32=>?_
       have ec32:=eb31.trans rv32.ex
       have c1_32:=ec32 _ _ c1
       have c3_32:=ec32 _ _ c3
       unfold qdrZ
       try simp only[s1,s3,s5,s6,s7]
       exact fin2 _ _ _ ec32 (rkk30.ext rv32.ex) (rv32.back eb31) _ (by simp[s6])
     ·
      refine bs_one cBsEnt (by simp[presC]) (by omega) fun b34 h34_ n34 e34 bv34=>?_
      have nn34:=Rf.ne_new rk24 n34
      have rkk34:=rk24.ext e34
      have bk34:=e34 _ _ bk24
      have ec34:=ec24.trans e34
      have c1_34:=ec34 _ _ c1
      have c3_34:=ec34 _ _ c3
      refine⟨by simp[ld_at c1_34,cel_of c1_34,stm_at c1_34,ld_at c3_34,cel_of c3_34,stm_at c3_34,stm_upd,ld_same,cel_same,over],?_⟩
      refine insEStr rkk34 rfl bk34 nbk24 (by omega) (by omega) (by simp) fun vk35 h35_ rk35 kb35=>?_
      have bv35:=kb35 _ _ bv34 nn34
      have ec35:=eb24.trans rk35.ex
      have rk035:=rk35.back eb24
      have c1_35:=ec35 _ _ c1
      have c3_35:=ec35 _ _ c3
      refine⟨by simp[ld_at c1_35,cel_of c1_35,stm_at c1_35,ld_at c3_35,cel_of c3_35,stm_at c3_35,stm_upd,ld_same,cel_same,over],?_⟩
      refine cloneEEnt (l0.ext ec35) x.2.2.2 l2.fone (by omega) fun vv36 h36_ rv36=>?_
      have rkk36:=rk035.ext rv36.ex
      have nbv36:=Rf.ne_old rv36 bv35
      have bv36:=rv36.ex _ _ bv35
      have eb36:=ec35
      have ec36:=ec35.trans rv36.ex
      have c1_36:=ec36 _ _ c1
      have c3_36:=ec36 _ _ c3
      refine insEEnt rv36 (by simp[presC]) bv36 nbv36 (by omega) (by omega) (by simp[presC,os.1]) fun vv37 h37_ rv37 kb37=>?_
      have ec37:=eb36.trans rv37.ex
      have c1_37:=ec37 _ _ c1
      have c3_37:=ec37 _ _ c3
      unfold qdtZ
      try simp only[s1,s3,s5,s6,s7]
      exact fin2 _ _ _ ec37 (rk035.ext rv37.ex) (rv37.back eb36) _ (by simp[s6])
    ·
     refine bs_one cBsEnt (by simp[presC]) (by omega) fun b39 h39_ n39 e39 bv39=>?_
     have bk39:=e39 _ _ bk23
     have ec39:=ec23.trans e39
     have c1_39:=ec39 _ _ c1
     have c3_39:=ec39 _ _ c3
     refine⟨by simp[ld_at c1_39,cel_of c1_39,stm_at c1_39,ld_at c3_39,cel_of c3_39,stm_at c3_39,stm_upd,ld_same,cel_same,over],?_⟩
     refine⟨by simp[ld_at c1_39,cel_of c1_39,stm_at c1_39,ld_at c3_39,cel_of c3_39,stm_at c3_39,stm_upd,ld_same,cel_same,over],?_⟩
     refine cloneEStr (k0.ext ec39) x.2.2.1 k2.fone (by omega) fun vk40 h40_ rk40=>?_
     have nbk40:=Rf.ne_old rk40 bk39
     have bk40:=rk40.ex _ _ bk39
     have nx40:=Rf.ne_old rk40 bv39
     have bv40:=rk40.ex _ _ bv39
     have eb40:=ec39
     have ec40:=ec39.trans rk40.ex
     have c1_40:=ec40 _ _ c1
     have c3_40:=ec40 _ _ c3
     refine⟨by simp[ld_at c1_40,cel_of c1_40,stm_at c1_40,ld_at c3_40,cel_of c3_40,stm_at c3_40,stm_upd,ld_same,cel_same,over],?_⟩
     refine insEStr rk40 rfl bk40 nbk40 (by omega) (by omega) (by simp) fun vk41 h41_ rk41 kb41=>?_
     have bv41:=kb41 _ _ bv40 nx40
     have ec41:=eb40.trans rk41.ex
     have rk041:=rk41.back eb40
     have c1_41:=ec41 _ _ c1
     have c3_41:=ec41 _ _ c3
     refine⟨by simp[ld_at c1_41,cel_of c1_41,stm_at c1_41,ld_at c3_41,cel_of c3_41,stm_at c3_41,stm_upd,ld_same,cel_same,over],?_⟩
     refine cloneEEnt (l0.ext ec41) x.2.2.2 l2.fone (by omega) fun vv42 h42_ rv42=>?_
     have rkk42:=rk041.ext rv42.ex
     have nbv42:=Rf.ne_old rv42 bv41
     have bv42:=rv42.ex _ _ bv41
     have eb42:=ec41
     have ec42:=ec41.trans rv42.ex
     have c1_42:=ec42 _ _ c1
     have c3_42:=ec42 _ _ c3
     refine insEEnt rv42 (by simp[presC]) bv42 nbv42 (by omega) (by omega) (by simp[presC,os.1]) fun vv43 h43_ rv43 kb43=>?_
     have ec43:=eb42.trans rv43.ex
     have c1_43:=ec43 _ _ c1
     have c3_43:=ec43 _ _ c3
     unfold qdvZ
     try simp only[s1,s3,s5,s6,s7]
     exact fin2 _ _ _ ec43 (rk041.ext rv43.ex) (rv43.back eb42) _ (by simp[s6])
   ·
    unfold qdAZ
    try simp only[s1,s3,s5,s6,s7]
    refine bs_one cBsEnt (by simp[presC]) (by omega) fun b45 h45_ n45 e45 bv45=>?_
    have ec45:=ec0.trans e45
    have c1_45:=ec45 _ _ c1
    have c3_45:=ec45 _ _ c3
    refine⟨by simp[ld_at c1_45,cel_of c1_45,stm_at c1_45,ld_at c3_45,cel_of c3_45,stm_at c3_45,stm_upd,ld_same,cel_same,over],?_⟩
    refine⟨by simp[ld_at c1_45,cel_of c1_45,stm_at c1_45,ld_at c3_45,cel_of c3_45,stm_at c3_45,stm_upd,ld_same,cel_same,over],?_⟩
    refine⟨?_,?_⟩
    ·
     refine cloneEStr (k0.ext ec45) x.2.2.1 k2.fone (by omega) fun vk46 h46_ rk46=>?_
     have nx46:=Rf.ne_old rk46 bv45
     have bv46:=rk46.ex _ _ bv45
     have eb46:=ec45
     have ec46:=ec45.trans rk46.ex
     have c1_46:=ec46 _ _ c1
     have c3_46:=ec46 _ _ c3
     unfold qdyZ
     try simp only[s1,s3,s5,s6,s7]
     refine⟨by simp[ld_at c1_46,cel_of c1_46,stm_at c1_46,ld_at c3_46,cel_of c3_46,stm_at c3_46,stm_upd,ld_same,cel_same,over],?_⟩
     refine bs_one cBsStr (by simp) (by omega) fun b47 h47_ n47 e47 bk47=>?_
     have nn47:=Rf.ne_new rk46 n47
     have rkk47:=rk46.ext e47
     have bv47:=e47 _ _ bv46
     have ec47:=ec46.trans e47
     have c1_47:=ec47 _ _ c1
     have c3_47:=ec47 _ _ c3
     refine⟨by simp[ld_at c1_47,cel_of c1_47,stm_at c1_47,ld_at c3_47,cel_of c3_47,stm_at c3_47,stm_upd,ld_same,cel_same,over],?_⟩
     refine insEStr rkk47 rfl bk47 nn47 (by omega) (by omega) (by simp) fun vk48 h48_ rk48 kb48=>?_
     have bv48:=kb48 _ _ bv47 nx46
     have ec48:=eb46.trans rk48.ex
     have rk048:=rk48.back eb46
     have c1_48:=ec48 _ _ c1
     have c3_48:=ec48 _ _ c3
     refine⟨by simp[ld_at c1_48,cel_of c1_48,stm_at c1_48,ld_at c3_48,cel_of c3_48,stm_at c3_48,stm_upd,ld_same,cel_same,over],?_⟩
     refine cloneEEnt (l0.ext ec48) x.2.2.2 l2.fone (by omega) fun vv49 h49_ rv49=>?_
     have rkk49:=rk048.ext rv49.ex
     have nbv49:=Rf.ne_old rv49 bv48
     have bv49:=rv49.ex _ _ bv48
     have eb49:=ec48
     have ec49:=ec48.trans rv49.ex
     have c1_49:=ec49 _ _ c1
     have c3_49:=ec49 _ _ c3
     refine insEEnt rv49 (by simp[presC]) bv49 nbv49 (by omega) (by omega) (by simp[presC,os.1]) fun vv50 h50_ rv50 kb50=>?_
     have ec50:=eb49.trans rv50.ex
     have c1_50:=ec50 _ _ c1
     have c3_50:=ec50 _ _ c3
     unfold qdxZ
     try simp only[s1,s3,s5,s6,s7]
     exact fin2 _ _ _ ec50 (rk048.ext rv50.ex) (rv50.back eb49) _ (by simp[s6])
    ·
     refine bs_one cBsStr (by simp) (by omega) fun b52 h52_ n52 e52 bk52=>?_
     have bv52:=e52 _ _ bv45
     have ec52:=ec45.trans e52
     have c1_52:=ec52 _ _ c1
     have c3_52:=ec52 _ _ c3
     refine⟨by simp[ld_at c1_52,cel_of c1_52,stm_at c1_52,ld_at c3_52,cel_of c3_52,stm_at c3_52,stm_upd,ld_same,cel_same,over],?_⟩
     refine⟨by simp[ld_at c1_52,cel_of c1_52,stm_at c1_52,ld_at c3_52,cel_of c3_52,stm_at c3_52,stm_upd,ld_same,cel_same,over],?_⟩
     refine cloneEStr (k0.ext ec52) x.2.2.1 k2.fone (by omega) fun vk53 h53_ rk53=>?_
     have nbk53:=Rf.ne_old rk53 bk52
     have bk53:=rk53.ex _ _ bk52
     have nx53:=Rf.ne_old rk53 bv52
     have bv53:=rk53.ex _ _ bv52
     have eb53:=ec52
     have ec53:=ec52.trans rk53.ex
     have c1_53:=ec53 _ _ c1
     have c3_53:=ec53 _ _ c3
     refine⟨by simp[ld_at c1_53,cel_of c1_53,stm_at c1_53,ld_at c3_53,cel_of c3_53,stm_at c3_53,stm_upd,ld_same,cel_same,over],?_⟩
     refine insEStr rk53 rfl bk53 nbk53 (by omega) (by omega) (by simp) fun vk54 h54_ rk54 kb54=>?_
     have bv54:=kb54 _ _ bv53 nx53
     have ec54:=eb53.trans rk54.ex
     have rk054:=rk54.back eb53
     have c1_54:=ec54 _ _ c1
     have c3_54:=ec54 _ _ c3
     refine⟨by simp[ld_at c1_54,cel_of c1_54,stm_at c1_54,ld_at c3_54,cel_of c3_54,stm_at c3_54,stm_upd,ld_same,cel_same,over],?_⟩
     refine cloneEEnt (l0.ext ec54) x.2.2.2 l2.fone (by omega) fun vv55 h55_ rv55=>?_
     have rkk55:=rk054.ext rv55.ex
     have nbv55:=Rf.ne_old rv55 bv54
     have bv55:=rv55.ex _ _ bv54
     have eb55:=ec54
     have ec55:=ec54.trans rv55.ex
     have c1_55:=ec55 _ _ c1
     have c3_55:=ec55 _ _ c3
     refine insEEnt rv55 (by simp[presC]) bv55 nbv55 (by omega) (by omega) (by simp[presC,os.1]) fun vv56 h56_ rv56 kb56=>?_
     have ec56:=eb55.trans rv56.ex
     have c1_56:=ec56 _ _ c1
     have c3_56:=ec56 _ _ c3
     unfold qdzZ
     try simp only[s1,s3,s5,s6,s7]
     exact fin2 _ _ _ ec56 (rk054.ext rv56.ex) (rv56.back eb55) _ (by simp[s6])
  unfold qdMZ
  simp -implicitDefEqProofs only[thenM_n]
  unfold qaNZ
  rw[seqM_eq]
  refine main _ ?_ ?_ ?_ ?_ ?_<;>simp
end Go.Proofs.YtmbningljbcpkaaGreat
namespace Go.Proofs.YtmbningljbcpkaaGreat
open Go Go.Den Go.MapKept
set_option linter.unusedSimpArgs false
set_option linter.unusedVariables false
set_option maxRecDepth 20000
def WsR (h:Heap)(k v:Value)(b:List (ByteArray × Int)):Prop:=Sl 1 StrR h k (b.map (·.1))∧Sl 1 MaskR h v (b.map (·.2))∧Sn k∧Sn v
variable {K:KTy}
theorem mfind_ok (l:List ByteArray)(so:SrtK l)(u:ByteArray){h:Heap}{kw vw:Value}(ov_:vw.cells=#[vw])(x:Sl 1 StrR h kw l)(hl:l.length<1000000)(hk:∀ h',Ext h h'→K (.tuple #[.int .i64 (pos l u),.bool (l.any fun k=>decide (k=u))]) h') :
  callM P qbNZ #[.agg #[kw,vw],.string u] h K:=by
 apply qocZ
 unfold qcqZ
 refine nw_agg fun v1 h1 n1 e1 c1=>?_
 simp -implicitDefEqProofs[ld_at c1,cel_of c1,stm_at c1,stm_upd,ld_same,cel_same,over]
 refine bs_ok l so u (x.ext (@StrR.ext) e1) hl ?_
 simp -implicitDefEqProofs
 exact hk _ e1
end Go.Proofs.YtmbningljbcpkaaGreat
namespace Go.Den
open Go
set_option linter.unusedVariables false
variable {P:Program}{g:Nat→Bool}
theorem rf_itL (hg:GoodP P g)(hm:P.follows .mixedOrders=true){gv:Value}{gf:FuncId}{lb:Array Value}{xs:List (Array Value)}{hA:Heap}(hgv:gv = .func (.func gf) #[] lb)(hgf:g gf=true)(it:It P gf lb xs hA)
  {ps:Array Tmp} {zas bd:Code} {m:List Nat} {s:Env} {h:Heap} {Q:Post} (J:Nat→Nat→Nat→Heap→Prop) (S:Nat→Nat→Exit→Heap→Prop)
  (h0:∀ l b,h l=none→h b=none→J l b 0 h) (hx:∀ l b i h',J l b i h'→Ext hA h') (hk:∀ l b,h l=none→h b=none→∀ i h' h'',J l b i h'→Keep (some l) h' h''→J l b i h'') (hkS:∀ l b,h l=none→h b=none→∀ e h' h'',S l b e h'→Keep (some l) h' h''→S l b e h'')
  (hsz:∀ i (hi:i<xs.length),xs[i].size=ps.size)
  (round:∀ i (hi:i<xs.length) l b h' h2,h l=none→h b=none→J l b i h'→Keep (some l) h' h2→(∃ o,h2 l=some o)→(∃ o,h2 b=some o) →
   ∃ A:List Nat→Env→Heap→Prop,(∀ m2 s2 h3 h4,A m2 s2 h3→Keep (some l) h3 h4→A m2 s2 h4) ∧
    den P g zas [] (puts s (ps.toList.zip xs[i].toList)) h2 (fun e m2 s2 h3=>e = .normal∧A m2 s2 h3∧h3 l=h2 l∧h3 b=h2 b) ∧
    ∀ m2 s2 h3,A m2 s2 h3→(∃ o,h3 l=some o)→(∃ o,h3 b=some o) →
     den P g bd m2 s2 h3 (fun e _ _ h4=>h4 l=h3 l∧h4 b=h3 b∧match e with
      | .normal=>J l b (i+1) h4
      | .ret=>S l b .ret h4
      | .exit id=>S l b (.exit id) h4
      | _=>False))
  (hend:∀ l b h',h l=none→l≠b→h b=none→h' b=some (.deferred (some []))→J l b xs.length h'→Q .normal (b::m) s h')
  (hret:∀ l b h',h l=none→l≠b→h b=none→h' b=some (.deferred (some []))→S l b .ret h'→Q .ret (b::m) s h')
  (hexit:∀ id l b h',h l=none→l≠b→h b=none→h' b=some (.deferred (some []))→S l b (.exit id) h'→Q (.exit id) (b::m) s h'):rfM P g gv ps zas bd m s h Q:=by
 refine⟨gf,lb,hgv,hgf,fun fn tmps b l hs hf hb hl hlb=>?_⟩
 obtain⟨R,hR⟩:∃ R:Loop,R={ state:=.ready,pending:=none,fn,tmps,params:=ps,assign:=zas,body:=bd,defers:=b }:=⟨_,rfl⟩
 rw[← hR]
 have hfb:fz (fun _=>[]) h=h:=fz_nil h
 let I:Nat→Heap→Prop:=fun i h'=>J l b i h'∧h' b=some (.deferred (some []))∧h' l=some (.loop R)
 let St:Heap→Prop:=fun h'=>h' b=some (.deferred (some []))∧((∃ r:Loop,h' l=some (.loop r)∧r.state = .done∧r.pending=some .ret∧S l b .ret h')∨(∃ id,∃ r:Loop,h' l=some (.loop r)∧r.state = .done∧r.pending=some (.exit id)∧S l b (.exit id) h'))
 have e1:Ext h (upd (upd h b (.deferred (some []))) l (.loop R)):=ext_upd hl (Ext.upd hb _)
 have start:I 0 (upd (upd h b (.deferred (some []))) l (.loop R)):=by
  refine⟨hk l b hl hb 0 h _ (h0 l b hl hb) fun k o e _=>e1 k o e,?_,upd_same' _ _ _⟩
  rw[upd_ne (Ne.symm hlb),upd_same']
 refine it (.func (.yield l) #[] #[]) I St _ _ (fun i h' hi=>hx l b i h' hi.1) (fun i h' h'' hi e=>⟨hk l b hl hb i h' h'' hi.1 fun k o ek _=>e k o ek,e _ _ hi.2.1,e _ _ hi.2.2⟩) start ?_ ?_ ?_
 ·intro i hi h' K' hI hK1 hK2
  obtain⟨hJ,hb',hl'⟩:=hI
  have hps:ps=R.params:=by rw[hR]
  refine nx_yield hl' (by rw[hsz i hi,hps]) ?_
  simp only[Bool.and_eq_true] at hf
  obtain⟨⟨⟨⟨f1,f2⟩,f3⟩,f4⟩,f5⟩:=hf
  have hR1:R.params=ps:=hps.symm
  have hR2:R.tmps=tmps:=by rw[hR]
  have hR3:R.assign=zas:=by rw[hR]
  have hR4:R.body=bd:=by rw[hR]
  have hR5:R.state = .ready:=by rw[hR]
  rw[hR1,hR2,hR3,hR4]
  have hfold:(ps.zip xs[i]).foldl (fun tmps (t,a)=>tmps.setIfInBounds t a) tmps=(ps.toList.zip xs[i].toList).foldl (fun tmps (x:Tmp × Value)=>tmps.setIfInBounds x.1 x.2) tmps:=by
   rw[← Array.foldl_toList,Array.toList_zip]
  rw[hfold]
  obtain⟨g1,g2⟩:=getD_fold (ps:=ps.toList) (xs:=xs[i].toList) hs f1
  obtain⟨A,a1,a2,a3⟩:=round i hi l b h' h' hl hb hJ (fun k o e _=>e) ⟨_,hl'⟩ ⟨_,hb'⟩
  refine round_of_den2 hg hm g1 (by rw[g2]; simp[f2,f3,f4,f5]) a2 (fun m2 s2 h2 hq=>?_) (fun e m2 s2 h2 he hq=>he hq.1)
  obtain⟨_,hA2,hl2,hb2⟩:=hq
  have hl2':h2 l=some (.loop R):=by rw[hl2]; exact hl'
  have hb2':h2 b=some (.deferred (some [])):=by rw[hb2]; exact hb'
  refine⟨R,hl2',hR5,_,a3 m2 s2 _ (a1 _ _ _ _ hA2 keep_upd) ⟨_,upd_same' _ _ _⟩ ⟨_,by rw[upd_ne (Ne.symm hlb)]; exact hb2'⟩,fun e m4 s4 h4 hq=>?_⟩
  obtain⟨hl4,hb4,hq⟩:=hq
  rw[upd_same'] at hl4
  rw[upd_ne (Ne.symm hlb)] at hb4
  have hb4':h4 b=some (.deferred (some [])):=by rw[hb4]; exact hb2'
  refine⟨_,hl4,?_⟩
  cases e with
  | normal =>
   refine hK1 _ ⟨hk l b hl hb _ _ _ hq keep_upd,by rw[upd_ne (Ne.symm hlb)]; exact hb4',?_⟩
   rw[upd_same',hR]
  | ret =>
   refine hK2 _ ⟨by rw[upd_ne (Ne.symm hlb)]; exact hb4',.inl ⟨_,upd_same' _ _ _,rfl,rfl,hkS l b hl hb _ _ _ hq keep_upd⟩⟩
  | exit id =>
   refine hK2 _ ⟨by rw[upd_ne (Ne.symm hlb)]; exact hb4',.inr ⟨id,_,upd_same' _ _ _,rfl,rfl,hkS l b hl hb _ _ _ hq keep_upd⟩⟩
  | _=>exact hq.elim
 ·intro v h' hI
  refine⟨R,hI.2.2,by rw[hR]; simp,?_⟩
  have:R.pending=none:=by rw[hR]
  rw[this]
  exact hend l b _ hl hlb hb (by rw[upd_ne (Ne.symm hlb)]; exact hI.2.1) (hk l b hl hb _ _ _ hI.1 keep_upd)
 ·intro v h' hS
  obtain⟨hb',hS⟩:=hS
  rcases hS with ⟨r,hl',hst,hp,hs'⟩ | ⟨id,r,hl',hst,hp,hs'⟩
  ·refine⟨r,hl',by rw[hst]; simp,?_⟩
   rw[hp]
   exact hret l b _ hl hlb hb (by rw[upd_ne (Ne.symm hlb)]; exact hb') (hkS l b hl hb _ _ _ hs' keep_upd)
  ·refine⟨r,hl',by rw[hst]; simp,?_⟩
   rw[hp]
   exact hexit id l b _ hl hlb hb (by rw[upd_ne (Ne.symm hlb)]; exact hb') (hkS l b hl hb _ _ _ hs' keep_upd)
theorem rf_go (hg : GoodP P g) (hm : P.follows .mixedOrders = true) {gv : Value} {gf : FuncId} {lb : Array Value} {xs : List (Array Value)} {hA : Heap} (hgv : gv = .func (.func gf) #[] lb) (hgf : g gf = true) (it : It P gf lb xs hA)
    {ps : Array Tmp} {zas bd : Code} {m : List Nat} {s : Env} {h : Heap} {Q : Post} (J : Nat → Nat → Nat → Heap → Prop) (S : Nat → Nat → Exit → Heap → Prop) (C : Nat → Nat → Nat → Env → Heap → Prop)
    (h0 : ∀ l b, h l = none → h b = none → J l b 0 h) (hx : ∀ l b i h', J l b i h' → Ext hA h') (hk : ∀ l b, h l = none → h b = none → ∀ i h' h'', J l b i h' → Keep (some l) h' h'' → J l b i h'') (hkS : ∀ l b, h l = none → h b = none → ∀ e h' h'', S l b e h' → Keep (some l) h' h'' → S l b e h'')
    (hC : ∀ l b i s2 h3 h4, h l = none → h b = none → C l b i s2 h3 → Keep (some l) h3 h4 → C l b i s2 h4)
    (hsz : ∀ i (hi : i < xs.length), xs[i].size = ps.size)
    (asg : ∀ i (hi : i < xs.length) l b h2, h l = none → h b = none → (∃ o, h2 l = some o) → (∃ o, h2 b = some o) → J l b i h2 →
      den P g zas [] (puts s (ps.toList.zip xs[i].toList)) h2 (fun e m2 s2 h3 => e = .normal ∧ (m2 = [] ∧ C l b i s2 h3) ∧ h3 l = h2 l ∧ h3 b = h2 b))
    (body : ∀ i (hi : i < xs.length) l b s2 h3, h l = none → h b = none → (∃ o, h3 l = some o) → (∃ o, h3 b = some o) → C l b i s2 h3 →
      den P g bd [] s2 h3 (fun e _ _ h4 => h4 l = h3 l ∧ h4 b = h3 b ∧ match e with
            | .normal => J l b (i + 1) h4
            | .ret => S l b .ret h4
            | .exit id => S l b (.exit id) h4
            | _ => False))
    (hend : ∀ l b h', h l = none → l ≠ b → h b = none → h' b = some (.deferred (some [])) → J l b xs.length h' → Q .normal (b :: m) s h')
    (hret : ∀ l b h', h l = none → l ≠ b → h b = none → h' b = some (.deferred (some [])) → S l b .ret h' → Q .ret (b :: m) s h')
    (hexit : ∀ id l b h', h l = none → l ≠ b → h b = none → h' b = some (.deferred (some [])) → S l b (.exit id) h' → Q (.exit id) (b :: m) s h') : rfM P g gv ps zas bd m s h Q := by
  refine rf_itL hg hm hgv hgf it J S h0 hx hk hkS hsz (fun i hi l b h' h2 hl hb hJ hkp hl2 hb2 => ?_) hend hret hexit
  refine ⟨fun m2 s2 h3 => m2 = [] ∧ C l b i s2 h3, fun m2 s2 h3 h4 hc hkp => ⟨hc.1, hC l b i s2 h3 h4 hl hb hc.2 hkp⟩, ?_, fun m2 s2 h3 hc hl3 hb3 => ?_⟩
  · exact asg i hi l b h2 hl hb hl2 hb2 (hk l b hl hb i h' h2 hJ hkp)
  · obtain ⟨rfl, hc⟩ := hc
    exact body i hi l b s2 h3 hl hb hl3 hb3 hc
end Go.Den
namespace Go.Proofs.YtmbningljbcpkaaGreat
open Go Go.Den Go.MapKept
set_option linter.unusedSimpArgs false
set_option linter.unusedVariables false
set_option maxRecDepth 20000
theorem mask_at {F:Heap}{v:Value}{l:List Int}(x:Sl 1 MaskR F v l){i:Nat}(hi:i<l.length){k:IntKind}:∃ b p,iaV (some (none,1)) v (.int k i)=some (.pointer (some ⟨b,p,none⟩))∧∀ h',Ext F h'→cel h' b p=some (.int .u32 l[i]):=by
 obtain⟨b,p,c,h1,h2,h3⟩:=x.at (k:=k) (i:=i) (by omega) (by omega)
 refine⟨b,p,h1,fun h' e=>?_⟩
 have hc:c=[.int .u32 l[i]]:=h3
 subst hc
 have:=(cels_get (cels_ext e h2)).2 0 (by simp)
 simpa using this
variable {K:KTy}
theorem mget_ok (b:List (ByteArray × Int))(so:SrtK (keysL b))(u:ByteArray){F h:Heap}(eF:Ext F h){kw vw:Value}(x:WsR F kw vw b)(hl:b.length<1000000)
  (hk:∀ h',Ext h h'→K (.tuple #[.int .u32 (valL 0 b u),.bool (hasL b u)]) h'):callM P qcpZ #[.agg #[kw,vw],.string u] h K:=by
 apply qpjZ
 unfold qcJZ
 refine nw_agg fun v1 h1 n1 e1 c1=>?_
 simp -implicitDefEqProofs[ld_at c1,cel_of c1,stm_at c1,stm_upd,ld_same,cel_same,over]
 refine mfind_ok (keysL b) so u x.2.1.one.2 (x.1.ext (@StrR.ext) (eF.trans e1)) (by simpa [keysL] using hl) fun h6 e6=>?_
 have c1:=e6 _ _ c1
 have e0:=e1.trans e6
 unfold qftZ
 simp -implicitDefEqProofs only[exV_0,exV_1,ov_s,unV_n,cd_b]
 refine⟨fun hn=>?_,fun hy=>?_⟩
 ·have hno':hasL b u=false:=by
   have h2:(!hasL b u)=true:=hn
   cases h3:hasL b u with
   | false=>rfl
   | true=>rw[h3] at h2; cases h2
  have hno:u ∉ keysL b:=fun hh=>by rw[hasL_iff.2 hh] at hno'; cases hno'
  exact kv (hk _ e0) (by rw[valL_none hno,hno'])
 ·have hyes:hasL b u=true:=by
   have h2:(!hasL b u)=false:=hy
   cases h3:hasL b u with
   | true=>rfl
   | false=>rw[h3] at h2; cases h2
  obtain⟨h1,h2⟩:=(mem_pos so u).1 (hasL_iff.1 hyes)
  have hlen:(keysL b).length=b.length:=by simp[keysL]
  have hp:pos (keysL b) u<b.length:=by omega
  have hu:b[pos (keysL b) u].1=u:=by simpa [keysL] using h2
  have he:valL 0 b u=b[pos (keysL b) u].2:=by
   have:=valL_mem (d:=0) so hp
   rw[hu] at this; exact this
  obtain⟨eb,eo,i1,i2⟩:=mask_at x.2.1 (k:=.i64) (i:=pos (keysL b) u) (by simpa using hp)
  have i2:=i2 _ (eF.trans e0)
  unfold qfsZ
  simp -implicitDefEqProofs[ld_at c1,cel_of c1,stm_at c1,stm_upd,ld_same,cel_same,over,i1,i2]
  exact kv (hk _ e0) (by rw[hyes,he])
theorem without_ok (b:Book)(so:SrtK (keysL b))(u:ByteArray){T:Tags}{h:Heap}(w:Wf T h){kw vw:Value}(x:BookR (fz T h) kw vw b)(hl:b.length<1000000)
  (hk:∀ h' k v,Ext h h'→BookR (fz T h') k v (delB b u)→K (.agg #[k,v]) h'):callM P qaAZ #[.agg #[kw,vw],.string u] h K:=by
 apply qjTZ
 unfold qaLZ
 rw[zcMap]
 refine nw_agg fun v1 h1 n1 e1 c1=>?_
 refine nw_intro fun v3 h3 n3 e3 c3=>?_
 have c1:=e3 _ _ c1
 have n3:=fresh_of e1 n3
 have e0:=e1.trans e3
 have kl:(keysL b).length=b.length:=by simp[keysL]
 have o1:=x.1.one
 have o2:=x.2.1.one
 simp -implicitDefEqProofs[ld_at c1,cel_of c1,stm_at c1,stm_upd,ld_same,cel_same,over]
 refine find_ok (keysL b) so u x.2.1.one.2 (x.1.ext (@StrR.ext) ((fz_ext T h).trans e0)) (by omega) fun h6 e6=>?_
 have c1:=e6 _ _ c1
 have c3:=e6 _ _ c3
 have e0:=e0.trans e6
 unfold qcBZ
 simp -implicitDefEqProofs only[exV_0,exV_1,ov_s,unV_n,cd_b]
 obtain⟨Lk,k1,k2⟩:=x.1.els StrR.one
 obtain⟨Lv,l1,l2⟩:=x.2.1.els EntR.one
 simp -implicitDefEqProofs only[List.length_map] at k1 l1
 refine⟨fun hn=>?_,fun hy=>?_⟩
 ·have hno':hasL b u=false:=by
   have:(!hasL b u)=true:=hn
   simpa using this
  have hno:u ∉ keysL b:=fun hh=>by rw[hasL_iff.2 hh] at hno'; cases hno'
  simp -implicitDefEqProofs[ld_at c1,cel_of c1,stm_at c1,ld_at c3,cel_of c3,stm_at c3,stm_upd,ld_same,cel_same,over,o1.1,o2.1]
  refine hk _ kw vw (ext_upd n3 e0) ?_
  rw[delB_none hno]
  exact x.ext (fz_of_ext (ext_upd n3 e0))
 ·have hyes:hasL b u=true:=by
   have:(!hasL b u)=false:=hy
   simpa using this
  have hmem:=hasL_iff.1 hyes
  obtain⟨p1,p2⟩:=(mem_pos so u).1 hmem
  have del:delB b u=b.take (pos (keysL b) u)++b.drop (pos (keysL b) u+1):=delB_has so hmem
  have hpb:pos (keysL b) u<b.length:=by omega
  obtain⟨p,hp⟩:∃ p,pos (keysL b) u=p:=⟨_,rfl⟩
  rw[hp] at hpb del ⊢
  have w1:IntKind.i64.wrap ((p:Int)+1)=(p+1:Nat):=by rw[wrap64_id (by omega) (by omega)]; omega
  unfold qcAZ
  simp -implicitDefEqProofs[ld_at c1,cel_of c1,stm_at c1,stm_upd,ld_same,cel_same,over,w1,-Int.natCast_add]
  refine cloneEStr (k1.ext ((fz_ext T h).trans e0)) x.2.2.1 k2.fone (by omega) fun k' h7 r7=>?_
  have c1:=r7.ex _ _ c1
  unfold qczZ
  simp -implicitDefEqProofs only[ldV_c,cel_of c1,List.getElem?_toArray,List.getElem?_cons_succ,List.getElem?_cons_zero,true_and]
  refine delEStr r7 hpb (by omega) fun k'' h8 r8=>?_
  have c1':=r8.ex _ _ (e6 _ _ (e3 _ _ ‹_›))
  have c3:=r8.ex _ _ c3
  have c1:=c1'
  simp -implicitDefEqProofs only[ldV_c,cel_of c1,List.getElem?_toArray,List.getElem?_cons_succ,List.getElem?_cons_zero,true_and]
  have e8:=e0.trans r8.ex
  refine cloneEEnt (l1.ext ((fz_ext T h).trans e8)) x.2.2.2 l2.fone (by omega) fun v' h9 r9=>?_
  refine delEEnt r9 hpb (by omega) fun v'' ha ra=>?_
  unfold qcyZ
  have c3:=ra.ex _ _ c3
  have rk:=(r8.back e0).ext ra.ex
  have rv:=ra.back e8
  have nk:rowOf k''≠some v3:=Rf.ne_old r8 ‹_›
  have nv:rowOf v''≠some v3:=Rf.ne_old ra ‹_›
  have u1:=rk.row.one
  have u2:=rv.row.one
  have e9:=ext_upd (o:=.cells #[k'',v''] qaZ (0,0)) n3 (e8.trans ra.ex)
  have rk9:=rk.skip (o:=.cells #[k'',v''] qaZ (0,0)) n3 nk
  have rv9:=rv.skip (o:=.cells #[k'',v''] qaZ (0,0)) n3 nv
  have k3:=k2.ext (@StrR.ext) (fz_of_ext e9)
  have l3:=l2.ext (@EntR.ext) (fz_of_ext e9)
  simp -implicitDefEqProofs[bdMapS (row_sl rk.row) (row_sl rv.row),ld_at c3,cel_of c3,stm_at c3,stm_upd,ld_same,cel_same,over,u1.1,u2.1]
  refine hk _ k'' v'' e9 ⟨?_,?_,rk.row.sn,rv.row.sn⟩
  ·rw[k2.ftake,k2.fdrop,← List.flatten_append] at rk9
   rw[del]
   simp -implicitDefEqProofs only[List.map_append,List.map_take,List.map_drop]
   exact rk9.sl w (by simp; omega) ((k3.take p).app (k3.drop (p+1)))
  ·rw[l2.ftake,l2.fdrop,← List.flatten_append] at rv9
   rw[del]
   simp -implicitDefEqProofs only[List.map_append,List.map_take,List.map_drop]
   exact rv9.sl w (by simp; omega) ((l3.take p).app (l3.drop (p+1)))
def allX (b:Book)(Lv:List (List Value)):List (Array Value):=(List.range b.length).map fun i=>#[.string (b.getD i (⟨#[]⟩,ent0)).1,.agg (Lv.getD i []).toArray]
theorem all_it (b : Book) {hA : Heap} {p : Nat} {kw vw : Value} {Lv : List (List Value)} (cp : hA p = some (.cells #[kw, vw] qaZ (0, 0))) (x : BookR hA kw vw b) (l1 : SlC 4 hA vw b.length Lv.flatten) (l2 : ∀ c ∈ Lv, c.length = 4) (l3 : Lv.length = b.length) :
    It P qMZ #[ptr p] (allX b Lv) hA := by
  intro yv I S h K hx hs h0 hround hK1 hK2
  apply qjXZ
  unfold qaSZ
  have ca0 := hx _ _ h0 _ _ cp
  have hlen := x.1.len
  simp -implicitDefEqProofs [ld_at ca0, cel_of ca0, stm_at ca0, stm_upd, ld_same, cel_same, over, hlen]
  refine loop_on [0, 1, 6, 7] (fun s h' => ∃ k : Nat, k ≤ b.length ∧ s 8 = .int .i64 k ∧ I k h') (fun s _ => (b.length - num (s 8)).toNat) ⟨0, by omega, rfl, h0⟩ ?_
  rintro s h1 hf ⟨k, hk, s8, hI⟩
  have s0 : s 0 = yv := by simpa using hf 0 (by simp)
  have s1 : s 1 = ptr p := by simpa using hf 1 (by simp)
  have s6 : s 6 = kw := by simpa using hf 6 (by simp)
  have s7 : s 7 = .int .i64 b.length := by simpa using hf 7 (by simp)
  unfold qcPZ
  simp -implicitDefEqProofs only [s8, s7, bin_lss, ov_s, cd_b]
  refine ⟨fun hc => ?_, fun hc => ?_⟩
  rotate_left
  · have : k = b.length := by have : ¬ ((k : Int) < b.length) := by simpa using hc
                              omega
    subst this
    simp -implicitDefEqProofs
    exact hK1 _ _ (by simpa [allX] using hI)
  have hlt : k < b.length := by have : ((k : Int) < b.length) := by simpa using hc
                                omega
  have eA := hx _ _ hI
  have ca1 := eA _ _ cp
  obtain ⟨eb, eo, i1, i2⟩ := str_at x.1 (k := .i64) (i := k) (by simpa using hlt)
  simp -implicitDefEqProofs only [List.getElem_map] at i2
  have i2 := i2 _ eA
  have hmx := x.1.max
  simp -implicitDefEqProofs only [List.length_map] at hmx
  have hw : IntKind.i64.wrap ((k : Int) + 1) = k + 1 := wrap64_id (by omega) (by omega)
  have hv : ∃ vb vo, iaV (some (none, 4)) vw (.int .i64 k) = some (.pointer (some ⟨vb, vo, none⟩)) ∧ cels h1 vb vo 4 = some (Lv[k]'(by omega)) := by
    rcases l1 with ⟨h1, _⟩ | ⟨vb, vo, cap, rfl, h2⟩
    · omega
    · have hk9 : (k : Int) < b.length := by omega
      refine ⟨vb, vo + k * 4, by simp [iaV, hk9], ?_⟩
      obtain ⟨q1, q2⟩ := cels_get (cels_ext eA h2)
      have h8 : (Lv[k]'(by omega)).length = 4 := l2 _ (List.getElem_mem _)
      have h9 := flat_drop (i := k) l2
      have h7 : (Lv.drop k) = Lv[k]'(by omega) :: Lv.drop (k + 1) := List.drop_eq_getElem_cons _
      rw [h7, List.flatten_cons] at h9
      have hm : (k + 1) * 4 ≤ b.length * 4 := Nat.mul_le_mul_right _ hlt
      have := cels_sub (cels_ext eA h2) (j := k * 4) (m := 4) (by omega)
      rw [this, h9, List.take_append_of_le_length (by omega), List.take_of_length_le (by omega)]
  obtain ⟨vb, vo, j1, j2⟩ := hv
  have j3 := j2

  unfold qcOZ
  simp -implicitDefEqProofs only [s6, s8, s1, i1, i2, j1, faV_p, ov_s, ldV_c, Nat.zero_add, cel_of ca1, List.getElem?_toArray, List.getElem?_cons_succ, List.getElem?_cons_zero, ldV_n j2, s0]
  have hj' : k < (allX b Lv).length := by simpa [allX] using hlt
  have hr := hround k hj' h1
  have hx' : (allX b Lv)[k] = #[.string b[k].1, .agg (Lv[k]).toArray] := by simp [allX, hlt, List.getD_eq_getElem?_getD, l3]
  rw [hx'] at hr
  refine hr _ hI (fun h3 hI3 => ?_) (fun h3 hS => ?_)
  · unfold qaBZ qcNZ
    simp -implicitDefEqProofs [s8, hw, s0, s1, s6, s7]
    exact ⟨⟨k + 1, by omega, by simp, hI3⟩, by omega⟩
  · unfold qaBZ qcMZ
    simp -implicitDefEqProofs
    exact hK2 _ _ hS
theorem all_ok (b:Book){F h:Heap}(eF:Ext F h){kw vw:Value}(x:BookR F kw vw b)
  (hk:∀ p h',h p=none→Ext h h'→h' p=some (.cells #[kw,vw] qaZ (0,0))→K (.func (.func qMZ) #[] #[ptr p]) h'):callM P qAZ #[.agg #[kw,vw]] h K:=by
 apply qlQZ
 unfold qbwZ
 refine nw_agg fun v1 h1 n1 e1 c1=>?_
 simp -implicitDefEqProofs only[ov_s]
 exact hk v1 h1 n1 e1 c1
end Go.Proofs.YtmbningljbcpkaaGreat
namespace Go.Den
open Go
set_option linter.unusedVariables false
set_option linter.unusedSimpArgs false
def addU (a b:Int):Int:=if 18446744073709551615-a<b then 18446744073709551615 else a+b
theorem addU_rng {a b:Int}(ha:U64 a)(hb:U64 b):U64 (addU a b):=by unfold addU U64 at *; split<;>omega
def purgeS (l:List Sess)(now:Int):List Sess:=l.filter fun s=>!late now s.un
def SrtI (l:List Sess):Prop:=l.Pairwise fun a b=>a.id<b.id
def posI (l:List Sess)(id:Int):Nat:=(l.takeWhile fun s=>decide (s.id<id)).length
def hasI (l:List Sess)(id:Int):Bool:=l.any fun s=>decide (s.id=id)
def putS:List Sess→Sess→List Sess
 | [],s=>[s]
 | x::r,s=>if x.id<s.id then x::putS r s else if x.id=s.id then s::r else s::x::r
def delS (l:List Sess)(id:Int):List Sess:=l.filter fun s=>!decide (s.id=id)
def setS (l:List Sess)(s:Sess)(most:Int):List Sess × Int:=if hasI l s.id=false∧most≤l.length then (l,2) else (putS l s,0)
def beatS (l:List Sess)(id un:Int):List Sess × Int:=if hasI l id then (l.map fun s=>if s.id=id then { s with un:=max s.un un } else s,0) else (l,3)
def clearS (l:List Sess)(id:Int):List Sess × Int:=if hasI l id then (delS l id,0) else (l,3)
theorem SrtI.purge {l:List Sess}(s:SrtI l)(now:Int):SrtI (purgeS l now):=s.sublist List.filter_sublist
theorem SrtI.del {l:List Sess}(s:SrtI l)(id:Int):SrtI (delS l id):=s.sublist List.filter_sublist
theorem hasI_iff {l:List Sess}{id:Int}:hasI l id=true↔∃ s∈l,s.id=id:=by simp[hasI]
theorem posI_lt {x:Sess}{l:List Sess}{id:Int}(h:x.id<id):posI (x::l) id=posI l id+1:=by simp[posI,List.takeWhile_cons,h]
theorem posI_ge {x:Sess}{l:List Sess}{id:Int}(h:¬ x.id<id):posI (x::l) id=0:=by simp[posI,List.takeWhile_cons,h]
theorem posI_spec {l:List Sess}(s:SrtI l)(id:Int):posI l id≤l.length∧(∀ k (hk:k<l.length),k<posI l id→l[k].id<id)∧(∀ k (hk:k<l.length),posI l id≤k→id≤l[k].id):=by
 induction l with
 | nil=>simp[posI]
 | cons a l ih =>
  have s':SrtI l:=(List.pairwise_cons.1 s).2
  obtain⟨h1,h2,h3⟩:=ih s'
  by_cases ha:a.id<id
  ·rw[posI_lt ha]
   refine⟨by simpa using h1,fun k hk hkp=>?_,fun k hk hkp=>?_⟩
   ·cases k with
    | zero=>simpa using ha
    | succ k=>rw[List.getElem_cons_succ]; exact h2 k (by simpa using hk) (by omega)
   ·cases k with
    | zero=>omega
    | succ k=>rw[List.getElem_cons_succ]; exact h3 k (by simpa using hk) (by omega)
  ·rw[posI_ge ha]
   refine⟨by omega,fun k hk hkp=>by omega,fun k hk _=>?_⟩
   cases k with
   | zero=>simp; omega
   | succ k =>
    have hk':k<l.length:=by simpa using hk
    have:=(List.pairwise_cons.1 s).1 l[k] (List.getElem_mem _)
    rw[List.getElem_cons_succ]; omega
theorem posI_of {l:List Sess}(id:Int){i:Nat}(hi:i≤l.length)(h1:∀ k (hk:k<l.length),k<i→l[k].id<id)(h2:∀ (hk:i<l.length),id≤l[i].id):posI l id=i:=by
 induction l generalizing i with
 | nil=>simp at hi; subst hi; rfl
 | cons a l ih =>
  cases i with
  | zero =>
   have:=h2 (by simp)
   simp only[List.getElem_cons_zero] at this
   exact posI_ge (by omega)
  | succ i =>
   have h0:=h1 0 (by simp) (by omega)
   simp only[List.getElem_cons_zero] at h0
   rw[posI_lt h0,ih (i:=i) (by simpa using hi) (fun k hk hki=>by have:=h1 (k+1) (by simpa using hk) (by omega); rwa [List.getElem_cons_succ] at this) (fun hk=>by have:=h2 (by simpa using hk); rwa [List.getElem_cons_succ] at this)]
theorem has_posI {l:List Sess}(s:SrtI l)(id:Int):hasI l id=true↔∃ h:posI l id<l.length,l[posI l id].id=id:=by
 obtain⟨h1,h2,h3⟩:=posI_spec s id
 rw[hasI_iff]
 constructor
 ·rintro⟨x,hx,hid⟩
  obtain⟨i,hi,rfl⟩:=List.getElem_of_mem hx
  have hip:posI l id=i:=by
   refine posI_of id (by omega) (fun k hk hki=>?_) (fun hk=>by omega)
   have:=List.pairwise_iff_getElem.1 s k i hk hi hki
   omega
  exact⟨by omega,by simp only[hip]; exact hid⟩
 ·rintro⟨h,e⟩; exact⟨_,List.getElem_mem _,e⟩
theorem putS_has {x:Sess}:∀ {l:List Sess},SrtI l→hasI l x.id=true→putS l x=l.take (posI l x.id)++[x]++l.drop (posI l x.id+1)
 | [],_,h=>by simp[hasI] at h
 | a::r,s,h=>by
  have s':SrtI r:=(List.pairwise_cons.1 s).2
  simp only[putS]
  by_cases ha:a.id<x.id
  ·have:hasI r x.id=true:=by
    simp only[hasI,List.any_cons,Bool.or_eq_true,decide_eq_true_eq] at h ⊢
    exact h.resolve_left (by omega)
   rw[if_pos ha,posI_lt ha,putS_has s' this]; rfl
  ·have hid:a.id=x.id:=by
    obtain⟨y,hy,e⟩:=hasI_iff.1 h
    rcases List.mem_cons.1 hy with rfl | hy
    ·exact e
    ·have:=(List.pairwise_cons.1 s).1 y hy; omega
   rw[if_neg ha,if_pos hid,posI_ge ha]; rfl
theorem putS_new {x:Sess}:∀ {l:List Sess},SrtI l→hasI l x.id=false→putS l x=l.take (posI l x.id)++[x]++l.drop (posI l x.id)
 | [],_,h=>by simp[putS]
 | a::r,s,h=>by
  have s':SrtI r:=(List.pairwise_cons.1 s).2
  simp only[hasI,List.any_cons,Bool.or_eq_false_iff,decide_eq_false_iff_not] at h
  simp only[putS]
  by_cases ha:a.id<x.id
  ·rw[if_pos ha,posI_lt ha,putS_new s' h.2]; rfl
  ·rw[if_neg ha,if_neg h.1,posI_ge ha]; rfl
theorem delS_has {id:Int}:∀ {l:List Sess},SrtI l→hasI l id=true→delS l id=l.take (posI l id)++l.drop (posI l id+1)
 | [],_,h=>by simp[hasI] at h
 | a::r,s,h=>by
  obtain⟨s1,s'⟩:=List.pairwise_cons.1 s
  by_cases ha:a.id<id
  ·have:hasI r id=true:=by
    simp only[hasI,List.any_cons,Bool.or_eq_true,decide_eq_true_eq] at h ⊢
    exact h.resolve_left (by omega)
   have ih:=delS_has s' this
   unfold delS at ih ⊢
   rw[posI_lt ha]
   have:¬ a.id=id:=by omega
   simp[this,ih]
  ·have hid:a.id=id:=by
    obtain⟨y,hy,e⟩:=hasI_iff.1 h
    rcases List.mem_cons.1 hy with rfl | hy
    ·exact e
    ·have:=s1 y hy; omega
   rw[posI_ge ha]
   have:r.filter (fun s=>!decide (s.id=id))=r:=List.filter_eq_self.2 fun y hy=>by
    have:=s1 y hy
    have:¬ y.id=id:=by omega
    simp[this]
   unfold delS
   simp[hid,this]
theorem mem_putS {x y:Sess}:∀ {l:List Sess},y∈putS l x→y=x∨y∈l
 | [],h=>by simp[putS] at h; exact .inl h
 | a::r,h=>by
  simp only[putS] at h
  split at h
  ·rcases List.mem_cons.1 h with h | h
   ·exact .inr (by simp[h])
   ·rcases mem_putS h with h | h
    ·exact .inl h
    ·exact .inr (by simp[h])
  ·split at h
   ·rcases List.mem_cons.1 h with h | h
    ·exact .inl h
    ·exact .inr (by simp[h])
   ·rcases List.mem_cons.1 h with h | h
    ·exact .inl h
    ·exact .inr h
theorem SrtI.put {x:Sess}:∀ {l:List Sess},SrtI l→SrtI (putS l x)
 | [],_=>by simp[putS,SrtI]
 | a::r,s=>by
  obtain⟨s1,s2⟩:=List.pairwise_cons.1 s
  simp only[putS]
  by_cases ha:a.id<x.id
  ·rw[if_pos ha]
   refine List.pairwise_cons.2 ⟨fun y hy=>?_,SrtI.put s2⟩
   rcases mem_putS hy with rfl | hy
   ·exact ha
   ·exact s1 y hy
  ·rw[if_neg ha]
   by_cases hid:a.id=x.id
   ·rw[if_pos hid]; exact List.pairwise_cons.2 ⟨fun y hy=>by have:=s1 y hy; omega,s2⟩
   ·rw[if_neg hid]
    refine List.pairwise_cons.2 ⟨fun y hy=>?_,s⟩
    rcases List.mem_cons.1 hy with rfl | hy
    ·omega
    ·have:=s1 y hy; omega
theorem putS_len {x:Sess}:∀ {l:List Sess},(putS l x).length≤l.length+1
 | []=>by simp[putS]
 | a::r=>by
  have:=putS_len (x:=x) (l:=r)
  simp only[putS]; split
  ·simp; omega
  ·split<;>simp
end Go.Den
namespace Go.Proofs.YtmbningljbcpkaaGreat
open Go Go.Den Go.MapKept
set_option linter.unusedSimpArgs false
set_option linter.unusedVariables false
set_option maxRecDepth 20000
variable {K:KTy}
theorem tickAdd_ok {a b:Int}(ha:U64 a)(hb:U64 b){h:Heap}(hk:K (.int .u64 (addU a b)) h):callM P qpqZ #[.int .u64 a,.int .u64 b] h K:=by
 apply qvqZ
 unfold qssZ
 unfold U64 at ha hb
 have w1:IntKind.u64.wrap (18446744073709551615-a)=18446744073709551615-a:=wrapU_id (by omega) (by omega)
 simp -implicitDefEqProofs only[bin_sub,w1,bin_gtr,ov_s,cd_b]
 refine⟨fun hc=>?_,fun hc=>?_⟩
 ·have:18446744073709551615-a<b:=by simpa using hc
  exact kv hk (by simp[addU,this])
 ·have hn:¬ 18446744073709551615-a<b:=by simpa using hc
  have w2:IntKind.u64.wrap (a+b)=a+b:=wrapU_id (by omega) (by omega)
  simp -implicitDefEqProofs only[bin_add,w2,ov_s]
  exact kv hk (by simp[addU,hn])
theorem refAdd_ok {a b:Int}(ha:U64 a)(hb:U64 b){h:Heap}(hk:K (.int .u64 (addU a b)) h):callM P qcwZ #[.int .u64 a,.int .u64 b] h K:=by
 apply qpCZ
 unfold qfhZ
 unfold U64 at ha hb
 have w1:IntKind.u64.wrap (18446744073709551615-a)=18446744073709551615-a:=wrapU_id (by omega) (by omega)
 simp -implicitDefEqProofs only[bin_sub,w1,bin_lss,ov_s,cd_b]
 refine⟨fun hc=>?_,fun hc=>?_⟩
 ·have:18446744073709551615-a<b:=by simpa using hc
  exact kv hk (by simp[addU,this])
 ·have hn:¬ 18446744073709551615-a<b:=by simpa using hc
  have w2:IntKind.u64.wrap (a+b)=a+b:=wrapU_id (by omega) (by omega)
  simp -implicitDefEqProofs only[bin_add,w2,ov_s]
  exact kv hk (by simp[addU,hn])
theorem tickTake_ok (t:Tm)(ht:U64 t.seq){h:Heap}(hk:∀ h',Ext h h'→K (.tuple #[.agg (tmC { t with seq:=addU t.seq 1 }).toArray,.int .u64 (addU t.seq 1)]) h'):callM P qqmZ #[.agg (tmC t).toArray] h K:=by
 apply qviZ
 unfold qrmZ
 rw[zcTime]
 refine nw_agg fun v1 h1 n1 e1 c1=>?_
 refine nw_intro fun v3 h3 n3 e3 c3=>?_
 have ne:=ne_fresh c1 n3
 have c1:=e3 _ _ c1
 simp -implicitDefEqProofs only[tmC] at c1
 simp -implicitDefEqProofs[ld_at c1,cel_of c1,stm_at c1,ld_at c3,cel_of c3,stm_at c3,stm_skip ne,stm_skip (Ne.symm ne),ld_skip ne,ld_skip (Ne.symm ne),cel_skip ne,cel_skip (Ne.symm ne),stm_upd,ld_same,cel_same,over]
 refine tickAdd_ok ht (by unfold U64; omega) ?_
 unfold qsPZ
 simp -implicitDefEqProofs[ld_at c1,cel_of c1,stm_at c1,ld_at c3,cel_of c3,stm_at c3,stm_skip ne,stm_skip (Ne.symm ne),ld_skip ne,ld_skip (Ne.symm ne),cel_skip ne,cel_skip (Ne.symm ne),stm_upd,ld_same,cel_same,over]
 refine kv (hk _ ?_) rfl
 exact ext_upd n1 (ext_upd (fresh_of e1 n3) (e1.trans e3))
theorem cisNaN_ok (a:Int){h:Heap}(hk:K (.bool false) h):callM P qhHZ #[.int .i64 a] h K:=by
 apply quHZ
 unfold qobZ
 simpa using hk
def cmpI (a b:Int):Int:=if a<b then -1 else if b<a then 1 else 0
theorem cmpI_zero (a b:Int):cmpI a b=0↔a=b:=by
 unfold cmpI; split
 ·constructor<;>intro h<;>omega
 ·split
  ·constructor<;>intro h<;>omega
  ·constructor<;>intro h<;>omega
theorem compare_ok (a b:Int){h:Heap}(hk:K (.int .i64 (cmpI a b)) h):callM P qjtZ #[.int .i64 a,.int .i64 b] h K:=by
 apply qukZ
 unfold qkHZ
 refine cisNaN_ok a ?_
 unfold qoXZ
 refine cisNaN_ok b ?_
 unfold qoWZ qoVZ qoUZ
 by_cases h1:a<b
 ·simpa [cmpI,h1] using hk
 ·by_cases h2:b<a<;>simpa [cmpI,h1,h2] using hk
theorem findc_ok (s:Sess)(id:Int){h:Heap}(hk:∀ h',Ext h h'→K (.int .i64 (cmpI s.id id)) h'):nxM P (do let d ← Deferred.ofValue (.func (.func qffZ) #[] #[]) #[.agg (sessC s).toArray,.int .i64 id]; invoke d.target d.args) h K:=by
 refine nx_fn good (by kernel_rfl) ?_
 show callM P qffZ #[.agg (sessC s).toArray,.int .i64 id] h K
 apply quMZ
 unfold qplZ
 refine nw_agg fun v1 h1 n1 e1 c1=>?_
 simp -implicitDefEqProofs only[sessC] at c1
 simp -implicitDefEqProofs[ld_at c1,cel_of c1,stm_at c1,stm_upd,ld_same,cel_same,over]
 exact compare_ok _ _ (hk _ e1)
theorem sess_ld {F:Heap}{v:Value}{l:List Sess}(x:Sl 4 SessR F v l){i:Nat}(hi:i<l.length){k:IntKind}:∃ b p,iaV (some (none,4)) v (.int k i)=some (.pointer (some ⟨b,p,none⟩))∧∀ h',Ext F h'→cels h' b p 4=some (sessC l[i]):=by
 obtain⟨b,p,c,h1,h2,h3⟩:=x.at (k:=k) (i:=i) (by omega) (by omega)
 refine⟨b,p,h1,fun h' e=>?_⟩
 have hc:c=sessC l[i]:=h3
 subst hc
 exact cels_ext e h2
set_option maxHeartbeats 1000000 in
theorem sfind_ok (l : List Sess) (so : SrtI l) (id : Int) {h : Heap} {v : Value} (x : Sl 4 SessR h v l) (hl : l.length < 1000000) (hk : ∀ h', Ext h h' → K (.tuple #[.int .i64 (posI l id), .bool (hasI l id)]) h') :
    callM P qjsZ #[v, .int .i64 id] h K := by
  apply qvlZ
  unfold qrpZ
  apply qdBZ
  unfold qCZ
  have hlen := x.len
  simp -implicitDefEqProofs only [hlen, ov_s]
  rw [seqM_eq]
  unfold qafZ
  refine loop_on [0, 1, 2, 8] (fun s h' => Ext h h' ∧ ∃ i j : Nat, i ≤ j ∧ j ≤ l.length ∧ s 9 = .int .i64 i ∧ s 10 = .int .i64 j ∧ (∀ k (hk : k < l.length), k < i → l[k].id < id) ∧ ∀ k (hk : k < l.length), j ≤ k → id ≤ l[k].id)
    (fun s _ => (num (s 10) - num (s 9)).toNat) ⟨Ext.refl h, 0, l.length, by omega, by omega, rfl, by simp, fun k _ h => by omega, fun k hk h => by omega⟩ ?_
  rintro s h1 hf ⟨e1, i, j, hij, hj, s9, s10, hlo, hhi⟩
  have s0 : s 0 = v := by simpa using hf 0 (by simp)
  have s1 : s 1 = .int .i64 id := by simpa using hf 1 (by simp)
  have s2 : s 2 = .func (.func qffZ) #[] #[] := by simpa using hf 2 (by simp)
  have s8 : s 8 = .int .i64 l.length := by simpa using hf 8 (by simp)
  unfold qaeZ
  simp -implicitDefEqProofs only [s9, s10, bin_lss, ov_s, cd_b]
  refine ⟨fun hc => ?_, fun hc => ?_⟩
  · have hlt : i < j := by have : ((i : Int) < j) := by simpa using hc
                           omega
    obtain ⟨m, hm⟩ : ∃ m : Nat, m = (i + j) / 2 := ⟨_, rfl⟩
    have hm1 : i ≤ m ∧ m < j := by omega
    have w1 : IntKind.i64.wrap ((i : Int) + j) = (i + j : Nat) := by rw [wrap64_id (by omega) (by omega)]; omega
    have w2 : IntKind.u64.wrap ((i + j : Nat) : Int) = (i + j : Nat) := wrapU_id (by omega) (by omega)
    have w3 : binV .shr 2 true (.int .u64 ((i + j : Nat) : Int)) (.int .u64 1) = some (.int .u64 m) := by
      have : ((i + j : Nat) : Int).fdiv 2 = m := by rw [Int.fdiv_eq_ediv_of_nonneg _ (by omega)]; omega
      simp -implicitDefEqProofs [binV, intV, IntKind.bits]
      rw [← this]; rfl
    have w4 : IntKind.i64.wrap (m : Int) = m := wrap64_id (by omega) (by omega)
    have w5 : IntKind.i64.wrap ((m : Int) + 1) = m + 1 := wrap64_id (by omega) (by omega)
    obtain ⟨b, p, i1, i2⟩ := sess_ld x (k := .i64) (i := m) (by omega)
    unfold qadZ
    simp -implicitDefEqProofs only [s0, s1, s2, s9, s10, bin_add, ov_s, w1, cvV_i, w2, w3, w4, i1, ldV_n (i2 _ e1)]
    refine findc_ok _ _ fun h2 e2 => ?_
    unfold qacZ qaaZ qabZ
    by_cases hlm : l[m].id < id
    · have : cmpI l[m].id id = -1 := by simp [cmpI, hlm]
      simp -implicitDefEqProofs [this, w5, s0, s1, s2, s8, s9, s10]
      refine ⟨⟨e1.trans e2, m + 1, j, by omega, by omega, by simp, rfl, fun k hk hkm => ?_, hhi⟩, by omega⟩
      by_cases e : k = m
      · subst e; exact hlm
      · have := List.pairwise_iff_getElem.1 so k m hk (by omega) (by omega); omega
    · have : ¬ cmpI l[m].id id < 0 := by unfold cmpI; rw [if_neg hlm]; split <;> omega
      simp -implicitDefEqProofs [this, s0, s1, s2, s8, s9, s10]
      refine ⟨⟨e1.trans e2, i, m, by omega, by omega, rfl, rfl, hlo, fun k hk hkm => ?_⟩, by omega⟩
      by_cases e : k = m
      · subst e; omega
      · have := List.pairwise_iff_getElem.1 so m k (by omega) hk (by omega); omega
  · have : i = j := by have : ¬ ((i : Int) < j) := by simpa using hc
                       omega
    subst this
    have hp : posI l id = i := posI_of id hj (fun k hk hki => hlo k hk hki) (fun hk => hhi i hk (by omega))
    have hmem := has_posI so id
    rw [hp] at hk
    simp -implicitDefEqProofs only [lpM_e, blkM_e, if_true, thenM_n]
    unfold qagZ
    by_cases hil : i < l.length
    · obtain ⟨b, p, i1, i2⟩ := sess_ld x (k := .i64) hil
      have hil' : (i : Int) < l.length := by omega
      simp -implicitDefEqProofs [s0, s1, s2, s8, s9, s10, hil', hil, i1, ldV_n (i2 _ e1)]
      refine findc_ok _ _ fun h2 e2 => ?_
      have hcmp : decide (cmpI l[i].id id = 0) = hasI l id := by
        have h5 : hasI l id = true ↔ l[i].id = id := by
          rw [hmem]
          constructor
          · rintro ⟨q, e⟩; simp only [hp] at e; exact e
          · intro e; exact ⟨by omega, by simp only [hp]; exact e⟩
        rw [Bool.eq_iff_iff, h5, decide_eq_true_eq, cmpI_zero]
      have := hk h2 (e1.trans e2)
      simpa [hcmp] using this
    · have hil' : ¬ ((i : Int) < l.length) := by omega
      have : hasI l id = false := by
        cases hh : hasI l id with
        | false => rfl
        | true => obtain ⟨h3, h4⟩ := hmem.1 hh; rw [hp] at h3; exact absurd h3 hil
      simp -implicitDefEqProofs [s0, s1, s2, s8, s9, s10, hil', hil]
      rw [this] at hk; exact hk _ e1
end Go.Proofs.YtmbningljbcpkaaGreat
namespace Go.Proofs.YtmbningljbcpkaaGreat
open Go Go.Den Go.MapKept
set_option linter.unusedSimpArgs false
set_option linter.unusedVariables false
set_option maxRecDepth 20000
theorem sess_els {h:Heap}{v:Value}{l:List Sess}(x:Sl 4 SessR h v l):SlC 4 h v l.length (l.flatMap sessC):=by
 obtain⟨L,h1,h2⟩:=x.els SessR.one
 have:L=l.map sessC:=by
  apply List.ext_getElem (by simp[h2.len])
  intro i h3 h4
  simp -implicitDefEqProofs only[List.getElem_map]
  exact h2.el i h3 (by simpa using h4)
 rw[this,← List.flatMap_def] at h1
 exact h1
theorem sessC_one (l:List Sess):∀ u∈l.flatMap sessC,u.oneCell'=true:=by
 intro u hu
 obtain⟨s,_,hs⟩:=List.mem_flatMap.1 hu
 simp -implicitDefEqProofs[sessC] at hs; rcases hs with rfl | rfl | rfl | rfl<;>rfl
theorem rf_sess {h0 h:Heap}{v:Value}{l:List Sess}(r:Rf 4 qcZ h0 h v l.length (l.flatMap sessC)):Sl 4 SessR h v l:=Row.slE (enc:=sessC) (fun _=>rfl) (fun _=>rfl) r.row
variable {K:KTy}
theorem purgec_ok (s:Sess)(now:Int){p:Nat}{h:Heap}(cp:h p=some (.cells #[.int .u64 now] qarZ (0,0)))(hk:∀ h',Ext h h'→K (.bool (late now s.un)) h') :
  nxM P (do let d ← Deferred.ofValue (.func (.func qaJZ) #[] #[ptr p]) #[.agg (sessC s).toArray]; invoke d.target d.args) h K:=by
 refine nx_fn good (by kernel_rfl) ?_
 show callM P qaJZ #[.agg (sessC s).toArray,ptr p] h K
 apply quGZ
 unfold qoaZ
 refine nw_agg fun v1 h1 n1 e1 c1=>?_
 have cp:=e1 _ _ cp
 simp -implicitDefEqProofs only[sessC] at c1
 simp -implicitDefEqProofs[ld_at c1,cel_of c1,stm_at c1,ld_at cp,cel_of cp,stm_at cp,stm_upd,ld_same,cel_same,over]
 exact late_ok _ _ (hk _ e1)
def firstL (l:List Sess)(now:Int):Nat:=(l.takeWhile fun s=>!late now s.un).length
theorem firstL_spec (l:List Sess)(now:Int):firstL l now≤l.length∧(∀ k (hk:k<l.length),k<firstL l now→late now l[k].un=false)∧∀ hk:firstL l now<l.length,late now (l[firstL l now]'hk).un=true:=by
 unfold firstL
 induction l with
 | nil=>simp
 | cons a l ih =>
  cases ha:late now a.un with
  | true=>simp[List.takeWhile_cons,ha]
  | false =>
   obtain⟨h1,h2,h3⟩:=ih
   simp -implicitDefEqProofs only[List.takeWhile_cons,ha,Bool.not_false,if_true,List.length_cons]
   refine⟨by omega,fun k hk hkp=>?_,fun hk=>?_⟩
   ·cases k with
    | zero=>simpa using ha
    | succ k=>rw[List.getElem_cons_succ]; exact h2 k (by omega) (by omega)
   ·rw[List.getElem_cons_succ]; exact h3 (by omega)
theorem firstL_of (l:List Sess)(now:Int){i:Nat}(hi:i<l.length)(h1:∀ k (hk:k<l.length),k<i→late now l[k].un=false)(h2:late now l[i].un=true):firstL l now=i:=by
 obtain⟨q1,q2,q3⟩:=firstL_spec l now
 rcases Nat.lt_trichotomy (firstL l now) i with h | h | h
 ·have:=h1 _ (by omega) h; rw[q3 (by omega)] at this; cases this
 ·exact h
 ·have:=q2 i hi h; rw[h2] at this; cases this
theorem firstL_all (l:List Sess)(now:Int)(h1:∀ k (hk:k<l.length),late now l[k].un=false):firstL l now=l.length:=by
 obtain⟨q1,q2,q3⟩:=firstL_spec l now
 rcases Nat.lt_or_ge (firstL l now) l.length with h | h
 ·have:=h1 _ h; rw[q3 h] at this; cases this
 ·omega
theorem index_ok (l : List Sess) (now : Int) {p : Nat} {h : Heap} (cp : h p = some (.cells #[.int .u64 now] qarZ (0, 0))) {v : Value} (x : Sl 4 SessR h v l) (hl : l.length < 1000000)
    (hk : ∀ h', Ext h h' → K (.int .i64 (if firstL l now < l.length then firstL l now else -1)) h') : callM P qVZ #[v, .func (.func qaJZ) #[] #[ptr p]] h K := by
  apply qghZ
  unfold qZZ
  rw [seqM_eq]
  unfold qbrZ
  have hlen := x.len
  simp -implicitDefEqProofs only [hlen, ov_s]
  refine loop_on [0, 1, 7] (fun s h' => Ext h h' ∧ ∃ i : Nat, i ≤ l.length ∧ s 8 = .int .i64 i ∧ ∀ k (hk : k < l.length), k < i → late now l[k].un = false) (fun s _ => (l.length - num (s 8)).toNat) ⟨Ext.refl h, 0, by omega, rfl, fun k _ h => by omega⟩ ?_
  rintro s h1 hf ⟨e1, i, hi, s8, hlo⟩
  have s0 : s 0 = v := by simpa using hf 0 (by simp)
  have s1 : s 1 = .func (.func qaJZ) #[] #[ptr p] := by simpa using hf 1 (by simp)
  have s7 : s 7 = .int .i64 l.length := by simpa using hf 7 (by simp)
  unfold qbqZ
  simp -implicitDefEqProofs only [s8, s7, bin_lss, ov_s, cd_b]
  refine ⟨fun hc => ?_, fun hc => ?_⟩
  · have hlt : i < l.length := by have : ((i : Int) < l.length) := by simpa using hc
                                  omega
    have hw : IntKind.i64.wrap ((i : Int) + 1) = i + 1 := wrap64_id (by omega) (by omega)
    obtain ⟨b, q, i1, i2⟩ := sess_ld x (k := .i64) hlt
    unfold qbpZ
    simp -implicitDefEqProofs only [s0, s1, s8, i1, ov_s, ldV_n (i2 _ e1)]
    refine purgec_ok _ now (e1 _ _ cp) fun h2 e2 => ?_
    unfold qboZ qbmZ qbnZ
    cases hlt2 : late now l[i].un with
    | true =>
      simp -implicitDefEqProofs [s8]
      have := firstL_of l now hlt hlo hlt2
      rw [this, if_pos hlt] at hk
      exact hk _ (e1.trans e2)
    | false =>
      simp -implicitDefEqProofs [hw, s0, s1, s7, s8]
      refine ⟨⟨e1.trans e2, i + 1, by omega, by simp, fun k hk hki => ?_⟩, by omega⟩
      by_cases e : k = i
      · subst e; exact hlt2
      · exact hlo k hk (by omega)
  · have : i = l.length := by have : ¬ ((i : Int) < l.length) := by simpa using hc
                              omega
    subst this
    have := firstL_all l now fun k hk => hlo k hk hk
    rw [this, if_neg (by omega)] at hk
    simp -implicitDefEqProofs
    exact hk _ e1
structure DelI (l:List Sess)(now:Int)(h0 h':Heap)(v:Value)(i j:Nat)(ys:List Sess):Prop where
 row:Rf 4 qcZ h0 h' v l.length (ys.flatMap sessC)
 ylen:ys.length=l.length
 ij:i<j
 jl:j≤l.length
 lo:ys.take i=purgeS (l.take j) now
 hi:ys.drop j=l.drop j
def DelE (l:List Sess)(now:Int)(h0:Heap)(v a b:Value)(h':Heap):Prop:=∃ (i j:Nat) (ys:List Sess),a = .int .i64 i∧b = .int .i64 j∧DelI l now h0 h' v i j ys
theorem map_flat (l:List Sess):(l.map sessC).flatten=l.flatMap sessC:=(List.flatMap_def).symm
theorem deleteFunc_ok (l : List Sess) (now : Int) {p : Nat} {h0 h : Heap} (cp : h0 p = some (.cells #[.int .u64 now] qarZ (0, 0))) {v : Value} (r : Rf 4 qcZ h0 h v l.length (l.flatMap sessC)) (hl : l.length < 1000000)
    (hk : ∀ h' v', Rf 4 qcZ h0 h' v' (purgeS l now).length ((purgeS l now).flatMap sessC) → K v' h') : callM P qSZ #[v, .func (.func qaJZ) #[] #[ptr p]] h K := by
  apply qfCZ
  unfold qWZ
  refine index_ok l now (r.ex _ _ cp) (rf_sess r) hl fun h1 e1 => ?_
  have r1 := r.ext e1
  obtain ⟨q1, q2, q3⟩ := firstL_spec l now
  unfold qbiZ
  by_cases hlt : firstL l now < l.length
  rotate_left
  · have hall : purgeS l now = l := List.filter_eq_self.2 fun s hs => by
      obtain ⟨k, hk, rfl⟩ := List.getElem_of_mem hs
      simp -implicitDefEqProofs [q2 k hk (by omega)]
    simp -implicitDefEqProofs [hlt]
    rw [hall] at hk
    exact hk _ _ r1
  obtain ⟨f, hf0⟩ : ∃ f, firstL l now = f := ⟨_, rfl⟩
  simp -implicitDefEqProofs only [hf0] at hlt q1 q2 q3 ⊢
  have hw : IntKind.i64.wrap ((f : Int) + 1) = (f + 1 : Nat) := by rw [wrap64_id (by omega) (by omega)]; omega
  have hne : ¬ (f : Int) = -1 := by omega
  rw [if_pos hlt]
  simp -implicitDefEqProofs only [bin_eql, hne, decide_false, ov_s, cd_b, true_implies]
  refine ⟨fun h => (by cases h), ?_⟩
  unfold qbhZ
  rw [seqM_eq]
  unfold qbgZ
  simp -implicitDefEqProofs only [bin_add, hw, ov_s]
  have tk : purgeS (l.take (f + 1)) now = l.take f := by
    have h1 : l.take (f + 1) = l.take f ++ [l[f]] := List.take_succ_eq_append_getElem hlt
    unfold purgeS
    rw [h1, List.filter_append]
    have h2 : (l.take f).filter (fun s => !late now s.un) = l.take f := List.filter_eq_self.2 fun s hs => by
      obtain ⟨k, hk, rfl⟩ := List.getElem_of_mem hs
      have hk' : k < f := by simp at hk; omega
      rw [List.getElem_take]
      simp -implicitDefEqProofs [q2 k (by omega) hk']
    rw [h2]
    simp -implicitDefEqProofs [q3 hlt]
  intro _
  refine loop_on [0, 1] (fun s h' => DelE l now h0 v (s 5) (s 6) h') (fun s _ => (l.length - num (s 6)).toNat) ⟨f, f + 1, l, rfl, rfl, ⟨r1, rfl, by omega, by omega, tk.symm, rfl⟩⟩ ?_
  rintro s h2 hf ⟨i, j, ys, s5, s6, D⟩
  have s0 : s 0 = v := by simpa using hf 0 (by simp)
  have s1 : s 1 = .func (.func qaJZ) #[] #[ptr p] := by simpa using hf 1 (by simp)
  have xs : Sl 4 SessR h2 v ys := rf_sess (by rw [D.ylen]; exact D.row)
  have hlen := xs.len
  rw [D.ylen] at hlen
  have hij := D.ij
  have hjl := D.jl
  have hyl := D.ylen
  unfold qbfZ
  simp -implicitDefEqProofs only [s0, s6, hlen, bin_lss, ov_s, cd_b]
  refine ⟨fun hc => ?_, fun hc => ?_⟩
  · have hlt : j < l.length := by have : ((j : Int) < l.length) := by simpa using hc
                                  omega
    have hw1 : IntKind.i64.wrap ((j : Int) + 1) = (j + 1 : Nat) := by rw [wrap64_id (by omega) (by omega)]; omega
    have hw2 : IntKind.i64.wrap ((i : Int) + 1) = (i + 1 : Nat) := by rw [wrap64_id (by omega) (by omega)]; omega
    obtain ⟨b, q, i1, i2⟩ := sess_ld xs (k := .i64) (i := j) (by omega)
    have hyj : ys[j]'(by omega) = l[j] := by
      have h1 := congrArg (fun l => l[0]?) D.hi
      simp -implicitDefEqProofs only [List.getElem?_drop, Nat.add_zero] at h1
      rw [List.getElem?_eq_getElem (by omega), List.getElem?_eq_getElem hlt] at h1
      exact Option.some.inj h1
    rw [hyj] at i2
    have hpur : purgeS (l.take (j + 1)) now = purgeS (l.take j) now ++ (if late now l[j].un then [] else [l[j]]) := by
      rw [List.take_succ_eq_append_getElem hlt]
      unfold purgeS
      rw [List.filter_append]
      cases hh : late now l[j].un <;> simp [hh]
    have hdr : ys.drop (j + 1) = l.drop (j + 1) := by
      have := congrArg (List.drop 1) D.hi
      rwa [List.drop_drop, List.drop_drop] at this
    unfold qbeZ
    rw [seqM_eq]
    unfold qbdZ
    simp -implicitDefEqProofs only [s0, s1, s6, i1, ov_s, ldV_n (i2 _ (Ext.refl _)), zcSess]
    refine nw_st rfl rfl (by simp [sessC]) fun vb h3 n3 e3 c3 => ?_
    simp -implicitDefEqProofs only [sessC, cells_agg] at c3
    have hag : ldV (some (some 4)) (ptr vb) h3 = some (.agg (sessC l[j]).toArray) := by simp [ld_at c3, sessC]
    simp -implicitDefEqProofs only [hag, ov_s]
    refine purgec_ok _ now (D.row.ex.trans e3 _ _ cp) fun h4 e4 => ?_
    have r4 := (D.row.ext e3).ext e4
    have c4 := e4 _ _ c3
    unfold qbcZ
    cases hlj : late now l[j].un with
    | true =>
      unfold qbbZ
      simp -implicitDefEqProofs [s5, s6, hw1, s0, s1, -Int.natCast_add]
      refine ⟨⟨i, j + 1, ys, rfl, rfl, r4, hyl, by omega, by omega, ?_, hdr⟩, by omega⟩
      rw [hpur, hlj, D.lo]; simp
    | false =>
      unfold qbaZ
      have hl4 : ldV (some (some 4)) (ptr vb) h4 = some (.agg (sessC l[j]).toArray) := by simp [ld_at c4, sessC]
      have r4' : Rf 4 qcZ h0 h4 v l.length ((ys.map sessC).flatten) := by rw [map_flat]; exact r4
      obtain ⟨g, g1, g2, g3, g4, g5⟩ := r4'.st (i := i) (c := .agg (sessC l[j]).toArray) (k := .i64) (by simp [sessC]) (by simpa using hyl) (by omega) (by simp [sessC]) (by simp [sessC])
      simp -implicitDefEqProofs only [unV_n, Bool.not_false, ov_s, cd_b, true_implies]
      refine ⟨?_, fun h => (by cases h)⟩
      simp -implicitDefEqProofs only [hl4, s0, s5, g2, ov_s]
      refine g5 _ fun o' r5 => ?_
      simp -implicitDefEqProofs [s5, s6, hw1, hw2, s0, s1, -Int.natCast_add]
      have hm : (ys.map sessC).take i ++ [(Value.agg (sessC l[j]).toArray).cells.toList] ++ (ys.map sessC).drop (i + 1) = (ys.take i ++ [l[j]] ++ ys.drop (i + 1)).map sessC := by simp
      rw [hm, map_flat] at r5
      have hti : (ys.take i).length = i := by simp; omega
      refine ⟨⟨i + 1, j + 1, _, rfl, rfl, r5, by simp; omega, by omega, by omega, ?_, ?_⟩, by omega⟩
      · rw [hpur, hlj, ← D.lo]
        rw [List.take_append_of_le_length (by simp; omega)]
        simp -implicitDefEqProofs only [Bool.false_eq_true, if_false]
        rw [List.take_of_length_le (by simp; omega)]
      · rw [← hdr, List.drop_append, List.drop_eq_nil_of_le (by simp; omega), List.nil_append, List.drop_drop]
        congr 1
        simp; omega
  · have : j = l.length := by have : ¬ ((j : Int) < l.length) := by simpa using hc
                              omega
    subst this
    obtain ⟨g, cap, cur, hv, hg0, hg, hcap, hcm, hcs, hct⟩ := D.row.own (by omega)
    subst hv
    simp -implicitDefEqProofs only [lpM_e, blkM_e, if_true, thenM_n]
    unfold qaWZ
    have sl1 : slV (some (none, 4)) (.slice (some ⟨g, 0, none⟩) l.length cap) (some (.int .i64 i)) none = some (.slice (some ⟨g, i * 4, none⟩) (l.length - i) (cap - i)) := by
      have h1 : (i : Int) ≤ l.length := by omega
      simp -implicitDefEqProofs [slV, bnd, h1, show ¬ cap = i by omega, Addr.add_lit]
    have sl2 : slV (some (none, 4)) (.slice (some ⟨g, 0, none⟩) l.length cap) none (some (.int .i64 i)) = some (.slice (some ⟨g, 0, none⟩) i cap) := by
      have h1 : (i : Int) ≤ cap := by omega
      simp -implicitDefEqProofs [slV, bnd, h1, show ¬ cap = 0 by omega, Addr.add_lit]
    simp -implicitDefEqProofs [s0, s5, sl1]
    have hm1 : i * 4 + (l.length - i) * 4 = l.length * 4 := by omega
    refine clear_vv cUnSess cApSess (fun z hz => by rw [cZcSess] at hz; cases hz; rfl) (by omega) hg (by rw [hcs]; omega) (fun hz => by omega) fun cs hcs' => ?_
    unfold qaVZ
    simp -implicitDefEqProofs [s0, s5, sl2]
    have hpl : ys.take i = purgeS l now := by rw [D.lo, List.take_length]
    have hn : (purgeS l now).length = i := by rw [← hpl]; simp; omega
    have hct' : cur.toList.take (l.length * 4) = ys.flatMap sessC := hct
    refine hk _ _ ⟨ext_upd hg0 D.row.ex, ⟨by rw [← map_flat, flat_len (sz := 4) (by simp [sessC])]; simp, .inr ⟨g, cap, _, by rw [hn], upd_same' _ _ _, by omega, hcm, by simp [over_size, hcs], ?_⟩⟩, fun b hb => by simp [rowOf] at hb; subst hb; exact hg0, sessC_one _⟩
    rw [over_list (by rw [hcs, hcs']; omega), hn, ← hpl]
    unfold spl
    have cl : cur.toList.length = cap * 4 := by simpa using hcs
    have e1 : cur.toList.take (i * 4) = (ys.take i).flatMap sessC := by
      have h2 : cur.toList.take (i * 4) = (cur.toList.take (l.length * 4)).take (i * 4) := by rw [List.take_take, Nat.min_eq_left (by omega)]
      rw [h2, hct', ← map_flat, flat_take (by simp [sessC]), ← List.map_take, map_flat]
    have e2 : (cur.toList.take (i * 4)).length = i * 4 := by rw [List.length_take, cl]; omega
    rw [List.append_assoc, List.take_append_of_le_length (by omega), List.take_take, Nat.min_self, e1]
end Go.Proofs.YtmbningljbcpkaaGreat
namespace Go.Proofs.YtmbningljbcpkaaGreat
open Go Go.Den Go.MapKept
set_option linter.unusedSimpArgs false
set_option linter.unusedVariables false
set_option maxRecDepth 20000
variable {K:KTy}
theorem purge_ok (l:List Sess)(now:Int){h:Heap}{v:Value}(x:Sl 4 SessR h v l)(sn:Sn v)(hl:l.length<1000000)
  (hk:∀ h' v',Rf 4 qcZ h h' v' (purgeS l now).length ((purgeS l now).flatMap sessC)→K v' h'):callM P qlGZ #[v,.int .u64 now] h K:=by
 apply qvbZ
 unfold qqAZ
 simp -implicitDefEqProofs only[nwM_s,cells_i]
 intro v1 n1
 have e1:Ext h (upd h v1 _):=Ext.upd n1 (.cells #[.int .u64 now] qarZ (0,0))
 have c1:=upd_same' h v1 (.cells #[.int .u64 now] qarZ (0,0))
 generalize upd h v1 _=h1 at *
 refine cloneESess (sess_els (x.ext (R:=SessR) (@SessR.ext) e1)) sn (sessC_one l) (by omega) fun v2 h2 r2=>?_
 unfold qrXZ
 simp -implicitDefEqProofs only[ov_s]
 refine deleteFunc_ok l now c1 r2 hl fun h3 v3 r3=>?_
 exact hk _ _ (r3.back e1)
theorem flat_sess (l:List Sess)(i:Nat):(l.flatMap sessC).take (i*4)=(l.take i).flatMap sessC∧(l.flatMap sessC).drop (i*4)=(l.drop i).flatMap sessC:=by
 rw[← map_flat,flat_take (by simp[sessC]),flat_drop (by simp[sessC]),← List.map_take,← List.map_drop,map_flat,map_flat]
 exact⟨rfl,rfl⟩
theorem sset_ok (l:List Sess)(so:SrtI l)(s:Sess)(most:Int){h:Heap}{v:Value}(x:Sl 4 SessR h v l)(sn:Sn v)(hl:l.length<1000000)
  (hk:∀ h' v',Rf 4 qcZ h h' v' (setS l s most).1.length ((setS l s most).1.flatMap sessC)→K (.tuple #[v',.int .i64 (setS l s most).2]) h'):callM P qrgZ #[v,.agg (sessC s).toArray,.int .i64 most] h K:=by
 apply qvrZ
 unfold qstZ
 refine nw_agg fun v1 h1 n1 e1 c1=>?_
 have c1':=c1
 simp -implicitDefEqProofs only[sessC] at c1
 refine cloneESess (sess_els (x.ext (R:=SessR) (@SessR.ext) e1)) sn (sessC_one l) (by omega) fun v2 h2 r2=>?_
 have c1:=r2.ex _ _ c1
 unfold qtPZ
 simp -implicitDefEqProofs[ld_at c1,cel_of c1,stm_at c1,stm_upd,ld_same,cel_same,over]
 refine sfind_ok l so s.id (rf_sess r2) hl fun h3 e3=>?_
 have c1:=e3 _ _ c1
 have r3:=r2.ext e3
 obtain⟨q1,q2,q3⟩:=posI_spec so s.id
 have hlen:lnV 7 v2=some (.int .i64 l.length):=(rf_sess r2).len
 unfold qtOZ
 simp -implicitDefEqProofs only[exV_0,exV_1,ov_s]
 rw[seqM_eq]
 unfold qtNZ
 cases hh:hasI l s.id with
 | true =>
  obtain⟨p1,p2⟩:=(has_posI so s.id).1 hh
  have e:setS l s most=(putS l s,0):=by simp[setS,hh]
  rw[e] at hk
  have hput:=putS_has so hh
  have r3':Rf 4 qcZ h1 h3 v2 l.length ((l.map sessC).flatten):=by rw[map_flat]; exact r3
  obtain⟨g,g1,g2,g3,g4,g5⟩:=r3'.st (i:=posI l s.id) (c:=.agg (sessC s).toArray) (k:=.i64) (by simp[sessC]) (by simp) p1 (by simp[sessC]) (by simp[sessC])
  unfold qtIZ
  have hld:ldV (some (some 4)) (ptr v1) h3=some (.agg (sessC s).toArray):=by simp[ld_at c1,sessC]
  simp -implicitDefEqProofs only[cd_b,true_implies]
  refine⟨?_,fun h=>(by cases h)⟩
  simp -implicitDefEqProofs only[hld,g2,ov_s]
  refine g5 _ fun o' r5=>?_
  have hm:(l.map sessC).take (posI l s.id)++[(Value.agg (sessC s).toArray).cells.toList]++(l.map sessC).drop (posI l s.id+1)=(putS l s).map sessC:=by rw[hput]; simp
  rw[hm,map_flat] at r5
  have hn:l.length=(putS l s).length:=by rw[hput]; simp; omega
  rw[hn] at r5
  simp -implicitDefEqProofs
  exact hk _ _ (r5.back e1)
 | false =>
  simp -implicitDefEqProofs only[cd_b,true_implies]
  refine⟨fun h=>(by cases h),?_⟩
  unfold qtMZ
  simp -implicitDefEqProofs only[hlen,bin_geq,ov_s,cd_b]
  refine⟨fun hc=>?_,fun hc=>?_⟩
  ·have hm:most≤l.length:=by simpa using hc
   have e:setS l s most=(l,2):=by simp[setS,hh,hm]
   rw[e] at hk
   unfold qtJZ
   simp -implicitDefEqProofs
   exact hk _ _ (r3.back e1)
  ·have hm:¬ most≤(l.length:Int):=by simpa using hc
   have e:setS l s most=(putS l s,0):=by simp[setS,hh,hm]
   rw[e] at hk
   have hput:=putS_new so hh
   unfold qtLZ
   have hld:ldV (some (some 4)) (ptr v1) h3=some (.agg (sessC s).toArray):=by simp[ld_at c1,sessC]
   simp -implicitDefEqProofs only[hld,ov_s]
   refine bs_one cBsSess (by simp[sessC]) (by omega) fun b h4 n4 e4 c4=>?_
   have r4:=r3.ext e4
   refine insESess (x:=(Value.agg (sessC s).toArray).cells) r4 (by simp[sessC]) c4 (Rf.ne_new r3 n4) q1 (by omega) (by simp[sessC]) fun v5 h5 r5 _=>?_
   unfold qtKZ
   simp -implicitDefEqProofs
   refine hk _ _ ?_
   have r6:=r5.back e1
   have hn:l.length+1=(putS l s).length:=by rw[hput]; simp; omega
   rw[(flat_sess l _).1,(flat_sess l _).2,hn] at r6
   have hm:(l.take (posI l s.id)).flatMap sessC++(Value.agg (sessC s).toArray).cells.toList++(l.drop (posI l s.id)).flatMap sessC=(putS l s).flatMap sessC:=by rw[hput]; simp
   rw[hm] at r6
   exact r6
theorem sclear_ok (l:List Sess)(so:SrtI l)(id:Int){h:Heap}{v:Value}(x:Sl 4 SessR h v l)(sn:Sn v)(hl:l.length<1000000)
  (hk:∀ h' v',Rf 4 qcZ h h' v' (clearS l id).1.length ((clearS l id).1.flatMap sessC)→K (.tuple #[v',.int .i64 (clearS l id).2]) h'):callM P qpNZ #[v,.int .i64 id] h K:=by
 apply qvcZ
 unfold qqBZ
 refine cloneESess (sess_els x) sn (sessC_one l) (by omega) fun v2 h2 r2=>?_
 unfold qsaZ
 refine sfind_ok l so id (rf_sess r2) hl fun h3 e3=>?_
 have r3:=r2.ext e3
 unfold qrZZ
 simp -implicitDefEqProofs only[exV_0,exV_1,ov_s,unV_n]
 cases hh:hasI l id with
 | true =>
  obtain⟨p1,p2⟩:=(has_posI so id).1 hh
  have e:clearS l id=(delS l id,0):=by simp[clearS,hh]
  rw[e] at hk
  have hdel:=delS_has so hh
  have w1:IntKind.i64.wrap ((posI l id:Int)+1)=(posI l id+1:Nat):=by rw[wrap64_id (by omega) (by omega)]; omega
  unfold qrYZ
  simp -implicitDefEqProofs only[Bool.not_true,cd_b,true_implies]
  refine⟨fun h=>(by cases h),?_⟩
  simp -implicitDefEqProofs only[bin_add,w1,ov_s]
  refine delESess r3 p1 (by omega) fun v5 h5 r5=>?_
  refine hk _ _ ?_
  have hn:l.length-1=(delS l id).length:=by rw[hdel]; simp; omega
  rw[(flat_sess l _).1,(flat_sess l _).2,hn,← List.flatMap_append,← hdel] at r5
  exact r5
 | false =>
  have e:clearS l id=(l,3):=by simp[clearS,hh]
  rw[e] at hk
  simp -implicitDefEqProofs only[Bool.not_false,cd_b,true_implies]
  exact⟨hk _ _ r3,fun h=>(by cases h)⟩
theorem sbeat_ok (l:List Sess)(so:SrtI l)(id un:Int){h:Heap}{v:Value}(x:Sl 4 SessR h v l)(sn:Sn v)(hl:l.length<1000000)
  (hk:∀ h' v',Rf 4 qcZ h h' v' (beatS l id un).1.length ((beatS l id un).1.flatMap sessC)→K (.tuple #[v',.int .i64 (beatS l id un).2]) h'):callM P qqnZ #[v,.int .i64 id,.int .u64 un] h K:=by
 apply qvjZ
 unfold qrnZ
 refine cloneESess (sess_els x) sn (sessC_one l) (by omega) fun v2 h2 r2=>?_
 unfold qsTZ
 refine sfind_ok l so id (rf_sess r2) hl fun h3 e3=>?_
 have r3:=r2.ext e3
 unfold qsSZ
 simp -implicitDefEqProofs only[exV_0,exV_1,ov_s,unV_n]
 cases hh:hasI l id with
 | true =>
  obtain⟨p1,p2⟩:=(has_posI so id).1 hh
  obtain⟨q1,q2,q3⟩:=posI_spec so id
  unfold qsRZ
  simp -implicitDefEqProofs only[Bool.not_true,cd_b,true_implies]
  refine⟨fun h=>(by cases h),?_⟩
  obtain⟨p,hp⟩:∃ p,posI l id=p:=⟨_,rfl⟩
  simp -implicitDefEqProofs only[hp] at p1 p2 q1 q2 q3 ⊢
  obtain⟨g,g1,g2⟩:=r3.row.ia (k:=.i64) p1
  have hm1:p*4+4≤l.length*4:=by omega
  have hcl:=r3.row.cels g1 (o:=p*4) (m:=4) hm1
  have hcl4:cels h3 g (p*4) 4=some (sessC l[p]):=by
   rw[hcl]
   have:=flat_at sessC (sz:=4) (fun _=>rfl) l p p1
   rw[this]
  have hc3:cel h3 g (p*4+3)=some (.int .u64 l[p].un):=by
   have:=(cels_get hcl4).2 3 (by simp[sessC])
   simpa [sessC] using this
  simp -implicitDefEqProofs only[g2,faV_p,ov_s,ldV_c,hc3]
  refine vv_max ?_
  unfold qsQZ
  simp -implicitDefEqProofs only[g2,faV_p,ov_s]
  refine r3.row.st g1 (by simp) (by omega) (by simp) fun h4 hk4 hr4=>?_
  obtain⟨o',ho'⟩:=hr4.lt g g1
  have e4:h4=upd h3 g o':=upd_of hk4 ho'
  have hbe:beatS l id un=(l.take p++[{ l[p] with un:=max l[p].un un }]++l.drop (p+1),0):=by
   simp -implicitDefEqProofs only[beatS,hh,if_true]
   congr 1
   apply List.ext_getElem (by simp; omega)
   intro i h1 h2
   have h1:i<l.length:=by simpa using h1
   rw[List.getElem_map]
   by_cases hi:i<p
   ·rw[List.getElem_append_left (by simp; omega),List.getElem_append_left (by simp; omega),List.getElem_take]
    have:=q2 i h1 hi
    rw[if_neg (by omega)]
   ·by_cases hi2:i=p
    ·subst hi2
     rw[List.getElem_append_left (by simp; omega),List.getElem_append_right (by simp; omega)]
     simp -implicitDefEqProofs[p2]
    ·rw[List.getElem_append_right (by simp; omega)]
     have:=List.pairwise_iff_getElem.1 so p i p1 h1 (by omega)
     rw[if_neg (by omega),List.getElem_drop]
     congr 1
     simp; omega
  rw[hbe] at hk
  refine hk _ _ ?_
  have hsp:spl (l.flatMap sessC) (p*4+3) (Value.int .u64 (max l[p].un un)).cells.toList=(l.take p++[{ l[p] with un:=max l[p].un un }]++l.drop (p+1)).flatMap sessC:=by
   have h1:l=l.take p++[l[p]]++l.drop (p+1):=by
    rw[← List.take_succ_eq_append_getElem p1,List.take_append_drop]
   have h2:(l.flatMap sessC).take (p*4+3)=(l.take p).flatMap sessC++(sessC l[p]).take 3:=by
    rw[← (flat_sess l p).1]
    have h3:=flat_at sessC (sz:=4) (fun _=>rfl) l p p1
    rw[← h3,List.take_take,Nat.min_eq_left (by omega),List.take_add]
   have h4:(l.flatMap sessC).drop (p*4+3+1)=(l.drop (p+1)).flatMap sessC:=by
    rw[← (flat_sess l (p+1)).2]; congr 1; omega
   unfold spl
   simp -implicitDefEqProofs only[cells_i,List.length_cons,List.length_nil,Nat.zero_add] at h4 ⊢
   rw[h2,h4]
   simp -implicitDefEqProofs[sessC]
  rw[hsp] at hr4
  have hn:l.length=(l.take p++[{ l[p] with un:=max l[p].un un }]++l.drop (p+1)).length:=by simp; omega
  rw[hn] at hr4
  exact⟨by rw[e4]; exact ext_upd (r3.new g g1) r3.ex,hr4,r3.new,sessC_one _⟩
 | false =>
  have e:beatS l id un=(l,3):=by simp[beatS,hh]
  rw[e] at hk
  simp -implicitDefEqProofs only[Bool.not_false,cd_b,true_implies]
  exact⟨hk _ _ r3,fun h=>(by cases h)⟩
end Go.Proofs.YtmbningljbcpkaaGreat
