/- Words, plain data and contracts of the Go functions that this claim reaches. No condition beyond the hypotheses that each theorem states. -/
import Derived.Test.YtcnphhhcknhhaaaGreatSa6
set_option linter.unusedSimpArgs false
set_option linter.unusedVariables false
namespace Go.Proofs.YtcnphhhcknhhaaaGreat
open Go Go.Den Go.MapKept
set_option linter.unusedSimpArgs false
set_option linter.unusedVariables false
set_option maxRecDepth 20000
variable {K:KTy}
theorem rw_watch {T0:Tags}{h0:Heap}{hp m N:Nat}{c:Cfg}{W:Wd}{M:Tbl}{T':Tags}{h':Heap}(y:RW T0 h0 hp m N c W M T' h')(hm:m<100000){i s:Nat}(hi:i<8)(u:ByteArray)(hu:u.size≤maxLen)(hs:s=M.stripe u)
  (hk:∀ T'' h'' W',Only (pre [1]) T' h' T'' h''→RW T0 h0 hp (m+1) N c W' (M.fed s ((M.fd s).watch i u)) T'' h''→K (.tuple #[]) h''):callM P qeYZ #[ptr hp,.int .i64 i,.int .i64 s,.string u,.bool true] h' K:=by
 obtain⟨A,xm⟩:=y.x
 have hsM:s<M.n:=by rw[hs]; exact y.k.ts.stripe u
 have hsn:s<W.H.n:=by rw[← y.k.li.n]; exact hsM
 refine hwatch_ok i u hu true y.o.wf g1 xm.hl hsn y.k.hs hm fun T2 h2 o2 y2=>?_
 refine hk T2 h2 ⟨W.H.watch i s u true,W.ps,bset W.ms i (miset (W.ms i) u true)⟩ o2 ⟨y.o.trans (o2.mono fun _=>.inl),⟨A,y2,fun j p hp=>(xm.ps j p hp).kp o2.k (d12i j) (by simp[pre])⟩,⟨y.k.li.watch y.k.ts hi hs (fun j q h=>(y.r j q h).2) (fun j q h=>(y.r j q h).1),y.k.hs.watch hsn hu true,?_⟩,y.r,y.n,y.c⟩
 exact (y.k.ts.mono (Nat.le_succ m)).fed ((y.k.ts.fd s hsM).watch i u hu)
theorem unSSE:P.underlying qAZ=some (.slice qkZ):=by kernel_rfl
theorem apSE:apC P qkZ=some (1,24,1):=by kernel_rfl
theorem bsSSE:bsI P qAZ=some (qkZ,1,#[.slice none 0 0]):=by kernel_rfl
theorem bdWatch (u:ByteArray):bdV (binf P qwZ) [(0,.int .i64 6),(1,.string u)]=some (.agg (opC ⟨6,u,0,0,0,0,[]⟩ (.slice none 0 0)).toArray):=by kernel_rfl
theorem bdPoll:bdV (binf P qwZ) [(0,.int .i64 8)]=some (.agg (opC ⟨8,⟨#[]⟩,0,0,0,0,[]⟩ (.slice none 0 0)).toArray):=by kernel_rfl
theorem bdRepEL (b:Option Addr)(n c:Nat)(l:Bool):bdV (binf P qcZ) [(2,.slice b n c),(3,.bool l)]=some (.agg #[.int .i64 0,.slice none 0 0,.slice b n c,.bool l]):=by kernel_rfl
theorem SqI.mono {T0:Tags}{h0:Heap}{hp pp k m m' N:Nat}{c:Cfg}{M:Tbl}{T':Tags}{h':Heap}(y:SqI T0 h0 hp pp k m N c M T' h')(h:m≤m'):SqI T0 h0 hp pp k m' N c M T' h':=by
 obtain⟨o,W,p,hl,sw,sl,wk,r⟩:=y
 exact⟨o,W,p,hl,sw,sl,⟨wk.li,wk.hs.mono h,wk.ts.mono h⟩,r⟩
theorem told_len {m:Nat}{M:Tbl}(hs:TS m M)(who:Int){s:Nat}(h:s<M.n):((M.fd s).told who).length≤16:=by
 unfold Feed.told
 split
 ·rename_i hcl
  exact ((hs.fd s h).qs _ (by simp[clientB] at hcl; omega)).2.2
 ·simp -implicitDefEqProofs
theorem totE_le:∀ l:List (List Evt),(∀ x∈l,x.length≤16)→totE l≤16*l.length
 | [],_=>by simp[totE]
 | a::l,hh=>by
  have h1:=totE_le l fun x hx=>hh x (by simp[hx])
  have h2:=hh a (by simp)
  simp -implicitDefEqProofs[totE] at h1 ⊢; omega
theorem tmEq (p q:Tm){x y:Operand}{K:Value→Prop}:pvM P (do eqGuard .eql qtZ x y (.agg (tmC p).toArray) (.agg (tmC q).toArray); binOp .eql qtZ (.agg (tmC p).toArray) (.agg (tmC q).toArray)) K=K (.bool (decide (p=q))):=by
 simp -implicitDefEqProofs only[tmC]
 rw[pv_eql (d:=5) (b:=(p.now == q.now) && ((p.seq == q.seq) && ((p.closed == q.closed) && true))) (by kernel_rfl) (by omega) (by kernel_rfl)]
 have:((p.now == q.now) && ((p.seq == q.seq) && ((p.closed == q.closed) && true)))=decide (p=q):=by
  rw[Bool.eq_iff_iff]; cases p; cases q; simp
 rw[this]
theorem Sl.slice {α:Type}{sz:Nat}{R:Heap→List Value→α→Prop}{h:Heap}{v:Value}{xs:List α}(x:Sl sz R h v xs):∃ b n c,v = .slice b n c:=by
 rcases x with ⟨_,a,c,rfl⟩ | ⟨b,o,cap,rfl,_⟩
 ·exact⟨_,_,_,rfl⟩
 ·exact⟨_,_,_,rfl⟩
def U7 (t:Tag):Prop:=U3 t∨pre [4] t∨t=[6]
theorem U7.nil:¬ U7 []:=by
 rintro (h | h | h)
 ·exact U3.nil h
 ·simp -implicitDefEqProofs[pre] at h
 ·cases h
structure SaD (T5:Tags)(h5:Heap)(hp mp N k:Nat)(H:Hall)(M0:Tbl)(av lv:Value)(T':Tags)(h':Heap):Prop where
 o:Only U7 T5 h5 T' h'
 hl:HallR T' h' [1] hp (drTo H 7 k)
 md:MdR T' h' [4] mp (swTo M0 k)
 r:∃ vs:Nat→Value,Rw T' h' [6] 1 qkZ av k (seqF k fun j=>[vs j])∧∀ j,j<k→Sl 8 EvR (fz T' h') (vs j) (((swTo M0 N).fd j).told 7)
 l:lv = .bool ((swTo M0 N).lostTo 7 k)
def SaI (T5:Tags)(h5:Heap)(hp mp N:Nat)(c:Cfg)(m:Nat)(nv:Value)(h':Heap):Prop:=∃ (T':Tags) (W:Wd) (M:Tbl) (n:Nat),Only U5 T5 h5 T' h'∧Two hp mp m N c W M T' h'∧nv = .int .i64 n∧n≤m
set_option maxHeartbeats 16000000 in
theorem sweepAlone_ok (c : Cfg) (cw : CfgW c) (xs : List OpD) {by_ : Int} (hby : U64 by_) {h : Heap} {v : Value} (x : Sl 7 OpR h v xs) (hk : ∀ h', Ext h h' → K (.bool true) h') :
    callM P qdwZ #[.agg (cfgC c).toArray, v, .int .u64 by_] h K := by
  apply qobZ
  unfold qdJZ
  have hlen := x.len
  refine nw_agg fun v1 h1 n1 e1 c1 => ?_
  refine awake18_ok fun h2 e2 => ?_
  have c1 := e2 _ _ c1
  have e02 := e1.trans e2
  unfold qgAZ
  have og : ∀ h', h' v1 = some (.cells (cfgC c).toArray qvZ (0, 0)) → ldV (some (some 7)) (ptr v1) h' = some (.agg (cfgC c).toArray) := fun h' hc => by simp [ld_at hc, cfgC]
  have os : ∀ h', h' v1 = some (.cells (cfgC c).toArray qvZ (0, 0)) → cel h' v1 0 = some (.int .i64 c.stripes) := fun h' hc => by simp [cel_of hc, cfgC]
  simp -implicitDefEqProofs [og _ c1]
  refine few18_ok c xs 0 (x.ext (@OpR.ext) e02) rfl fun h3 e3 => ?_
  have c1 := e3 _ _ c1
  have e03 := e02.trans e3
  cases hf : fewB c xs 0 with
  | false =>
    simp -implicitDefEqProofs
    exact awake18_ok fun h4 e4 => hk _ (e03.trans e4)
  | true =>
  simp -implicitDefEqProofs
  have hr : rightB c = true := by simp [fewB] at hf; exact hf.1.2
  have hl7 : xs.length ≤ 7 := by simp [fewB] at hf; exact hf.1.1
  have hsh : ∀ y ∈ xs, shortB y = true := by simp [fewB] at hf; exact hf.2
  unfold qgzZ
  simp -implicitDefEqProofs only [og _ c1, ov_s]
  refine hallNew_ok c cw (wf_nil h3) g1 (fun _ T4 h4 hp o4 y4 => ?_) (fun hr' => by rw [hr] at hr'; cases hr')
  have cb4 : h4 v1 = some (.cells (cfgC c).toArray qvZ (0, 0)) ∧ T4 v1 = [] := o4.k.at c1 rfl (by simp [pre])
  unfold qgyZ
  simp -implicitDefEqProofs [og _ cb4.1]
  refine mnew_ok c cw o4.wf g4 (fun _ T5 h5 mp o5 x5 => ?_) (fun hr' => by rw [hr] at hr'; cases hr')
  have d41 : Off (pre [4]) [1] := off_pre (g := []) (x := [4]) (y := [1]) (by simp) (by simp)
  have y5 := y4.up o5 d41 (by simp [pre])
  have r5 := RW.init cw hr o5.wf y5
  obtain ⟨hnn, hn0⟩ := cfg_nn hr
  obtain ⟨N, hN⟩ : ∃ N, c.stripes.toNat = N := ⟨_, rfl⟩
  rw [hN] at r5 x5 hnn hn0
  have hN8 : N ≤ 8 := by have := (HS.new cw hr hnn).n8.2; exact this
  have enil : ∀ p : Nat, binV .eql 4 true (ptr p) (.pointer none) = some (.bool false) := fun _ => rfl
  unfold qgxZ
  simp -implicitDefEqProofs [enil]
  have o35 : Only U5 (fun _ => []) h3 T5 h5 := (o4.mono fun _ h => .inl (.inl h)).trans (o5.mono fun _ => .inr)
  have z5 : Two hp mp 0 N c (wd0 c N) (tbl0 c N) T5 h5 := ⟨r5, x5⟩
  have xF : Sl 7 OpR (fz T5 h5) v xs := by
    have : Sl 7 OpR (fz (fun _ => []) h3) v xs := by rw [fz_nil]; exact x.ext (@OpR.ext) e03
    exact this.ext (@OpR.ext) (o35.ext U5.nil)
  unfold qgwZ
  rw [seqM_eq]
  unfold qgvZ
  refine loop_on [1, 2, 3, 7, 9] (fun s h' => ∃ i : Nat, SaI T5 h5 hp mp N c (20 * i) (s 11) h' ∧ s 12 = .int .i64 i ∧ i ≤ xs.length) (fun s _ => (xs.length - num (s 12)).toNat) ⟨0, ⟨T5, _, _, 0, Only.refl o5.wf, z5, rfl, by omega⟩, rfl, by omega⟩ ?_
  rintro s h6 hf6 ⟨i, ⟨T6, W6, M6, n6, o6, z6, s11, hn6⟩, s12, hi⟩
  have s1 : s 1 = v := by simpa using hf6 1 (by simp)
  have s2 : s 2 = .int .u64 by_ := by simpa using hf6 2 (by simp)
  have s3 : s 3 = ptr v1 := by simpa using hf6 3 (by simp)
  have s7 : s 7 = ptr hp := by simpa using hf6 7 (by simp)
  have s9 : s 9 = ptr mp := by simpa using hf6 9 (by simp)
  unfold qguZ
  simp -implicitDefEqProofs only [s1, hlen, s12, bin_lss, ov_s, cd_b]
  refine ⟨fun hc => ?_, fun hc => ?_⟩
  · have hlt : i < xs.length := by have : ((i : Int) < xs.length) := by simpa using hc
                                   omega
    have hw : IntKind.i64.wrap ((i : Int) + 1) = (i + 1 : Nat) := by rw [wrap64_id (by omega) (by omega)]; omega
    obtain ⟨b, p, u, i1, i2, i3, i4⟩ := opsAt xF hlt
    have eF6 : Ext (fz T5 h5) (fz T6 h6) := o6.ext U5.nil
    have hsx := hsh _ (List.getElem_mem hlt)
    have lx : xs[i].users.length ≤ 20 := by simp [shortB] at hsx; exact hsx.2.1
    have lu : xs[i].user.size ≤ 40 := by simp [shortB] at hsx; exact hsx.1
    unfold qgtZ
    rw [seqM_eq]
    unfold qgsZ
    simp -implicitDefEqProofs only [s1, s12, i1, i2 _ (eF6.trans (fz_ext _ _)), ov_s]
    refine writing18_ok _ i3.one fun h7 e7 => ?_
    unfold qfXZ
    have ou := i3.one
    have zcOp' : zc P qwZ = some (opC ⟨0, ⟨#[]⟩, 0, 0, 0, 0, []⟩ (.slice none 0 0)).toArray := by kernel_rfl
    rw [zcOp']
    obtain ⟨X, hX⟩ : ∃ X, X = wrOp xs[i] := ⟨_, rfl⟩
    have Xw : OpW X := by rw [hX]; exact wrOp_w i4
    have Xu : X.users = xs[i].users := by rw [hX]; rfl
    have Xus : X.user = xs[i].user := by rw [hX]; rfl
    have Xk : X.kind = 1 ∨ X.kind = 2 ∨ X.kind = 3 := by rw [hX]; exact wrOp_k _
    rw [← hX]
    refine nw_st (by simp [opC]) (by simp [opC]) (by simp [opC, ou.1]) fun vb h8 n8 e8 c8 => ?_
    have c8 : h8 vb = some (.cells (opC X u).toArray qwZ (0, 0)) := by simpa using c8
    have oa : ∀ h', h' vb = some (.cells (opC X u).toArray qwZ (0, 0)) → ldV (some (some 7)) (ptr vb) h' = some (.agg (opC X u).toArray) := fun h' hc => by simp [ld_at hc, opC]
    have ob : ∀ h', h' vb = some (.cells (opC X u).toArray qwZ (0, 0)) → cel h' vb 1 = some (.string X.user) := fun h' hc => by simp [cel_of hc, opC]
    simp -implicitDefEqProofs only [oa _ c8, ov_s]
    have e68 := e7.trans e8
    have tb8 : T6 vb = [] := z6.1.o.wf vb (fresh_of e7 n8)
    refine modBad_ok X Xw (by rw [Xu]; exact i3.ext (@StrR.ext) ((eF6.trans (fz_ext _ _)).trans e68)) (by rw [Xu]; omega) fun h9 e9 => ?_
    have e69 := e68.trans e9
    have c9 := e9 _ _ c8
    have z9 := z6.ext e69
    have o69 : Only non T6 h6 T6 h9 := Only.of_ext z6.1.o.wf e69
    have o59 : Only U5 T5 h5 T6 h9 := o6.up o69 non_up
    unfold qfWZ
    cases hbX : badB X with
    | true =>
      simp -implicitDefEqProofs
      unfold qfJZ
      simp -implicitDefEqProofs [s1, s2, s3, s7, s9, s11, s12, hw, -Int.natCast_add]
      exact ⟨⟨i + 1, ⟨T6, W6, M6, n6, o59, z9.mono (by omega), rfl, by omega⟩, rfl, by omega⟩, by omega⟩
    | false =>
    simp -implicitDefEqProofs
    unfold qfVZ
    rw [seqM_eq]
    unfold qfOZ
    obtain ⟨Y, hY⟩ : ∃ Y : OpD, Y = ⟨6, X.user, 0, 0, 0, 0, []⟩ := ⟨_, rfl⟩
    have Yw : OpW Y := by rw [hY]; exact ⟨by simp [I64], by simp [I64], by simp [I64], by simp [I64], by simp [U64], Xw.s1⟩
    have Yb : badB Y = false := by
      have hnb : nameB X.user = true := by
        rcases Xk with h | h | h <;> simp [badB, h] at hbX <;> exact hbX.1
      rw [hY]; simp [badB, hnb]
    have Yk : Y.kind = 6 := by rw [hY]
    have Yu : Y.user = X.user := by rw [hY]
    have Yl : Y.users = [] := by rw [hY]
    -- the writing itself
    have tail : ∀ (t : Env) (T : Tags) (h' : Heap) (W : Wd) (M : Tbl) (Q : Post), Only U5 T5 h5 T h' → Two hp mp (20 * i + 1) N c W M T h' → h' vb = some (.cells (opC X u).toArray qwZ (0, 0)) → T vb = [] → t 1 = v → t 2 = .int .u64 by_ → t 3 = ptr v1 → t 7 = ptr hp → t 9 = ptr mp → t 11 = .int .i64 n6 → t 12 = .int .i64 i → t 13 = ptr vb →
        (∀ s'' h'', s'' 1 = v → s'' 2 = .int .u64 by_ → s'' 3 = ptr v1 → s'' 7 = ptr hp → s'' 9 = ptr mp → s'' 12 = .int .i64 i → SaI T5 h5 hp mp N c (20 * (i + 1)) (s'' 11) h'' → Q .normal [] s'' h'') → qcCZ t h' [] Q := by
      intro t T h' W M Q o z cb tb t1 t2 t3 t7 t9 t11 t12 t13 hQ
      have uT : Sl 1 StrR (fz T h') u X.users := by rw [Xu]; exact i3.ext (@StrR.ext) (o.ext U5.nil)
      unfold qcCZ
      simp -implicitDefEqProofs only [t13, t7, t12, oa _ cb, ov_s]
      refine aw_new z.1 (by omega) X Xw (by rw [Xu]; omega) uT fun Ta ha q a0 => ?_
      unfold qfUZ
      rw [seqM_eq]
      unfold qfSZ
      refine loop_on [1, 2, 3, 7, 9, 12, 13, 14] (fun s h'' => ∃ T'', ∃ k : Nat, AwI T h' hp q i k (20 * i + 1) N c X M T'' h'' ∧ s 11 = .int .i64 (n6 + k : Nat) ∧ s 15 = .int .i64 k ∧ k ≤ 7) (fun s _ => (9 - num (s 15)).toNat) ⟨Ta, 0, a0, by simp [t11], by simp, by omega⟩ ?_
      rintro r hb hfb ⟨Tb, k, a, r11, r15, hk7⟩
      have r1 : r 1 = v := by simpa [t1] using hfb 1 (by simp)
      have r2 : r 2 = .int .u64 by_ := by simpa [t2] using hfb 2 (by simp)
      have r3 : r 3 = ptr v1 := by simpa [t3] using hfb 3 (by simp)
      have r7 : r 7 = ptr hp := by simpa [t7] using hfb 7 (by simp)
      have r9 : r 9 = ptr mp := by simpa [t9] using hfb 9 (by simp)
      have r12 : r 12 = .int .i64 i := by simpa [t12] using hfb 12 (by simp)
      have r13 : r 13 = ptr vb := by simpa [t13] using hfb 13 (by simp)
      have r14 : r 14 = ptr q := by simpa using hfb 14 (by simp)
      unfold qfRZ
      by_cases hkk : k < 7
      · have hki : (k : Int) < 7 := by omega
        have hw1 : IntKind.i64.wrap (((n6 + k : Nat) : Int) + 1) = (n6 + (k + 1) : Nat) := by rw [wrap64_id (by omega) (by omega)]; omega
        have hw2 : IntKind.i64.wrap ((k : Int) + 1) = (k + 1 : Nat) := by rw [wrap64_id (by omega) (by omega)]; omega
        simp -implicitDefEqProofs [r15, hki]
        unfold qfQZ
        simp -implicitDefEqProofs only [r14, r7, r11]
        refine aw_step a hkk (by omega) _ fun T9 h9 a9 => ?_
        unfold qfPZ
        simp -implicitDefEqProofs [r11, r15, hw1, hw2, -Int.natCast_add, r1, r2, r3, r7, r9, r12, r13, r14, t1, t2, t3, t7, t9, t12, t13]
        exact ⟨⟨T9, k + 1, a9, rfl, rfl, by omega⟩, by omega⟩
      · obtain rfl : k = 7 := by omega
        obtain ⟨W9, p9, rw9, -⟩ := aw_done a
        rw [bef_do Xk (i := i) (by omega)] at rw9
        have bb := a.o.see ⟨cb, tb⟩ UW.nil
        have xd : MdR Tb hb [4] mp M := z.2.up a.o dUW4 UW.nil
        simp -implicitDefEqProofs [r15]
        unfold qfTZ
        simp -implicitDefEqProofs [r13, r9, r12, oa _ bb.1]
        refine mdoW_ok X Xw Xk (by rw [Xu]; omega) (by omega) (uT.ext (@StrR.ext) (a.o.ext UW.nil)) a.o.wf g4 xd z.1.k.ts (by omega) fun Tm hm om xmm => ?_
        have rwm := rw9.base om d4UW (by simp [pre])
        refine hQ _ _ (by simp [r1]) (by simp [r2]) (by simp [r3]) (by simp [r7]) (by simp [r9]) (by simp [r12]) ⟨Tm, W9, _, n6 + 7, (o.trans (a.o.mono fun _ => .inl)).trans (om.mono fun _ => .inr), (show Two hp mp (20 * i + 1 + 7) N c W9 (M.do_ i X).1 Tm hm from ⟨rwm, xmm⟩).mono (by omega), by simp [r11], by omega⟩
    simp -implicitDefEqProofs [ob _ c9, bdWatch, ← hY, s9]
    refine mdo_ok 7 Y Yw (by rw [Yl]; simp) (by rw [Yl]; exact .inl ⟨rfl, _, _, rfl⟩) z9.1.o.wf g4 z9.2 z9.1.k.ts (by omega) fun Tm hm vv ev om xm rx => ?_
    have bm := om.see (b := vb) (t := []) ⟨c9, tb8⟩ (by simp [pre])
    have rm := z9.1.base om d4UW (by simp [pre])
    have o5m : Only U5 T5 h5 Tm hm := o59.trans (om.mono fun _ => .inr)
    have hfd : fdV (some (none, 0)) (.agg (rplC (M6.do_ 7 Y).2 vv ev).toArray) = some (.int .i64 (M6.do_ 7 Y).2.err) := by simp [fdV, rplC]
    unfold qfNZ
    simp -implicitDefEqProofs [hfd]
    refine ⟨fun he => ?_, fun he => ?_⟩
    · unfold qfLZ
      simp -implicitDefEqProofs [ob _ bm.1, s7]
      have hst := stripeOf_lt (u := X.user) (n := c.stripes) (by omega)
      have hMc : M6.c = c := by rw [z6.1.k.li.c, z6.1.c]
      refine hstripe_ok X.user Xw.s1 rm.hl (by rw [rm.c]; omega) ?_
      rw [rm.c]
      have hsi : stripeOf X.user c.stripes = ((M6.stripe X.user : Nat) : Int) := by unfold Tbl.stripe; rw [hMc]; omega
      rw [hsi]
      unfold qfKZ
      simp -implicitDefEqProofs [ob _ bm.1, s7]
      refine rw_watch rm (by omega) (i := 7) (by omega) X.user Xw.s1 rfl fun Tw hw' Ww ow rww => ?_
      have hwd := watch_do (M := M6) (i := 7) Yk Yb (by omega) he
      rw [Yu] at hwd
      have hwd : (M6.do_ (7 : Int) Y).1 = _ := hwd
      rw [hwd] at xm
      have bw := ow.see bm (by simp [pre])
      have xw : MdR Tw hw' [4] mp _ := xm.up ow (off_pre (g := []) (x := [1]) (y := [4]) (by simp) (by simp)) (by simp [pre])
      refine tail _ Tw hw' Ww _ _ (o5m.trans (ow.mono fun _ h => .inl (.inl h))) ⟨rww.base (Only.refl (U := non) rww.o.wf) (fun _ _ h => h) (not_non _), xw⟩ bw.1 bw.2 (by simp [s1]) (by simp [s2]) (by simp [s3]) (by simp [s7]) (by simp [s9]) (by simp [s11]) (by simp [s12]) (by simp) ?_
      intro t' h'' q1 q2 q3 q7 q9 q12 J
      simp -implicitDefEqProofs [s1, s2, s3, s7, s9, q1, q2, q3, q7, q9, q12, s12, hw, -Int.natCast_add]
      exact ⟨⟨i + 1, J, rfl, by omega⟩, by omega⟩
    · unfold qfMZ
      have hwd := watch_no (M := M6) (i := 7) Yk Yb (by omega) he
      have hwd : (M6.do_ (7 : Int) Y).1 = M6 := hwd
      rw [hwd] at xm
      refine tail _ Tm hm W6 M6 _ o5m ((show Two hp mp (20 * i) N c W6 M6 Tm hm from ⟨rm, xm⟩).mono (by omega)) bm.1 bm.2 (by simp [s1]) (by simp [s2]) (by simp [s3]) (by simp [s7]) (by simp [s9]) (by simp [s11]) (by simp [s12]) (by simp) ?_
      intro t' h'' q1 q2 q3 q7 q9 q12 J
      simp -implicitDefEqProofs [s1, s2, s3, s7, s9, q1, q2, q3, q7, q9, q12, s12, hw, -Int.natCast_add]
      exact ⟨⟨i + 1, J, rfl, by omega⟩, by omega⟩
  · have hil : i = xs.length := by have : ¬ ((i : Int) < xs.length) := by simpa using hc
                                   omega
    simp -implicitDefEqProofs
    unfold qgqZ
    simp -implicitDefEqProofs [s7, s2]
    refine rw_pass z6.1 (by omega) 9 by_ hby fun T7 h7 W7 y7 => ?_
    have x7 := z6.2.up y7.o dUW4 UW.nil
    unfold qgpZ
    simp -implicitDefEqProofs [s9, s2]
    refine mtick_ok by_ hby y7.o.wf g4 x7 z6.1.k.ts.tn fun T8 h8 o8 x8 => ?_
    have y8 := y7.base o8 d4UW (by simp [pre])
    have o68 : Only U5 T5 h5 T8 h8 := (o6.trans (y7.o.mono fun _ => .inl)).trans (o8.mono fun _ => .inr)
    obtain ⟨M0, hM0⟩ : ∃ M0, M6.tick by_ = M0 := ⟨_, rfl⟩
    rw [hM0] at x8 y8
    unfold qgoZ
    simp -implicitDefEqProofs [s7]
    refine snew_ok y8.o.wf g3 fun T9 h9 pp o9 x9 => ?_
    have y9 := y8.base o9 d3UW (by simp [pre])
    have z9 := sq_init y9 hn0 x9
    have xm9 := x8.up o9 (off_pre (g := []) (x := [3]) (y := [4]) (by simp) (by simp)) (by simp [pre])
    have n0 : M0.n = N := by rw [y8.k.li.n]; exact y8.n
    have ts0 := y8.k.ts
    have d34 : Off U3 [4] := fun t ht hh => hh.elim (dUW4 t ht) (off_pre (g := []) (x := [3]) (y := [4]) (by simp) (by simp) t ht)
    unfold qgnZ
    rw [seqM_eq]
    unfold qgbZ
    have oU7 : Only U7 T5 h5 T9 h9 := (o68.mono fun t h => h.elim (fun h => .inl (.inl h)) fun h => .inr (.inl h)).trans (o9.mono fun _ h => .inl (.inr h))
    have cF : ∀ {T' h'}, Only U7 T5 h5 T' h' → cel h' v1 0 = some (.int .i64 (N : Nat)) := fun o => by
      have b5 := o35.see (b := v1) (t := []) ⟨c1, rfl⟩ U5.nil
      have := (o.see b5 U7.nil).1
      rw [hnn]; exact os _ this
    have kEnd : ∀ {T' h'}, Only U7 T5 h5 T' h' → ∀ {h''}, Ext h' h'' → K (.bool true) h'' := fun {T' h'} o {h''} e => hk _ (e03.trans ((ext_of_only (U := fun t => U5 t ∨ U7 t) ((o35.mono fun _ => .inl).trans (o.mono fun _ => .inr)) (by
      rintro (h | h)
      · exact U5.nil h
      · exact U7.nil h)).trans e))
    refine loop_on [2, 3, 7, 9, 16] (fun s h' => ∃ T', ∃ k : Nat, SqI T9 h9 hp pp k (141 + k) N c (swTo M0 ((k + 4) / 7)) T' h' ∧ s 11 = .int .i64 (n6 + k : Nat) ∧ s 17 = .int .i64 k ∧ k ≤ 7 * N) (fun s _ => (100 - num (s 17)).toNat) ⟨T9, 0, z9.mono (by omega), by simp [s11], by simp, by omega⟩ ?_
    rintro t h10 hf10 ⟨T10, k, z10, t11, t17, hk7⟩
    have t2 : t 2 = .int .u64 by_ := by simpa [s2] using hf10 2 (by simp)
    have t3 : t 3 = ptr v1 := by simpa [s3] using hf10 3 (by simp)
    have t7 : t 7 = ptr hp := by simpa [s7] using hf10 7 (by simp)
    have t9 : t 9 = ptr mp := by simpa [s9] using hf10 9 (by simp)
    have t16 : t 16 = ptr pp := by simpa using hf10 16 (by simp)
    have o510 : Only U7 T5 h5 T10 h10 := oU7.trans (z10.o.mono fun _ => .inl)
    have c10 := cF o510
    have bmul : binV .mul 2 true (.int .i64 7) (.int .i64 N) = some (.int .i64 (7 * N : Nat)) := by
      have : IntKind.i64.wrap (7 * (N : Int)) = (7 * N : Nat) := by rw [wrap64_id (by omega) (by omega)]; omega
      simp -implicitDefEqProofs [binV, intV, this]
    unfold qgaZ
    by_cases hkk : k < 7 * N
    · have hki : (k : Int) < (7 * N : Nat) := by omega
      have hw1 : IntKind.i64.wrap (((n6 + k : Nat) : Int) + 1) = (n6 + (k + 1) : Nat) := by rw [wrap64_id (by omega) (by omega)]; omega
      have hw2 : IntKind.i64.wrap ((k : Int) + 1) = (k + 1 : Nat) := by rw [wrap64_id (by omega) (by omega)]; omega
      simp -implicitDefEqProofs only [t3, t17, faV_p, ov_s, ldV_c, Nat.zero_add, c10, bmul, bin_lss, decide_eq_true hki, cd_b, true_implies, reduceCtorEq, false_implies, and_true]
      unfold qfZZ
      simp -implicitDefEqProofs only [t16, t7, t11]
      refine sq_step z10 (by omega) (by omega) _ fun T11 h11 z11 => ?_
      rw [swTo_next M0 hkk] at z11
      unfold qfYZ
      simp -implicitDefEqProofs [t11, t17, hw1, hw2, -Int.natCast_add, s2, s3, s7, s9, t2, t3, t7, t9, t16]
      exact ⟨⟨T11, k + 1, z11, rfl, rfl, by omega⟩, by omega⟩
    have hk7' : k = 7 * N := by omega
    subst hk7'
    have hki : ¬ ((7 * N : Nat) : Int) < (7 * N : Nat) := by omega
    simp -implicitDefEqProofs only [t3, t17, faV_p, ov_s, ldV_c, Nat.zero_add, c10, bmul, bin_lss, decide_eq_false hki, cd_b, true_implies, reduceCtorEq, false_implies, true_and]
    have hdiv : (7 * N + 4) / 7 = N := by omega
    rw [hdiv] at z10
    obtain ⟨W10, p10, hl10, sw10, wk10, hn10, hc10, free10, _⟩ := z10.rest (by omega)
    simp -implicitDefEqProofs
    unfold qgmZ
    rw [seqM_eq]
    unfold qghZ
    have hfd : ∀ s, s < N → (W10.H.ss s).feed = (swTo M0 N).fd s := fun s hs => (congrArg Prod.snd (free10 s hs).e).symm
    have d16 : ∀ t : Tag, pre [1] t → ¬ t = [6] := fun t ht h => by subst h; simp [pre] at ht
    have d46 : ∀ t : Tag, pre [4] t → ¬ t = [6] := fun t ht h => by subst h; simp [pre] at ht
    have a0 : SaD T5 h5 hp mp N 0 W10.H M0 (.slice none 0 0) (.bool false) T10 h10 := ⟨o510, hl10, xm9.up z10.o d34 U3.nil, ⟨fun _ => .slice none 0 0, Rw.nil _ _ _ _ _, fun j hj => by omega⟩, by simp [Tbl.lostTo]⟩
    refine loop_on [3, 7, 9] (fun s h' => ∃ T', ∃ k : Nat, SaD T5 h5 hp mp N k W10.H M0 (s 18) (s 19) T' h' ∧ s 20 = .int .i64 k ∧ k ≤ N) (fun s _ => (10 - num (s 20)).toNat) ⟨T10, 0, by simpa using a0, by simp, by omega⟩ ?_
    rintro r h11 hf11 ⟨T11, k, a, r20, hkN⟩
    have r3 : r 3 = ptr v1 := by simpa [t3] using hf11 3 (by simp)
    have r7 : r 7 = ptr hp := by simpa [t7] using hf11 7 (by simp)
    have r9 : r 9 = ptr mp := by simpa [t9] using hf11 9 (by simp)
    have c11 := cF a.o
    have sn := swTo_n M0 k (by omega)
    have dn := drTo_n W10.H 7 k
    have hsD := wk10.hs.drTo 7 k (by omega)
    have tsk := ts0.swTo k
    unfold qggZ
    simp -implicitDefEqProofs [r3, c11, r20]
    refine ⟨fun hc3 => ?_, fun hc3 => ?_⟩
    · have hw2 : IntKind.i64.wrap ((k : Int) + 1) = (k + 1 : Nat) := by rw [wrap64_id (by omega) (by omega)]; omega
      unfold qgfZ
      simp -implicitDefEqProofs [r9, r20]
      refine msweep_ok (s := k) a.o.wf g4 a.md (by omega) tsk (by omega) fun T12 h12 o12 x12 => ?_
      have hl12 := a.hl.up o12 (off_pre (g := []) (x := [4]) (y := [1]) (by simp) (by simp)) (by simp [pre])
      unfold qgeZ
      simp -implicitDefEqProofs [r7, r20]
      have hdk : (drTo W10.H 7 k).ss k = W10.H.ss k := drTo_ge W10.H 7 k (Nat.le_refl k)
      refine hdrain_ok 7 (s := k) o12.wf g1 hl12 (by omega) hsD (by omega) (fun j hj => ?_) fun T13 h13 v13 o13 hl13 sl13 => ?_
      · have := (((hsD.st k (by omega)).fd).qs j hj).2.2; omega
      rw [hdk, hfd k (by omega)] at sl13 ⊢
      have o11' : Only U7 T11 h11 T13 h13 := (o12.mono fun _ h => .inr (.inl h)).trans (o13.mono fun _ h => .inl (.inl (.inl h)))
      obtain ⟨vs, row, hvs⟩ := a.r
      have row13 := (row.kp o12.k (fun h => d46 _ h rfl)).kp o13.k (fun h => d16 _ h rfl)
      have v1one := sl13.one
      unfold qgdZ
      simp -implicitDefEqProofs
      refine Rw.appk bsSSE unSSE apSE (by omega) (by rw [v1one.2]; rfl) (by rw [v1one.2]; simp [v1one.1]) o13.wf row13 (by unfold maxLen; omega) (by omega) (by omega) (by simp) fun a' v' T14 h14 o14 row14 _ _ => ?_
      have f14 : ∀ {t : Tag}, pre [1] t ∨ pre [4] t → ¬ (fun t : Tag => t = [6]) t := fun h hh => h.elim (fun h => d16 _ h hh) fun h => d46 _ h hh
      have n14 : ¬ (fun t : Tag => t = [6]) [] := by simp
      have hl14 := hl13.up o14 (fun t ht => f14 (.inl ht)) n14
      have md14 := (x12.up o13 (off_pre (g := []) (x := [1]) (y := [4]) (by simp) (by simp)) (by simp [pre])).up o14 (fun t ht => f14 (.inr ht)) n14
      have eF : Ext (fz T11 h11) (fz T14 h14) := (o11'.ext U7.nil).trans (o14.ext n14)
      have hls : (swTo M0 N).lostTo 7 (k + 1) = ((swTo M0 N).lostTo 7 k || ((swTo M0 N).fd k).lost 7) := by
        unfold Tbl.lostTo
        rw [List.range_succ, List.any_append]; simp
      have a14 : SaD T5 h5 hp mp N (k + 1) W10.H M0 v' (.bool ((swTo M0 N).lostTo 7 k || ((swTo M0 N).fd k).lost 7)) T14 h14 := by
        refine ⟨(a.o.trans o11').trans (o14.mono fun _ h => .inr (.inr h)), hl14, md14, ⟨bset vs k v13, ?_, fun j hj => ?_⟩, by rw [hls]⟩
        · have : (seqF (k + 1) fun j => [bset vs k v13 j]) = (seqF k fun j => [vs j]) ++ v13.cells.toList := by
            rw [seqF_succ, bset_same, v1one.2]
            congr 1
            exact seqF_congr fun j hj => by rw [bset_ne (by omega)]
          rw [this]; exact row14
        · by_cases hjk : j = k
          · subst hjk; rw [bset_same]; exact sl13.ext (@EvR.ext) (o14.ext n14)
          · rw [bset_ne hjk]; exact (hvs j (by omega)).ext (@EvR.ext) eF
      have al := a.l
      unfold qgcZ
      rw [al]
      cases hb : (swTo M0 N).lostTo 7 k
      · rw [hb] at a14
        simp -implicitDefEqProofs [t3, t7, t9, r3, r7, r9, r20, hw2, -Int.natCast_add]
        exact ⟨⟨T14, k + 1, by simpa using a14, rfl, by omega⟩, by omega⟩
      · rw [hb] at a14
        simp -implicitDefEqProofs [t3, t7, t9, r3, r7, r9, r20, hw2, -Int.natCast_add]
        exact ⟨⟨T14, k + 1, by simpa using a14, rfl, by omega⟩, by omega⟩
    have hkN : k = N := by omega
    subst hkN
    have hMN : (swTo M0 k).n = k := sn.1.trans n0
    obtain ⟨vs, row, hvs⟩ := a.r
    obtain ⟨Z, hZ⟩ : ∃ Z : OpD, Z = ⟨8, ⟨#[]⟩, 0, 0, 0, 0, []⟩ := ⟨_, rfl⟩
    have Zw : OpW Z := by rw [hZ]; exact ⟨by simp [I64], by simp [I64], by simp [I64], by simp [I64], by simp [U64], by simp [maxLen]; decide⟩
    have Zb : badB Z = false := by rw [hZ]; rfl
    have Zk : Z.kind = 8 := by rw [hZ]
    have Zl : Z.users = [] := by rw [hZ]
    have hpoll := poll_do (M := swTo M0 k) (i := 7) Zk Zb (by omega)
    have hpoll : (swTo M0 k).do_ (7 : Int) Z = (swTo M0 k).poll (7 : Int) := hpoll
    simp -implicitDefEqProofs
    unfold qglZ
    simp -implicitDefEqProofs [bdPoll, ← hZ, r9]
    refine mdo_ok 7 Z Zw (by rw [Zl]; simp) (by rw [Zl]; exact .inl ⟨rfl, _, _, rfl⟩) a.o.wf g4 a.md tsk (by omega) fun T12 h12 vv ev o12 x12 rx => ?_
    rw [hpoll] at x12 rx ⊢
    have hl12 := a.hl.up o12 (off_pre (g := []) (x := [4]) (y := [1]) (by simp) (by simp)) (by simp [pre])
    have row12 := row.kp o12.k fun h => d46 _ h rfl
    have oF := a.o.trans (o12.mono fun _ h => (.inr (.inl h) : U7 _))
    have vo := rx.v.one
    have eo := rx.e.one
    have zcRepl : zc P qcZ = some #[.int .i64 0, .slice none 0 0, .slice none 0 0, .bool false] := by kernel_rfl
    unfold qgkZ
    rw [zcRepl]
    refine nw_st (by simp [rplC]) (by simp [rplC]) (by simp [rplC, vo.1, eo.1]) fun vr h13 n13 e13 c13 => ?_
    have c13 : h13 vr = some (.cells (rplC ((swTo M0 k).poll 7).2 vv ev).toArray qcZ (0, 0)) := by simpa using c13
    have or : ∀ h', h' vr = some (.cells (rplC ((swTo M0 k).poll 7).2 vv ev).toArray qcZ (0, 0)) → ldV (some (some 4)) (ptr vr) h' = some (.agg (rplC ((swTo M0 k).poll 7).2 vv ev).toArray) := fun h' hc => by simp [ld_at hc, rplC]
    have w13 := oF.wf.ext e13
    have eo13 := Only.of_ext (U := non) oF.wf e13
    have hl13 := hl12.up eo13 (Off.non _) (not_non _)
    simp -implicitDefEqProofs [r7]
    refine hstored_ok w13 hl13 hsD (by omega) fun h14 e14 => ?_
    unfold qgjZ
    simp -implicitDefEqProofs [r9]
    have eo14 := Only.of_ext (U := non) oF.wf (e13.trans e14)
    have x14 := x12.kp eo14.k (Off.non _) (not_non _)
    have ts12 : TS (141 + 7 * k + 1) ((swTo M0 k).poll 7).1 := by
      have := tsk.do_ 7 Zw
      rw [hpoll] at this
      exact this.mono (by omega)
    refine mstored_ok eo14.wf x14 ts12 (by omega) fun h15 e15 => ?_
    have hst : (drTo W10.H 7 k).stored = ((swTo M0 k).poll 7).1.stored := by
      rw [drTo_stored, stored_rest (M := swTo M0 k) (by rw [hMN, hn10]) fun s hs => free10 s (by omega)]
      rfl
    have e35 := (e13.trans e14).trans e15
    have eo15 := Only.of_ext (U := non) oF.wf e35
    have hl15 := hl12.up eo15 (Off.non _) (not_non _)
    rw [hst]
    unfold qgiZ
    simp -implicitDefEqProofs [r7, r9]
    refine now_ok hl15 fun h16 e16 => ?_
    have eo16 := Only.of_ext (U := non) oF.wf (e35.trans e16)
    refine mtime_ok eo16.wf (x12.kp eo16.k (Off.non _) (not_non _)) fun h17 e17 => ?_
    have htm : (drTo W10.H 7 k).t = ((swTo M0 k).poll 7).1.t := by rw [dn.2.2, ← wk10.li.t]; rfl
    rw [htm, tmEq]
    have e37 := (e35.trans e16).trans e17
    have c17 := (((e14.trans e15).trans e16).trans e17) _ _ c13
    have eo17 := Only.of_ext (U := non) oF.wf e37
    have al := a.l
    have hlen : ((swTo M0 k).toldTo 7 k).length = k := by simp [Tbl.toldTo]
    have hget : ∀ i (hi : i < ((swTo M0 k).toldTo 7 k).length), ((swTo M0 k).toldTo 7 k)[i] = ((swTo M0 k).fd i).told 7 := fun i hi => by simp [Tbl.toldTo]
    have h16' : ∀ x ∈ (swTo M0 k).toldTo 7 k, x.length ≤ 16 := fun x hx => by
      obtain ⟨i, hi, rfl⟩ := List.getElem_of_mem hx
      rw [hget i hi]; exact told_len tsk 7 (by omega)
    have sls : Sl 1 EvsR h17 (r 18) ((swTo M0 k).toldTo 7 k) := by
      refine Row.sl' (F := fun j => [vs j]) (e := qkZ) (fun _ _ => rfl) (fun i hi => ⟨vs i, rfl, ?_⟩) (by rw [hlen]; exact (row12.kp eo17.k (not_non _)).1)
      rw [hget i hi]
      exact (hvs i (by omega)).ext (@EvR.ext) (((o12.ext (by simp [pre])).trans (fz_ext _ _)).trans e37)
    have htot := totE_le _ h16'
    simp -implicitDefEqProofs [or _ c17, al]
    refine merge_ok ((swTo M0 k).toldTo 7 k) eo17.wf sls (by omega) (by omega) (fun i => ?_) fun v' h18 e18 sl18 => ?_
    · unfold nth
      rw [List.getD_eq_getElem?_getD]
      by_cases hi : i < ((swTo M0 k).toldTo 7 k).length
      · rw [List.getElem?_eq_getElem hi]
        have := h16' _ (List.getElem_mem hi)
        show ((swTo M0 k).toldTo 7 k)[i].length < _
        omega
      · rw [List.getElem?_eq_none (by omega)]; simp
    have c18 := e18 _ _ c17
    obtain ⟨b', n', cc', rfl⟩ := Sl.slice sl18
    simp -implicitDefEqProofs [or _ c18, bdRepEL]
    have hp2 : ((swTo M0 k).poll 7).2 = ⟨0, [], mergeE ((swTo M0 k).toldTo 7 k), (swTo M0 k).lostTo 7 k⟩ := by
      unfold Tbl.poll; rw [hMN]
    have rx2 : RpX h18 ((swTo M0 k).poll 7).2 (.slice none 0 0) (.slice b' n' cc') := by
      rw [hp2]
      exact ⟨.inl ⟨rfl, _, _, rfl⟩, sl18.ext (@EvR.ext) (fz_ext _ _)⟩
    have hrw : (#[Value.int .i64 0, .slice none 0 0, .slice b' n' cc', .bool ((swTo M0 k).lostTo 7 k)] : Array Value) = (rplC ((swTo M0 k).poll 7).2 (.slice none 0 0) (.slice b' n' cc')).toArray := by rw [hp2]; rfl
    rw [hrw]
    have hml := merge_len ((swTo M0 k).toldTo 7 k)
    refine repSame_ok _ _ ((rx.ext (fz_ext _ _)).ext (e37.trans e18)) rx2 (by rw [hp2]; simp) (by rw [hp2]; show (mergeE _).length < _; omega) fun h19 e19 => ?_
    simp -implicitDefEqProofs
    exact kEnd oF ((e37.trans e18).trans e19)
end Go.Proofs.YtcnphhhcknhhaaaGreat
namespace Go.Proofs.YtcnphhhcknhhaaaGreat
open Go Go.Den
variable {K:KTy}
theorem sweepAlone_row {c:Cfg}{xs:List OpD}{by_:Int}{b0:Array Value}{v:Value}{h:Heap}(hc:CfgR h b0.toList c)(hx:Sl 7 OpR h v xs)(hb:U64 by_)(hk:∀ h',Ext h h'→K (.bool true) h') :
  callM P qdwZ #[.agg b0,v,.int .u64 by_] h K:=by
 obtain⟨e0,cw⟩:=hc
 have h0:b0=(cfgC c).toArray:=by rw[← e0]
 rw[h0]
 exact sweepAlone_ok c cw xs hb hx hk
end Go.Proofs.YtcnphhhcknhhaaaGreat
