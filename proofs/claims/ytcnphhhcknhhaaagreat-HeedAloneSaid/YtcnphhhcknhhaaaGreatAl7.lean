/- Words, plain data and contracts of the Go functions that this claim reaches. No condition beyond the hypotheses that each theorem states. -/
import Derived.Test.YtcnphhhcknhhaaaGreatAl6
set_option linter.unusedSimpArgs false
set_option linter.unusedVariables false
namespace Go.Den
open Go
set_option linter.unusedVariables false
set_option linter.unusedSimpArgs false
def HP.pl (p:HP):Nat:=if p.one then 0 else if p.x.kind=8 then p.k else 1
theorem places_pl (p:HP) (hlt:p.at_ < p.steps):p.places=decide (p.at_=p.pl):=by
 unfold HP.places HP.pl
 unfold HP.steps at hlt
 cases h:p.one with
 | true=>rw [h] at hlt; simp at hlt; simp [hlt]
 | false =>
  by_cases h8:p.x.kind=8 <;> simp [h8]
theorem pl_lt (p:HP) (hk:1 ≤ p.k):p.pl < p.steps:=by
 unfold HP.pl HP.steps
 cases h:p.one with
 | true=>simp
 | false=>by_cases h8:p.x.kind=8 <;> simp [h8] <;> omega
structure AH (i k:Nat) (W:Wd) (M M0:Tbl) (x:OpD) (p:HP):Prop where
 hp:W.ps i=some (.h p)
 ar:AR W i
 xx:p.x=x
 at_:p.at_=k
 le:k ≤ p.steps
 m:M=if p.pl < k then (M0.do_ i x).1 else M0
 po:HO p (W.ms i) W.H (if p.pl < k then (M0.do_ i x).2 else rep0)
theorem AH.en {i k:Nat} {W:Wd} {M M0:Tbl} {x:OpD} {p:HP} (a:AH i k W M M0 x p) (li:LI W M) (hk:k < p.steps):p.enabled W.H=true:=by
 have hg:=(li.pa i _ a.hp).1
 have hat:=a.at_
 have hd:p.done=false:=by simp [HP.done]; omega
 unfold HP.enabled
 rw [hd]
 simp only [Bool.not_false,Bool.true_and,Bool.or_eq_true,decide_eq_true_eq]
 have free:∀ s,s < W.H.n → ¬ p.holds s → (W.H.ss s).who=0:=fun s hs hh=>(li.free_iff hs).2 fun j q hq hj=>by
  by_cases hji:j=i
  ·subst hji
   rw [a.hp] at hq; cases hq
   exact hh hj
  ·exact a.ar j q hji hq s hj
 unfold HP.needs
 cases h1:p.one with
 | true=>left; simp
 | false =>
  simp only [Bool.false_eq_true,if_false]
  by_cases h8:p.x.kind=8
  ·simp only [h8,if_true]
   by_cases hlt:p.at_ < p.k
   ·right
    simp only [hlt,if_true,Int.toNat_natCast]
    refine free _ (by have:=hg.k; omega) fun hh=>?_
    unfold HP.holds at hh
    rw [if_pos h8] at hh
    omega
   ·left; simp [hlt]
  ·simp only [h8,if_false]
   by_cases h0:p.at_=0
   ·right
    simp only [h0,if_true,Int.toNat_natCast]
    refine free _ hg.s fun hh=>?_
    unfold HP.holds at hh
    rw [if_neg h8] at hh
    omega
   ·left; simp [h0]
theorem AH.step {i k m j:Nat} {W:Wd} {M M0:Tbl} {x:OpD} {p:HP} (a:AH i k W M M0 x p) (li:LI W M) (hs:HS m W.H) (ts:TS j M) (hk:k < p.steps) (n:Int) :
  AH i (k + 1) (W.step i n) ((PR.h p).tb W.H M) M0 x (p.step (W.ms i) W.H n).1:=by
 have hen:=a.en li hk
 have hpa:=li.pa i _ a.hp
 have hst:W.step i n=⟨(p.step (W.ms i) W.H n).2.2,bset W.ps i (some (.h (p.step (W.ms i) W.H n).1)),bset W.ms i (p.step (W.ms i) W.H n).2.1⟩:=by simp only [Wd.step,a.hp,PR.step]
 have hk4:=hstep_k p (W.ms i) W.H n
 have po:=li.po_step hs ts a.hp n (r:=if p.pl < k then (M0.do_ i x).2 else rep0) a.po
 have po:HO (p.step (W.ms i) W.H n).1 (p.step (W.ms i) W.H n).2.1 (p.step (W.ms i) W.H n).2.2 (if p.enabled W.H=true∧p.places=true then (M.do_ p.who p.x).2 else (if p.pl < k then (M0.do_ i x).2 else rep0)):=po
 have hat:=a.at_
 have hstp:(p.step (W.ms i) W.H n).1.steps=p.steps:=by unfold HP.steps HP.one; rw [hk4.2.1,hk4.2.2.1]
 have hpl:(p.step (W.ms i) W.H n).1.pl=p.pl:=by unfold HP.pl HP.one; rw [hk4.2.1,hk4.2.2.1]
 have hplc:=places_pl p (by omega)
 have hw:p.who=i:=hpa.2.w
 have htb:(PR.h p).tb W.H M=if p.pl < k + 1 then (M0.do_ i x).1 else M0:=by
  show (if p.enabled W.H=true∧p.places=true then (M.do_ p.who p.x).1 else M)=_
  rw [hplc,hat,hw,a.xx,a.m]
  by_cases h1:k=p.pl
  ·have h2:¬ p.pl < k:=by omega
   have h3:p.pl < k + 1:=by omega
   rw [if_pos ⟨hen,by simp [h1]⟩,if_neg h2,if_pos h3]
  ·rw [if_neg (by simp [h1])]
   by_cases h2:p.pl < k
   ·rw [if_pos h2,if_pos (by omega)]
   ·rw [if_neg h2,if_neg (by omega)]
 have hre:(if p.enabled W.H=true∧p.places=true then (M.do_ p.who p.x).2 else (if p.pl < k then (M0.do_ i x).2 else rep0))=if p.pl < k + 1 then (M0.do_ i x).2 else rep0:=by
  rw [hplc,hat,hw,a.xx,a.m]
  by_cases h1:k=p.pl
  ·have h2:¬ p.pl < k:=by omega
   have h3:p.pl < k + 1:=by omega
   rw [if_pos ⟨hen,by simp [h1]⟩,if_neg h2,if_pos h3]
  ·rw [if_neg (by simp [h1])]
   by_cases h2:p.pl < k
   ·rw [if_pos h2,if_pos (by omega)]
   ·rw [if_neg h2,if_neg (by omega)]
 rw [hre] at po
 refine ⟨by rw [hst]; exact bset_same _ _ _,a.ar.step n,by rw [hk4.2.1]; exact a.xx,?_,by rw [hstp]; omega,?_,?_⟩
 ·rw [hstep_at,if_pos hen,hat]
 ·rw [htb,hpl]
 ·have h1:(W.step i n).ms i=(p.step (W.ms i) W.H n).2.1:=by rw [hst]; exact bset_same _ _ _
  have h2:(W.step i n).H=(p.step (W.ms i) W.H n).2.2:=by rw [hst]
  rw [h1,h2,hpl]; exact po
theorem AH.init {W:Wd} {i:Nat} (ar:AR W i) (M:Tbl) (x:OpD):AH i 0 { W with ps:=bset W.ps i (some (.h (hp0 W.H i x))) } M M x (hp0 W.H i x):=by
 refine ⟨bset_same _ _ _,fun j q hj hq=>?_,rfl,rfl,Nat.zero_le _,by simp,?_⟩
 ·rw [show ({ W with ps:=bset W.ps i (some (.h (hp0 W.H i x))) }:Wd).ps j=W.ps j from bset_ne hj] at hq
  exact ar j q hj hq
 ·simp only [Nat.not_lt_zero,if_false]
  refine ⟨fun _=>.inl ⟨rfl,rfl⟩,fun _ _=>⟨rfl,rfl,fun _=>⟨rfl,rfl,rfl⟩,fun h=>absurd h (by simp [hp0]),fun h=>absurd h (by simp [hp0])⟩,fun _ _=>⟨fun _=>rfl,fun h=>absurd h (by simp [hp0]),fun h=>absurd h (by simp [hp0])⟩⟩
theorem HO.fin {p:HP} {m:Mine} {H:Hall} {r:Reply} (x:HO p m H r) (h:p.at_=p.steps) (hk1:1 ≤ p.k):p.rep=r:=by
 cases h1:p.one with
 | true =>
  have hs:p.steps=1:=by simp [HP.steps,h1]
  rcases x.o h1 with ⟨h2,_⟩ | ⟨_,h2⟩
  ·omega
  ·exact h2
 | false =>
  by_cases h8:p.x.kind=8
  ·have hs:p.steps=3 * p.k + 1:=by simp [HP.steps,h1,h8]
   obtain ⟨p1,p2,p3,p4,p5⟩:=x.p0 h1 h8
   have hk:¬ p.k=0:=by omega
   have r4:=p4 (by omega)
   have r5:=p5 (by omega)
   obtain ⟨q1,q2⟩:=rest_nil p H (j:=p.at_ - p.k - 1) (by omega)
   rw [r4,q1,q2,List.append_nil,Bool.or_false,← r5]
   cases hr:p.rep
   rw [hr] at p1 p2
   simp at p1 p2
   simp [p1,p2]
  ·have hs:p.steps=4:=by simp [HP.steps,h1,h8]
   exact ((x.w h1 h8).2.2 (by omega)).symm
theorem AH.done {i k:Nat} {W:Wd} {M M0:Tbl} {x:OpD} {p:HP} (a:AH i k W M M0 x p) (li:LI W M) (hk:k=p.steps) (hn:1 ≤ W.H.n):p.done=true∧(∀ j q,W.ps j=some q → ∀ s,¬ q.holds s)∧M=(M0.do_ i x).1∧p.rep=(M0.do_ i x).2:=by
 have hpa:=li.pa i _ a.hp
 have hat:=a.at_
 have hpk:1 ≤ p.k:=by have:=hpa.1.k; omega
 have hpl:=pl_lt p hpk
 have hd:p.done=true:=by simp [HP.done]; omega
 have hm:=a.m
 have po:=a.po
 rw [if_pos (by omega)] at hm po
 refine ⟨hd,fun j q hq s hh=>?_,hm,po.fin (by omega) hpk⟩
 by_cases hj:j=i
 ·subst hj
  rw [a.hp] at hq; cases hq
  exact (Idle.done (m:=W.ms j) hpa hd hn).h s hh
 ·exact a.ar j q hj hq s hh
theorem miset_le (m:Mine) (u:ByteArray) (on:Bool) {w:Nat} (h:m.length ≤ w) (h2:on=true → mhas m u=true ∨ m.length < w):(miset m u on).length ≤ w:=by
 unfold miset
 rw [List.length_append]
 have h1:=List.length_filter_le (fun k=>!decide (k=u)) m
 cases on with
 | false=>simp; omega
 | true =>
  simp only [if_true,List.length_singleton]
  rcases h2 rfl with h3 | h3
  ·have:(m.filter fun k=>!decide (k=u)).length < m.length:=by
    rcases Nat.lt_or_ge (m.filter fun k=>!decide (k=u)).length m.length with h | h
    ·exact h
    ·exfalso
     have he:(m.filter fun k=>!decide (k=u))=m:=List.filter_sublist.eq_of_length (by omega)
     have hu:u ∈ m:=mhas_iff.1 h3
     rw [← he] at hu
     simp at hu
   omega
  ·omega
theorem hstep_le {p:HP} {m:Mine} {H:Hall} {n:Int} (h:(m.length:Int) ≤ H.c.watches):((p.step m H n).2.1.length:Int) ≤ H.c.watches:=by
 unfold HP.step
 split
 rotate_left
 ·exact h
 unfold HP.stp
 split
 ·exact h
 split
 ·exact h
 split
 ·exact h
 unfold HP.stpW
 split
 ·exact h
 split
 ·exact h
 split
 rotate_left
 ·exact h
 split
 ·exact h
 split
 ·exact h
 rename_i hc
 have:=miset_le m p.x.user (decide (p.x.kind=6)) (w:=H.c.watches.toNat) (by omega) fun hon=>by
  by_cases hm:mhas m p.x.user=true
  ·exact .inl hm
  ·right
   have hon:p.x.kind=6:=by simpa using hon
   have:¬ H.c.watches ≤ (m.length:Int):=fun hw=>hc ⟨hon,by simpa using hm,hw⟩
   omega
 show ((miset m p.x.user _).length:Int) ≤ _
 omega
end Go.Den
namespace Go.Proofs.YtcnphhhcknhhaaaGreat
open Go Go.Den Go.MapKept
set_option linter.unusedSimpArgs false
set_option linter.unusedVariables false
set_option maxRecDepth 20000
def hLen (N:Nat) (x:OpD):Nat:=if badB x || decide (x.kind=9) then 1 else if x.kind=8 then 3 * N + 1 else 4
theorem steps_hLen {p:HP} {N:Nat} {x:OpD} (h1:p.x=x) (h2:p.k=N):p.steps=hLen N x:=by unfold HP.steps HP.one hLen; rw [h1,h2]
structure RH (T0:Tags) (h0:Heap) (hp m N nm:Nat) (c:Cfg) (B:Nat → Nat) (W:Wd) (M:Tbl) (T':Tags) (h':Heap):Prop where
 o:Only UH T0 h0 T' h'
 x:∃ A,HdM T' h' hp A B nm W
 k:WdK m W M
 r:∀ j q,W.ps j=some q → Idle q (W.ms j) W.H.c
 n:W.H.n=N
 ec:W.H.c=c
 lm:∀ j,((W.ms j).length:Int) ≤ c.watches
 hz:∀ j,nm ≤ j → W.ms j=[]∧∀ p,W.ps j ≠ some (.h p)
section
variable {T0 T':Tags} {h0 h':Heap} {hp q i k m N nm:Nat} {c:Cfg} {B:Nat → Nat} {W:Wd} {M M0:Tbl} {x:OpD} {K:Value → Heap → Prop}
theorem RH.hl (y:RH T0 h0 hp m N nm c B W M T' h'):HallR T' h' [1] hp W.H:=let ⟨_,x⟩:=y.x; x.hl
theorem RH.ext {h'':Heap} (y:RH T0 h0 hp m N nm c B W M T' h') (e:Ext h' h''):RH T0 h0 hp m N nm c B W M T' h'' :=
 ⟨y.o.up (Only.of_ext (U:=non) y.o.wf e) non_up,let ⟨A,x⟩:=y.x; ⟨A,x.ext y.o.wf e⟩,y.k,y.r,y.n,y.ec,y.lm,y.hz⟩
theorem RH.mono {k:Nat} (y:RH T0 h0 hp m N nm c B W M T' h') (h:m ≤ k):RH T0 h0 hp k N nm c B W M T' h':=⟨y.o,y.x,⟨y.k.li,y.k.hs.mono h,y.k.ts.mono h⟩,y.r,y.n,y.ec,y.lm,y.hz⟩
theorem RH.base {U:Tag → Prop} {T'':Tags} {h'':Heap} (y:RH T0 h0 hp m N nm c B W M T' h') (o:Only U T' h' T'' h'') (f:∀ t,UH t → ¬ U t) (n:¬ U []):RH T'' h'' hp m N nm c B W M T'' h'' :=
 ⟨Only.refl o.wf,let ⟨A,x⟩:=y.x; ⟨A,x.up o f n⟩,y.k,y.r,y.n,y.ec,y.lm,y.hz⟩
theorem RH.init {T:Tags} {h:Heap} (cw:CfgW c) (hr:rightB c=true) (w:Wf T h) (y:HallR T h [1] hp (hall0 c c.stripes.toNat)) (B:Nat → Nat):RH T h hp 0 c.stripes.toNat 0 c B (wd0 c c.stripes.toNat) (tbl0 c c.stripes.toNat) T h :=
 ⟨Only.refl w,⟨fun _=>0,y,fun i p h=>by simp [wd0] at h,fun i h=>by omega⟩,wd0K cw hr (cfg_nn hr).1,fun j q h=>by simp [wd0] at h,rfl,rfl,fun j=>by
  simp -implicitDefEqProofs only [rightB,decide_eq_true_eq] at hr
  show ((([]:Mine).length:Nat):Int) ≤ _
  simp; omega,fun j _=>⟨rfl,fun p h=>by simp [wd0] at h⟩⟩
structure AhI (T0:Tags) (h0:Heap) (hp q i k m N nm:Nat) (c:Cfg) (B:Nat → Nat) (x:OpD) (M0:Tbl) (ms0:Nat → Mine) (T':Tags) (h':Heap):Prop where
 o:Only UH T0 h0 T' h'
 e:∃ (W:Wd) (M:Tbl) (p:HP) (A:Nat → Nat),HdM T' h' hp A B nm W∧A i=q∧WdK (m + k) W M∧AH i k W M M0 x p∧p.steps=hLen N x∧(∀ j q,j ≠ i → W.ps j=some q → Idle q (W.ms j) W.H.c)∧W.H.n=N∧W.H.c=c∧(∀ j,((W.ms j).length:Int) ≤ c.watches)∧(∀ j,nm ≤ j → W.ms j=[]∧∀ p,W.ps j ≠ some (.h p))∧∀ j,j ≠ i → W.ms j=ms0 j
theorem ah_new (y:RH T0 h0 hp m N nm c B W M T' h') (hin:i < nm) (hi:i < 8) (x:OpD) (xw:OpW x) (h6:badB x=false → 6 ≤ x.kind) (hl:x.users.length < 1000000) {v:Value} (hv:Sl 1 StrR (fz T' h') v x.users)
  (hk:∀ T'' h'' q,AhI T0 h0 hp q i 0 m N nm c B x M W.ms T'' h'' → K (ptr q) h''):callM P qhjZ #[ptr hp,ptr (B i),.int .i64 i,.agg (opC x v).toArray] h' K:=by
 obtain ⟨A,xm⟩:=y.x
 refine hdnew_h hi x xw hl h6 hv y.o.wf xm y.k (fun q hq=>y.r i q hq) fun T2 h2 q o2 x2 k2=>?_
 refine hk T2 h2 q ⟨y.o.trans o2,_,M,hp0 W.H i x,bset A i q,x2,bset_same _ _ _,k2,?_,?_,fun j q hj hq=>?_,y.n,y.ec,y.lm,fun j hj=>⟨(y.hz j hj).1,fun p hp=>(y.hz j hj).2 p (by rw [← hp]; exact (bset_ne (by omega)).symm)⟩,fun j _=>rfl⟩
 ·exact AH.init (fun j q hj hq s=>(y.r j q hq).h s) M x
 ·exact steps_hLen rfl y.n
 ·have hq:bset W.ps i _ j=some q:=hq
  rw [bset_ne hj] at hq
  exact y.r j q hq
theorem ah_step {ms0:Nat → Mine} (y:AhI T0 h0 hp q i k m N nm c B x M0 ms0 T' h') (hi:i < nm) (hkl:k < hLen N x) (hm:m + k < 100000) (n:Int)
  (hk:∀ T'' h'',AhI T0 h0 hp q i (k + 1) m N nm c B x M0 ms0 T'' h'' → K (.tuple #[]) h''):callM P qbRZ #[ptr q,ptr hp,.int .i64 n] h' K:=by
 obtain ⟨W,M,p,A,xm,rfl,wk,a,hst,hid,hn,hc,hlm,hhz,hms⟩:=y.e
 refine hdstep_h n y.o.wf xm wk hm hi a.hp fun T2 h2 o2 x2=>?_
 have wk2:=wk.step hm a.hp n
 have a2:=a.step wk.li wk.hs wk.ts (by omega) n
 have hst2:W.step i n=⟨(p.step (W.ms i) W.H n).2.2,bset W.ps i (some (.h (p.step (W.ms i) W.H n).1)),bset W.ms i (p.step (W.ms i) W.H n).2.1⟩:=by simp only [Wd.step,a.hp,PR.step]
 have hk4:=hstep_k p (W.ms i) W.H n
 have hn2:=hstep_n p (W.ms i) W.H n
 have hHn:(W.step i n).H.n=W.H.n∧(W.step i n).H.c=W.H.c:=by rw [hst2]; exact hn2
 refine hk T2 h2 ⟨y.o.trans o2,_,_,_,A,x2,rfl,wk2,a2,?_,fun j q hj hq=>?_,by rw [hHn.1]; exact hn,by rw [hHn.2]; exact hc,fun j=>?_,fun j hj=>⟨?_,fun p' hp'=>?_⟩,fun j hj=>?_⟩
 ·rw [← hst]; unfold HP.steps HP.one; rw [hk4.2.1,hk4.2.2.1]
 ·have h1:(W.step i n).ps j=W.ps j:=by rw [hst2]; exact bset_ne hj
  have h2:(W.step i n).ms j=W.ms j:=by rw [hst2]; exact bset_ne hj
  rw [h1] at hq
  rw [h2,hHn.2]
  exact hid j q hj hq
 ·by_cases hj:j=i
  ·subst hj
   have h2:(W.step j n).ms j=(p.step (W.ms j) W.H n).2.1:=by rw [hst2]; exact bset_same _ _ _
   rw [h2]
   have:=hstep_le (p:=p) (H:=W.H) (n:=n) (m:=W.ms j) (by rw [hc]; exact hlm j)
   rw [hc] at this; exact this
  ·have h2:(W.step i n).ms j=W.ms j:=by rw [hst2]; exact bset_ne hj
   rw [h2]; exact hlm j
 ·have h2:(W.step i n).ms j=W.ms j:=by rw [hst2]; exact bset_ne (by omega)
  rw [h2]; exact (hhz j hj).1
 ·have h1:(W.step i n).ps j=W.ps j:=by rw [hst2]; exact bset_ne (by omega)
  rw [h1] at hp'; exact (hhz j hj).2 p' hp'
 ·have h2:(W.step i n).ms j=W.ms j:=by rw [hst2]; exact bset_ne hj
  rw [h2]; exact hms j hj
theorem AhI.hpr {ms0:Nat → Mine} (y:AhI T0 h0 hp q i k m N nm c B x M0 ms0 T' h') (hkl:k ≤ hLen N x):∃ p,HPR T' h' [2,i] q (B i) p∧p.done=decide (k=hLen N x):=by
 obtain ⟨W,M,p,A,xm,rfl,wk,a,hst,hid,hn,hc,hlm,hhz,hms⟩:=y.e
 refine ⟨p,xm.ps i _ a.hp,?_⟩
 have:=a.at_
 simp -implicitDefEqProofs only [HP.done,hst,this]
 exact decide_eq_decide.2 (by omega)
theorem ah_done {ms0:Nat → Mine} (y:AhI T0 h0 hp q i (hLen N x) m N nm c B x M0 ms0 T' h') :
  ∃ W p,RH T0 h0 hp (m + hLen N x) N nm c B W (M0.do_ i x).1 T' h'∧HPR T' h' [2,i] q (B i) p∧p.done=true∧p.rep=(M0.do_ i x).2∧∀ j,j ≠ i → W.ms j=ms0 j:=by
 obtain ⟨W,M,p,A,xm,rfl,wk,a,hst,hid,hn,hc,hlm,hhz,hms⟩:=y.e
 have n1:=wk.hs.n8.1
 obtain ⟨d1,d2,d3,d4⟩:=a.done wk.li hst.symm n1
 subst d3
 refine ⟨W,p,⟨y.o,⟨A,xm⟩,wk,fun j q hq=>?_,hn,hc,hlm,hhz⟩,xm.ps i _ a.hp,d1,d4,hms⟩
 by_cases hj:j=i
 ·subst hj
  rw [a.hp] at hq; cases hq
  exact Idle.done (wk.li.pa j _ a.hp) d1 n1
 ·exact hid j q hj hq
structure AvI (T0:Tags) (h0:Heap) (hp q i k m N nm:Nat) (c:Cfg) (B:Nat → Nat) (x:OpD) (M0:Tbl) (ms0:Nat → Mine) (T':Tags) (h':Heap):Prop where
 o:Only UH T0 h0 T' h'
 e:∃ (W:Wd) (M:Tbl) (p:WP) (A:Nat → Nat),HdM T' h' hp A B nm W∧A i=q∧WdK (m + k) W M∧AW i k W M M0 x p∧p.s=(stripeOf x.user c.stripes).toNat∧(∀ j q,j ≠ i → W.ps j=some q → Idle q (W.ms j) W.H.c)∧W.H.n=N∧W.H.c=c∧(∀ j,((W.ms j).length:Int) ≤ c.watches)∧(∀ j,nm ≤ j → W.ms j=[]∧∀ p,W.ps j ≠ some (.h p))∧∀ j,W.ms j=ms0 j
theorem av_new (y:RH T0 h0 hp m N nm c B W M T' h') (hi:i ≤ 900) (x:OpD) (xw:OpW x) (hl:x.users.length < 1000000) {v:Value} (hv:Sl 1 StrR (fz T' h') v x.users)
  (hk:∀ T'' h'' q,AvI T0 h0 hp q i 0 m N nm c B x M W.ms T'' h'' → K (ptr q) h''):callM P qhSZ #[ptr hp,.int .i64 i,.agg (opC x v).toArray] h' K:=by
 obtain ⟨A,xm⟩:=y.x
 refine hdnew_w hi x xw hl hv y.o.wf xm y.k (fun q hq=>y.r i q hq) fun T2 h2 q o2 x2 k2=>?_
 refine hk T2 h2 q ⟨y.o.trans o2,_,M,wp0 W.H i x,bset A i q,x2,bset_same _ _ _,k2,?_,?_,fun j q hj hq=>?_,y.n,y.ec,y.lm,fun j hj=>⟨(y.hz j hj).1,fun p hp=>?_⟩,fun j=>rfl⟩
 ·exact AW.init (fun j q hj hq s=>(y.r j q hq).h s) M x _
 ·show (stripeOf x.user W.H.c.stripes).toNat=_; rw [y.ec]
 ·have hq:bset W.ps i _ j=some q:=hq
  rw [bset_ne hj] at hq; exact y.r j q hq
 ·have hp:bset W.ps i _ j=some (.h p):=hp
  by_cases hji:j=i
  ·subst hji; rw [bset_same] at hp; cases hp
  ·rw [bset_ne hji] at hp; exact (y.hz j hj).2 p hp
theorem av_step {ms0:Nat → Mine} (y:AvI T0 h0 hp q i k m N nm c B x M0 ms0 T' h') (hk7:k < 7) (hm:m + k < 100000) (n:Int)
  (hk:∀ T'' h'',AvI T0 h0 hp q i (k + 1) m N nm c B x M0 ms0 T'' h'' → K (.tuple #[]) h''):callM P qcRZ #[ptr q,ptr hp,.int .i64 n] h' K:=by
 obtain ⟨W,M,p,A,xm,rfl,wk,a,hs,hid,hn,hc,hlm,hhz,hms⟩:=y.e
 refine hdstep_w n y.o.wf xm wk hm a.hp fun T2 h2 o2 x2=>?_
 have wk2:=wk.step hm a.hp n
 have a2:=a.step wk.li wk.hs wk.ts hk7 n
 have hst2:W.step i n=⟨(p.step W.H n).2,bset W.ps i (some (.w (p.step W.H n).1)),bset W.ms i (W.ms i)⟩:=by simp only [Wd.step,a.hp,PR.step]
 have hn2:=wstep_n p W.H n
 have hHn:(W.step i n).H.n=W.H.n∧(W.step i n).H.c=W.H.c:=by rw [hst2]; exact hn2
 have hM:∀ j,(W.step i n).ms j=W.ms j:=fun j=>by rw [hst2]; show bset W.ms i (W.ms i) j=W.ms j; rw [bset_id]
 refine hk T2 h2 ⟨y.o.trans o2,_,_,_,A,x2,rfl,wk2,a2,?_,fun j q hj hq=>?_,by rw [hHn.1]; exact hn,by rw [hHn.2]; exact hc,fun j=>by rw [hM]; exact hlm j,fun j hj=>⟨by rw [hM]; exact (hhz j hj).1,fun p' hp'=>?_⟩,fun j=>by rw [hM]; exact hms j⟩
 ·rw [(wstep_k p W.H n).2.2]; exact hs
 ·have h1:(W.step i n).ps j=W.ps j:=by rw [hst2]; exact bset_ne hj
  rw [h1] at hq
  rw [hM,hHn.2]
  exact hid j q hj hq
 ·rw [hst2] at hp'
  have hp':bset W.ps i (some (.w (p.step W.H n).1)) j=some (.h p'):=hp'
  by_cases hji:j=i
  ·subst hji; rw [bset_same] at hp'; cases hp'
  ·rw [bset_ne hji] at hp'; exact (hhz j hj).2 p' hp'
theorem av_done {ms0:Nat → Mine} (y:AvI T0 h0 hp q i 7 m N nm c B x M0 ms0 T' h') :
  ∃ W p,RH T0 h0 hp (m + 7) N nm c B W ((wkOf x).bef (stripeOf x.user c.stripes).toNat M0).1 T' h'∧WPR T' h' [2,i] q p∧p.done=true∧repE p.err=((wkOf x).bef (stripeOf x.user c.stripes).toNat M0).2∧∀ j,W.ms j=ms0 j:=by
 obtain ⟨W,M,p,A,xm,rfl,wk,a,hs,hid,hn,hc,hlm,hhz,hms⟩:=y.e
 have n1:=wk.hs.n8.1
 obtain ⟨d1,d2,d3,d4⟩:=a.done
 rw [hs] at d3 d4
 subst d3
 refine ⟨W,p,⟨y.o,⟨A,xm⟩,wk,fun j q hq=>?_,hn,hc,hlm,hhz⟩,xm.ps i _ a.hp,d1,d4,hms⟩
 by_cases hj:j=i
 ·subst hj
  rw [a.hp] at hq; cases hq
  exact Idle.done (wk.li.pa j _ a.hp) d1 n1
 ·exact hid j q hj hq
theorem rh_mine {T'':Tags} {h'':Heap} (y:RH T0 h0 hp m N nm c B W M T' h') (o:Only non T' h' T'' h'') {q:Nat} (z:MineR T'' h'' [5,nm] q []):RH T0 h0 hp m N (nm + 1) c (bset B nm q) W M T'' h'':=by
 obtain ⟨A,xm⟩:=y.x
 refine ⟨y.o.up o non_up,⟨A,xm.hl.up o (Off.non _) (not_non _),fun j r hr=>?_,fun j hj=>?_⟩,y.k,y.r,y.n,y.ec,y.lm,fun j hj=>y.hz j (by omega)⟩
 ·have:=(xm.ps j r hr).kp o.k (Off.non _) (not_non _)
  by_cases hjn:j=nm
  ·subst hjn
   cases r with
   | w p=>exact this
   | r p=>exact this
   | h p=>exact absurd hr ((y.hz _ (Nat.le_refl _)).2 p)
  ·rw [bset_ne hjn]; exact this
 ·by_cases hjn:j=nm
  ·subst hjn; rw [bset_same,(y.hz _ (Nat.le_refl _)).1]; exact z
  ·rw [bset_ne hjn]; exact (xm.ms j (by omega)).kp o.k (Off.non _)
end
end Go.Proofs.YtcnphhhcknhhaaaGreat
namespace Go.Proofs.YtcnphhhcknhhaaaGreat
open Go Go.Den Go.MapKept
set_option linter.unusedSimpArgs false
set_option linter.unusedVariables false
set_option maxRecDepth 20000
def crC (c:Cfg) (wv hv tv:Value):List Value:=cfgC c ++ [wv,hv,tv]
def OpsR (h:Heap) (c:List Value) (l:List OpD):Prop:=∃ v,c=[v]∧Sl 7 OpR h v l
theorem OpsR.ext {h h':Heap} {c:List Value} {l:List OpD} (e:Ext h h') (x:OpsR h c l):OpsR h' c l:=by
 obtain ⟨v,h1,h2⟩:=x
 exact ⟨v,h1,h2.ext (@OpR.ext) e⟩
theorem OpsR.at {F:Heap} {v:Value} {ls:List (List OpD)} (x:Sl 1 OpsR F v ls) {i:Nat} (hi:i < ls.length):∃ b q u,iaV (some (none,1)) v (.int .i64 i)=some (.pointer (some ⟨b,q,none⟩))∧(∀ h',Ext F h' → cel h' b q=some u)∧Sl 7 OpR F u ls[i]:=by
 obtain ⟨b,o,c,i1,i2,i3⟩:=x.at (k:=.i64) (i:=i) (by omega) (by omega)
 simp -implicitDefEqProofs only [Int.toNat_natCast] at i3
 obtain ⟨u,rfl,hu⟩:=i3
 refine ⟨b,o,u,i1,fun h' e=>?_,hu⟩
 have:=(cels_get (cels_ext e i2)).2 0 (by simp)
 simpa using this
structure CrX (h:Heap) (c:Cfg) (ws:List OpD) (hs:List (List OpD)) (ts:List Int) (wv hv tv:Value):Prop where
 w:Sl 7 OpR h wv ws
 hd:Sl 1 OpsR h hv hs
 t:Sl 1 (IntR .u8) h tv ts
theorem CrX.ext {h h':Heap} {c:Cfg} {ws:List OpD} {hs:List (List OpD)} {ts:List Int} {wv hv tv:Value} (x:CrX h c ws hs ts wv hv tv) (e:Ext h h'):CrX h' c ws hs ts wv hv tv:=⟨x.w.ext (@OpR.ext) e,x.hd.ext (@OpsR.ext) e,x.t.ext (fun _ r=>r) e⟩
structure Fits (c:Cfg) (ws:List OpD) (hs:List (List OpD)) (ts:List Int):Prop where
 w:ws.length ≤ 4
 h:hs.length ≤ 4
 n:ws.length + hs.length ≠ 0
 t:ts.length ≤ 300
 r:rightB c=true
 sw:∀ x ∈ ws,shortB x=true
 lh:∀ l ∈ hs,l.length ≤ 60
 sh:∀ l ∈ hs,∀ x ∈ l,shortB x=true
variable {K:Value → Heap → Prop}
set_option maxHeartbeats 1000000 in
theorem fits17_ok (c:Cfg) (ws:List OpD) (hs:List (List OpD)) (ts:List Int) {h:Heap} {wv hv tv:Value} (x:CrX h c ws hs ts wv hv tv) (hk:∀ h' b,Ext h h' → (b=true → Fits c ws hs ts) → K (.bool b) h'):callM P qgBZ #[.agg (crC c wv hv tv).toArray] h K:=by
 apply qstZ
 unfold qhsZ
 have wl:=x.w.len
 have hl:=x.hd.len
 have tl:=x.t.len
 refine nw_agg fun v1 h1 n1 e1 c1=>?_
 have c7:cel h1 v1 7=some wv:=by simp [cel_of c1,crC,cfgC]
 have c8:cel h1 v1 8=some hv:=by simp [cel_of c1,crC,cfgC]
 have c9:cel h1 v1 9=some tv:=by simp [cel_of c1,crC,cfgC]
 have og:ldV (some (some 7)) (ptr v1) h1=some (.agg (cfgC c).toArray):=by simp [ld_at c1,crC,cfgC]
 have no:K (.bool false) h1:=hk _ _ e1 (fun h=>by cases h)
 by_cases a1:ws.length ≤ 4
 rotate_left
 ·have a1':(4:Int) < ws.length:=by omega
  simp -implicitDefEqProofs [c7,wl,a1']; exact no
 have a1':¬ (4:Int) < ws.length:=by omega
 by_cases a2:hs.length ≤ 4
 rotate_left
 ·have a2':(4:Int) < hs.length:=by omega
  simp -implicitDefEqProofs [c7,c8,wl,hl,a1',a2']; exact no
 have a2':¬ (4:Int) < hs.length:=by omega
 have hw:IntKind.i64.wrap ((ws.length:Int) + hs.length)=(ws.length + hs.length:Int):=wrap64_id (by omega) (by omega)
 by_cases a3:ws.length + hs.length=0
 ·have a3':(ws.length:Int) + hs.length=0:=by omega
  have hw0:IntKind.i64.wrap 0=0:=wrap64_id (by omega) (by omega)
  simp -implicitDefEqProofs [c7,c8,wl,hl,a1',a2',a3',hw0]; exact no
 have a3':¬ (ws.length:Int) + hs.length=0:=by omega
 by_cases a4:ts.length ≤ 300
 rotate_left
 ·have a4':(300:Int) < ts.length:=by omega
  simp -implicitDefEqProofs [c7,c8,c9,wl,hl,tl,a1',a2',hw,a3',a4']; exact no
 have a4':¬ (300:Int) < ts.length:=by omega
 simp -implicitDefEqProofs [c7,c8,c9,wl,hl,tl,a1',a2',hw,a3',a4',og]
 refine refRight_ok c fun h2 e2=>?_
 have e02:=e1.trans e2
 have c7:∀ h',Ext h2 h' → cel h' v1 7=some wv:=fun h' e=>by simp [cel_of (e _ _ (e2 _ _ c1)),crC,cfgC]
 have c8:∀ h',Ext h2 h' → cel h' v1 8=some hv:=fun h' e=>by simp [cel_of (e _ _ (e2 _ _ c1)),crC,cfgC]
 cases hr:rightB c with
 | false=>simp; exact hk _ _ e02 (fun h=>by cases h)
 | true =>
 simp -implicitDefEqProofs
 unfold qkDZ
 rw [seqM_eq]
 unfold qkAZ
 refine loop_on [1] (fun s h'=>Ext h2 h'∧∃ i:Nat,i ≤ ws.length∧s 3 = .int .i64 i∧∀ x ∈ ws.take i,shortB x=true) (fun s _=>(ws.length - num (s 3)).toNat) ⟨Ext.refl _,0,by omega,rfl,by simp⟩ ?_
 rintro s h4 hf ⟨e4,i,hi,s3,hall⟩
 have s1:s 1=ptr v1:=by simpa using hf 1 (by simp)
 unfold qkzZ
 simp -implicitDefEqProofs [s1,c7 _ e4,wl,s3]
 refine ⟨fun hc=>?_,fun hc=>?_⟩
 ·have hlt:i < ws.length:=by omega
  have hw1:IntKind.i64.wrap ((i:Int) + 1)=(i + 1:Nat):=by rw [wrap64_id (by omega) (by omega)]; omega
  obtain ⟨b,p,u,i1,i2,i3,i4⟩:=opsAt x.w hlt
  unfold qkyZ
  simp -implicitDefEqProofs [s1,c7 _ e4,s3,i1,i2 _ (e02.trans e4)]
  refine short_ok ws[i] (i3.ext (@StrR.ext) (e02.trans e4)) fun h5 e5=>?_
  unfold qkxZ
  cases hs':shortB ws[i] with
  | false =>
   simp -implicitDefEqProofs
   unfold qkvZ
   simp -implicitDefEqProofs
   exact hk _ _ ((e02.trans e4).trans e5) (fun h=>by cases h)
  | true =>
   simp -implicitDefEqProofs
   unfold qkwZ
   simp -implicitDefEqProofs [s1,s3,hw1,-Int.natCast_add]
   refine ⟨⟨e4.trans e5,i + 1,by omega,rfl,fun y hy=>?_⟩,by omega⟩
   rw [List.take_succ_eq_append_getElem hlt,List.mem_append,List.mem_singleton] at hy
   rcases hy with hy | rfl
   ·exact hall y hy
   ·exact hs'
 have hie:i=ws.length:=by omega
 subst hie
 rw [List.take_of_length_le (Nat.le_refl _)] at hall
 unfold qkCZ
 rw [seqM_eq]
 unfold qkBZ
 refine loop_on [1] (fun s h'=>Ext h2 h'∧∃ i:Nat,i ≤ hs.length∧s 4 = .int .i64 i∧∀ l ∈ hs.take i,l.length ≤ 60∧∀ x ∈ l,shortB x=true) (fun s _=>(hs.length - num (s 4)).toNat) ⟨e4,0,by omega,rfl,by simp⟩ ?_
 clear s3
 rintro r h5 hf5 ⟨e5,i,hi,r4,hal2⟩
 have r1:r 1=ptr v1:=by simpa [s1] using hf5 1 (by simp)
 unfold qjCZ
 simp -implicitDefEqProofs [r1,c8 _ e5,hl,r4]
 refine ⟨fun hc=>?_,fun hc=>?_⟩
 rotate_left
 ·have hie:i=hs.length:=by omega
  subst hie
  rw [List.take_of_length_le (Nat.le_refl _)] at hal2
  exact hk _ _ (e02.trans e5) fun _=>⟨a1,a2,a3,a4,hr,hall,fun l hl=>(hal2 l hl).1,fun l hl=>(hal2 l hl).2⟩
 have hlt:i < hs.length:=by omega
 have hw1:IntKind.i64.wrap ((i:Int) + 1)=(i + 1:Nat):=by rw [wrap64_id (by omega) (by omega)]; omega
 obtain ⟨b,q,u,i1,i2,i3⟩:=OpsR.at x.hd hlt
 have ul:=i3.len
 unfold qjBZ
 rw [seqM_eq]
 unfold qjAZ
 by_cases a6:hs[i].length ≤ 60
 rotate_left
 ·have a6':(60:Int) < hs[i].length:=by omega
  simp -implicitDefEqProofs [r1,c8 _ e5,r4,i1,i2 _ (e02.trans e5),ul,a6']
  unfold qjtZ
  simp -implicitDefEqProofs
  exact hk _ _ (e02.trans e5) (fun h=>by cases h)
 have a6':¬ (60:Int) < hs[i].length:=by omega
 simp -implicitDefEqProofs [r1,c8 _ e5,r4,i1,i2 _ (e02.trans e5),ul,a6']
 unfold qjzZ
 refine loop_on [1,4] (fun s h'=>Ext h2 h'∧∃ j:Nat,j ≤ hs[i].length∧s 5 = .int .i64 j∧∀ x ∈ hs[i].take j,shortB x=true) (fun s _=>(hs[i].length - num (s 5)).toNat) ⟨e5,0,by omega,rfl,by simp⟩ ?_
 rintro t h6 hf6 ⟨e6,j,hj,t5,hal3⟩
 have t1:t 1=ptr v1:=by simpa [r1] using hf6 1 (by simp)
 have t4:t 4 = .int .i64 i:=by simpa [r4] using hf6 4 (by simp)
 unfold qjyZ
 simp -implicitDefEqProofs [t1,c8 _ e6,t4,i1,i2 _ (e02.trans e6),ul,t5]
 refine ⟨fun hc=>?_,fun hc=>?_⟩
 ·have hlj:j < hs[i].length:=by omega
  have hw2:IntKind.i64.wrap ((j:Int) + 1)=(j + 1:Nat):=by rw [wrap64_id (by omega) (by omega)]; omega
  obtain ⟨b2,p2,u2,j1,j2,j3,j4⟩:=opsAt i3 hlj
  unfold qjxZ
  simp -implicitDefEqProofs [t1,c8 _ e6,t4,i1,i2 _ (e02.trans e6),t5,j1,j2 _ (e02.trans e6)]
  refine short_ok hs[i][j] (j3.ext (@StrR.ext) (e02.trans e6)) fun h7 e7=>?_
  unfold qjwZ
  cases hs':shortB hs[i][j] with
  | false =>
   simp -implicitDefEqProofs
   unfold qjuZ
   simp -implicitDefEqProofs
   exact hk _ _ ((e02.trans e6).trans e7) (fun h=>by cases h)
  | true =>
   simp -implicitDefEqProofs
   unfold qjvZ
   simp -implicitDefEqProofs [r1,r4,t1,t4,t5,hw2,-Int.natCast_add]
   refine ⟨⟨e6.trans e7,j + 1,by omega,rfl,fun y hy=>?_⟩,by omega⟩
   rw [List.take_succ_eq_append_getElem hlj,List.mem_append,List.mem_singleton] at hy
   rcases hy with hy | rfl
   ·exact hal3 y hy
   ·exact hs'
 have hje:j=hs[i].length:=by omega
 subst hje
 rw [List.take_of_length_le (Nat.le_refl _)] at hal3
 simp -implicitDefEqProofs [r1,s1,t1,t4,hw1,-Int.natCast_add]
 refine ⟨⟨e6,i + 1,by omega,rfl,fun l hl=>?_⟩,by omega⟩
 rw [List.take_succ_eq_append_getElem hlt,List.mem_append,List.mem_singleton] at hl
 rcases hl with hl | rfl
 ·exact hal2 l hl
 ·exact ⟨a6,hal3⟩
end Go.Proofs.YtcnphhhcknhhaaaGreat
namespace Go.Proofs.YtcnphhhcknhhaaaGreat
open Go Go.Den Go.MapKept
set_option linter.unusedSimpArgs false
set_option linter.unusedVariables false
set_option maxRecDepth 20000
def pollO:OpD:=⟨8,⟨#[]⟩,0,0,0,0,[]⟩
theorem pollW:OpW pollO:=⟨by simp [pollO,I64],by simp [pollO,I64],by simp [pollO,I64],by simp [pollO,I64],by simp [pollO,U64],by simp [pollO,maxLen]; decide⟩
theorem bdOpPoll:bdV (binf P quZ) [(0,.int .i64 8)]=some (.agg (opC pollO (.slice none 0 0)).toArray):=by kernel_rfl
def aw17:Nat → HP × Mine × Hall
 | 0=>(hp0 (hall0 small 3) 0 pollO,[],hall0 small 3)
 | n + 1=>(aw17 n).1.step (aw17 n).2.1 (aw17 n).2.2 n
theorem aw17_done:∀ n,n ≤ 10 → ((aw17 n).1.done=true ↔ n=10):=by decide +kernel
theorem aw17_end:(aw17 10).1.placed=3:=by decide +kernel
def Aw17 (T0:Tags) (h0:Heap) (hp pp mp:Nat) (v:Value) (h':Heap):Prop :=
 ∃ (T':Tags) (k:Nat) (W:Wd) (M:Tbl),Only UH T0 h0 T' h'∧HdM T' h' hp (fun _=>pp) (fun _=>mp) 1 W∧WdK k W M∧W.H=(aw17 k).2.2∧W.ps 0=some (.h (aw17 k).1)∧W.ms 0=(aw17 k).2.1∧(∀ j,j ≠ 0 → W.ps j=none)∧v = .int .i64 k∧k ≤ 10
variable {K:Value → Heap → Prop}
set_option maxHeartbeats 1000000 in
theorem awake17_ok {h:Heap} (hk:∀ h',Ext h h' → K (.bool true) h'):callM P qdqZ #[] h K:=by
 apply qryZ
 unfold qgLZ
 refine small_ok fun h1 e1=>?_
 unfold qjsZ
 have w1:=wf_nil h1
 refine hallNew_ok small smallW w1 g1 (fun hr T2 h2 q o2 y2=>?_) (fun hr=>by simp [rightB,small] at hr)
 have hn3:small.stripes.toNat=3:=by decide
 have r2:=RH.init smallW hr o2.wf y2 (fun _=>0)
 rw [hn3] at r2 y2
 unfold qjrZ
 have enil:binV .eql 4 true (ptr q) (.pointer none)=some (.bool false):=rfl
 simp -implicitDefEqProofs [enil]
 unfold qjqZ
 refine newMine_ok o2.wf (g5i 0) fun T3 h3 mp o3 n3 z3=>?_
 have r3:=rh_mine r2 o3 z3
 unfold qjpZ
 rw [bdOpPoll]
 simp -implicitDefEqProofs only [ov_s]
 obtain ⟨A,x3⟩:=r3.x
 have hB:bset (fun _=>0) 0 mp 0=mp:=rfl
 have h6:badB pollO=false → 6 ≤ pollO.kind:=fun _=>by simp [pollO]
 have:=hdnew_h (i:=0) (by omega) pollO pollW (by simp [pollO]) h6 (v:=.slice none 0 0) (.inl ⟨rfl,_,_,rfl⟩) o3.wf x3 r3.k (fun p h=>by simp [wd0] at h) (K:=fun v19 h20=>qfzZ (.agg (cfgC small).toArray) (.tuple #[ptr q,.int .i64 0]) (ptr q) (.int .i64 0) (.bool false) (ptr q) (.bool false) (.bool false) (ptr mp) (.agg (opC pollO (.slice none 0 0)).toArray) v19 h20 K)
 rw [hB] at this
 refine this fun T4 h4 p o4 x4 k4=>?_
 clear this
 have o0:Only UH (fun _=>[]) h1 T4 h4:=((o2.mono fun _=>UH.i1).up o3 non_up).trans o4
 unfold qfzZ
 rw [seqM_eq]
 unfold qjoZ
 refine loop_on [1,3] (fun s h'=>Aw17 T4 h4 q p mp (s 4) h') (fun s _=>(20 - num (s 4)).toNat) ⟨T4,0,_,_,Only.refl o4.wf,⟨x4.hl,fun i r hr=>?_,fun i hi=>?_⟩,k4,rfl,rfl,rfl,fun j hj=>?_,rfl,by omega⟩ ?_
 ·by_cases hi:i=0
  ·subst hi; exact x4.ps 0 r hr
  ·have hr:bset (wd0 small 3).ps 0 (some (.h (hp0 (hall0 small 3) 0 pollO))) i=some r:=hr
   rw [bset_ne hi] at hr; simp [wd0] at hr
 ·have hi0:i=0:=by omega
  subst hi0
  exact x4.ms 0 (by omega)
 ·show bset (wd0 small 3).ps 0 _ j=none
  rw [bset_ne hj]; rfl
 rintro s h4' hf ⟨T4',k,W,M,o4',x4',k4',hH,hP,hM,hO,s4,hk7⟩
 have s1:s 1=ptr q:=by simpa using hf 1 (by simp)
 have s3:s 3=ptr p:=by simpa using hf 3 (by simp)
 have hw:IntKind.i64.wrap ((k:Int) + 1)=(k + 1:Nat):=by rw [wrap64_id (by omega) (by omega)]; omega
 have hd:=aw17_done k hk7
 have hn20:(k:Int) < 20:=by omega
 have xp:=x4'.ps 0 _ hP
 unfold qjnZ
 simp -implicitDefEqProofs [s4,s3,hn20]
 refine hedone_ok xp ?_
 by_cases h7:k=10
 ·subst h7
  rw [hd.2 rfl]
  simp -implicitDefEqProofs [s3,s4]
  unfold qiJZ
  simp -implicitDefEqProofs [s3,s4]
  refine heplaced_ok xp ?_
  rw [aw17_end]
  simp -implicitDefEqProofs [s1,s3,s4]
  exact hk _ (e1.trans (ext_of_only (o0.trans o4') UH.nil))
 ·have hdf:(aw17 k).1.done=false:=by
   cases hh:(aw17 k).1.done with
   | false=>rfl
   | true=>exact absurd (hd.1 hh) h7
  rw [hdf]
  simp -implicitDefEqProofs
  unfold qjmZ
  simp -implicitDefEqProofs only [s3,s1,s4]
  refine hdstep_h (i:=0) (A:=fun _=>p) (B:=fun _=>mp) (hp:=q) (W:=W) (p:=(aw17 k).1) (k:Int) o4'.wf x4' k4' (by omega) (by omega) hP fun T6 h6 o6 x6=>?_
  unfold qjlZ
  simp -implicitDefEqProofs [s1,s3,s4,hw,-Int.natCast_add]
  have hst:W.step 0 k=⟨((aw17 k).1.step (aw17 k).2.1 (aw17 k).2.2 k).2.2,bset W.ps 0 (some (.h ((aw17 k).1.step (aw17 k).2.1 (aw17 k).2.2 k).1)),bset W.ms 0 ((aw17 k).1.step (aw17 k).2.1 (aw17 k).2.2 k).2.1⟩:=by
   simp -implicitDefEqProofs only [Wd.step,hP,PR.step,hH,hM]
  refine ⟨⟨T6,k + 1,_,_,o4'.trans o6,x6,k4'.step (by omega) hP k,by rw [hst]; rfl,by rw [hst]; rfl,by rw [hst]; rfl,fun j hj=>?_,rfl,by omega⟩,by omega⟩
  rw [hst]
  show bset W.ps 0 _ j=none
  rw [bset_ne hj]; exact hO j hj
end Go.Proofs.YtcnphhhcknhhaaaGreat
namespace Go.Proofs.YtcnphhhcknhhaaaGreat
open Go Go.Den Go.MapKept
set_option linter.unusedSimpArgs false
set_option linter.unusedVariables false
set_option maxRecDepth 20000
theorem hLen_le {N:Nat} (h:N ≤ 8) (x:OpD):1 ≤ hLen N x∧hLen N x ≤ 25:=by
 unfold hLen
 split
 ·omega
 ·split <;> omega
theorem short_users {x:OpD} (h:shortB x=true):x.users.length ≤ 20:=by simp [shortB] at h; exact h.2.1
end Go.Proofs.YtcnphhhcknhhaaaGreat
namespace Go.Proofs.YtcnphhhcknhhaaaGreat
open Go Go.Den Go.MapKept
set_option linter.unusedSimpArgs false
set_option linter.unusedVariables false
set_option maxRecDepth 20000
section
variable {T0 T':Tags} {h0 h':Heap} {hp q i k m N nm:Nat} {c:Cfg} {B:Nat → Nat} {W:Wd} {M M0:Tbl} {x:OpD} {K:Value → Heap → Prop}
end
def HtA (T4:Tags) (h4:Heap) (hp q m N:Nat) (c:Cfg) (B:Nat → Nat) (x:OpD) (M0:Tbl) (ms0:Nat → Mine) (j:Nat) (nv:Value) (b:Nat) (h':Heap):Prop:=∃ (T':Tags) (n:Nat),AhI T4 h4 hp q 0 j m N 1 c B x M0 ms0 T' h'∧nv = .int .i64 n∧n ≤ b
end Go.Proofs.YtcnphhhcknhhaaaGreat
namespace Go.Proofs.YtcnphhhcknhhaaaGreat
open Go Go.Den
set_option maxRecDepth 100000
set_option linter.unusedVariables false
set_option maxHeartbeats 40000000
def qgcZ (s108:Env) (q110:Post) (m:List Nat) (v111 v112:Value) (h113:Heap):Prop:=ov (binV BinOp.add 2 true (s108 8) (Value.int IntKind.i64 1)) fun v114=>ov (binV BinOp.add 2 true (s108 12) (Value.int IntKind.i64 1)) fun v115=>q110 .normal m (puts s108 [(84,(s108 12)),(85,v111),(88,(s108 11)),(89,(s108 3)),(90,(s108 8)),(91,v112),(92,(s108 8)),(93,v114),(8,v114),(86,(s108 12)),(87,v115),(12,v115)]) h113
def qgdZ (s108:Env) (h109:Heap) (q110:Post) (m:List Nat) (v111:Value):Prop:=callM P qcRZ #[(s108 11),(s108 3),(s108 8)] h109 fun v112 h113=>qgcZ s108 q110 m v111 v112 h113
def qgeZ (s108:Env) (h109:Heap) (q110:Post) (m:List Nat):Prop:=ov (binV BinOp.lss 2 true (s108 12) (Value.int IntKind.i64 7)) fun v111=>cdM v111 (qgdZ s108 h109 q110 m v111) (q110 (.exit 4) m (puts s108 [(84,(s108 12)),(85,v111)]) h109)
def qgfZ (m:List Nat) (s74:Env) (v77 v78 v79 v80 v81 v82 v89 v90 v91 v92 v93 v94 v95 v96 v97 v98 v99 v100 v101 v103:Value) (h104:Heap) (q105:Post):Prop:=loopM (fun m s108 h109 q110=>qgeZ s108 h109 q110 m) m (puts s74 [(58,(s74 10)),(59,v77),(60,v78),(61,(s74 9)),(62,v79),(63,v80),(64,v81),(65,v82),(68,v89),(69,v90),(70,v91),(71,v92),(72,(s74 3)),(73,v93),(74,v94),(75,(s74 10)),(76,v95),(77,v96),(78,v97),(79,v98),(80,v99),(81,v100),(82,v101),(83,v103),(11,v103),(12,(Value.int IntKind.i64 0))]) h104 (blkM 4 q105)
def qggZ (q86:Post) (m:List Nat) (s106:Env) (v116 v117 v118 v119 v120 v121 v122 v123 v124 v126:Value) (h127:Heap):Prop:=q86 .normal m (puts s106 [(94,(s106 5)),(95,v116),(96,v117),(97,(s106 10)),(98,v118),(99,v119),(100,v120),(101,v121),(102,v122),(103,v123),(104,v124),(105,v126)]) h127
def qghZ (s106:Env) (v124:Value) (h125:Heap) (q86:Post) (m:List Nat) (v116 v117 v118 v119 v120 v121 v122 v123:Value):Prop:=callM P qfKZ #[(s106 5),(Value.int IntKind.i64 1),v124] h125 fun v126 h127=>qggZ q86 m s106 v116 v117 v118 v119 v120 v121 v122 v123 v124 v126 h127
def qgiZ (s106:Env) (h107:Heap) (q86:Post) (m:List Nat):Prop:=ov (faV (some 7) (s106 1)) fun v116=>ov (ldV (some none) v116 h107) fun v117=>ov (faV (some 7) (s106 1)) fun v118=>ov (ldV (some none) v118 h107) fun v119=>ov (lnV 7 v119) fun v120=>ov (binV BinOp.rem 2 false (s106 10) v120) fun v121=>ov (iaV (some (none,7)) v117 v121) fun v122=>ov (ldV (some (some 7)) v122 h107) fun v123=>callM P qcpZ #[v123] h107 fun v124 h125=>qghZ s106 v124 h125 q86 m v116 v117 v118 v119 v120 v121 v122 v123
def qgjZ (m:List Nat) (s74:Env) (v77 v78 v79 v80 v81 v82 v89 v90 v91 v92 v93 v94 v95 v96 v97 v98 v99 v100 v101 v103:Value) (h104:Heap) (q86:Post):Prop:=seqM (fun q105=>qgfZ m s74 v77 v78 v79 v80 v81 v82 v89 v90 v91 v92 v93 v94 v95 v96 v97 v98 v99 v100 v101 v103 h104 q105) (fun m s106 h107=>qgiZ s106 h107 q86 m) q86
def qgkZ (s74:Env) (v101:Value) (h102:Heap) (m:List Nat) (v77 v78 v79 v80 v81 v82 v89 v90 v91 v92 v93 v94 v95 v96 v97 v98 v99 v100:Value) (q86:Post):Prop:=callM P qhSZ #[(s74 3),(Value.int IntKind.i64 1),v101] h102 fun v103 h104=>qgjZ m s74 v77 v78 v79 v80 v81 v82 v89 v90 v91 v92 v93 v94 v95 v96 v97 v98 v99 v100 v101 v103 h104 q86
def qglZ (s74:Env) (h75:Heap) (m:List Nat) (v77 v78 v79 v80 v81 v82 v89 v90 v91 v92:Value) (q86:Post):Prop:=ov (faV (some 7) (s74 1)) fun v93=>ov (ldV (some none) v93 h75) fun v94=>ov (faV (some 7) (s74 1)) fun v95=>ov (ldV (some none) v95 h75) fun v96=>ov (lnV 7 v96) fun v97=>ov (binV BinOp.rem 2 false (s74 10) v97) fun v98=>ov (iaV (some (none,7)) v94 v98) fun v99=>ov (ldV (some (some 7)) v99 h75) fun v100=>callM P qcpZ #[v100] h75 fun v101 h102=>qgkZ s74 v101 h102 m v77 v78 v79 v80 v81 v82 v89 v90 v91 v92 v93 v94 v95 v96 v97 v98 v99 v100 q86
def qgmZ (q86:Post) (m:List Nat) (s74:Env) (v77 v78 v79 v80 v81 v82 v89 v90 v91 v92:Value) (h75:Heap):Prop:=q86 .normal m (puts s74 [(58,(s74 10)),(59,v77),(60,v78),(61,(s74 9)),(62,v79),(63,v80),(64,v81),(65,v82),(68,v89),(69,v90),(70,v91),(71,v92)]) h75
def qgnZ (s74:Env) (h75:Heap) (m:List Nat) (v77 v78 v79 v80 v81 v82:Value) (q86:Post):Prop:=ov (faV (some 7) (s74 1)) fun v89=>ov (ldV (some none) v89 h75) fun v90=>ov (lnV 7 v90) fun v91=>ov (binV BinOp.gtr 2 true v91 (Value.int IntKind.i64 0)) fun v92=>cdM v92 (qglZ s74 h75 m v77 v78 v79 v80 v81 v82 v89 v90 v91 v92 q86) (qgmZ q86 m s74 v77 v78 v79 v80 v81 v82 v89 v90 v91 v92 h75)
def qgoZ (s145:Env) (q147:Post) (m:List Nat) (v148 v149 v152 v157 v161 v162:Value) (h163:Heap):Prop:=ov (binV BinOp.add 2 true (s145 8) (Value.int IntKind.i64 1)) fun v164=>ov (binV BinOp.add 2 true (s145 15) (Value.int IntKind.i64 1)) fun v165=>q147 .normal m (puts s145 [(119,(s145 15)),(120,v148),(121,v148),(122,v149),(123,v152),(124,v157),(125,v161),(128,(s145 14)),(129,(s145 3)),(130,(s145 8)),(131,v162),(132,(s145 8)),(133,v164),(8,v164),(126,(s145 15)),(127,v165),(15,v165)]) h163
def qgpZ (s145:Env) (h158:Heap) (q147:Post) (m:List Nat) (v148 v149 v152 v157 v161:Value):Prop:=callM P qbRZ #[(s145 14),(s145 3),(s145 8)] h158 fun v162 h163=>qgoZ s145 q147 m v148 v149 v152 v157 v161 v162 h163
def qgqZ (s145:Env) (h146:Heap) (q147:Post) (m:List Nat):Prop:=ov (binV BinOp.lss 2 true (s145 15) (Value.int IntKind.i64 40)) fun v148=>gM (isB v148 true) (fun k151=>k151 (s145 14) h146) h146 fun v149 h150=>gM (isB v148 true) (fun k154=>callM P qalZ #[v149] h150 fun v155 h156=>k154 v155 h156) h150 fun v152 h153=>gM (isB v148 true) (fun k159=>ov (unV UnOp.not v152) fun v160=>k159 v160 h153) h153 fun v157 h158=>ov (pkV v148 v157 (Value.bool false)) fun v161=>cdM v161 (qgpZ s145 h158 q147 m v148 v149 v152 v157 v161) (q147 (.exit 6) m (puts s145 [(119,(s145 15)),(120,v148),(121,v148),(122,v149),(123,v152),(124,v157),(125,v161)]) h158)
def qgrZ (m:List Nat) (s87:Env) (v128 v129 v130 v131 v132 v133 v134 v136 v139 v140:Value) (h141:Heap) (q142:Post):Prop:=loopM (fun m s145 h146 q147=>qgqZ s145 h146 q147 m) m (puts s87 [(106,v128),(107,v129),(108,(s87 9)),(109,v130),(110,v131),(111,(s87 10)),(112,v132),(113,v133),(114,v134),(13,v136),(115,(s87 3)),(116,(s87 7)),(117,v139),(118,v140),(14,v140),(15,(Value.int IntKind.i64 0))]) h141 (blkM 6 q142)
def qpeZ (q83:Post) (m:List Nat) (s143:Env) (v166 v168 v169 v170 v171 v172 v177 v182 v187 v188 v189 v190 v191 v196 v201 v202:Value) (h197:Heap):Prop:=q83 .ret m (puts s143 [(134,(s143 14)),(135,v166),(136,v168),(137,v168),(138,v169),(140,v170),(141,v171),(139,v172),(142,v177),(143,v182),(144,v187),(145,v188),(146,v188),(147,v189),(149,v190),(148,v191),(150,v196),(151,v201),(152,v202),(2,(Value.bool false))]) h197
def qgsZ (q83:Post) (m:List Nat) (s143:Env) (v166 v168 v169 v170 v171 v172 v177 v182 v187 v188 v189 v190 v191 v196 v201 v202:Value) (h197:Heap):Prop:=q83 .normal m (puts s143 [(134,(s143 14)),(135,v166),(136,v168),(137,v168),(138,v169),(140,v170),(141,v171),(139,v172),(142,v177),(143,v182),(144,v187),(145,v188),(146,v188),(147,v189),(149,v190),(148,v191),(150,v196),(151,v201),(152,v202)]) h197
def qgtZ (v166:Value) (s143:Env) (h167:Heap) (q83:Post) (m:List Nat):Prop:=ov (unV UnOp.not v166) fun v168=>gv (isB v168 false) (fun k=>k (s143 14)) fun v169=>gv (isB v168 false) (fun k=>k (s143 5)) fun v170=>gv (isB v168 false) (ov (ldV (some (some 7)) (s143 13) h167)) fun v171=>gM (isB v168 false) (fun k174=>callM P qhWZ #[v169] h167 fun v175 h176=>k174 v175 h176) h167 fun v172 h173=>((isB v168 false)=true → ldV (some (some 7)) (s143 13) h173=some v171)∧gM (isB v168 false) (fun k179=>callM P qfKZ #[v170,(Value.int IntKind.i64 0),v171] h173 fun v180 h181=>k179 v180 h181) h173 fun v177 h178=>gM (isB v168 false) (fun k184=>callM P qgCZ #[v172,v177] h178 fun v185 h186=>k184 v185 h186) h178 fun v182 h183=>gv (isB v168 false) (ov (unV UnOp.not v182)) fun v187=>ov (pkV v168 (Value.bool true) v187) fun v188=>gv (isB v188 false) (fun k=>k (s143 3)) fun v189=>gv (isB v188 false) (fun k=>k (s143 5)) fun v190=>gM (isB v188 false) (fun k193=>callM P qjWZ #[v189] h183 fun v194 h195=>k193 v194 h195) h183 fun v191 h192=>gM (isB v188 false) (fun k198=>callM P qhmZ #[v190] h192 fun v199 h200=>k198 v199 h200) h192 fun v196 h197=>gv (isB v188 false) (pvM P (do eqGuard BinOp.neq qtZ (Operand.tmp 148) (Operand.tmp 150) v191 v196; binOp BinOp.neq qtZ v191 v196)) fun v201=>ov (pkV v188 (Value.bool true) v201) fun v202=>cdM v202 (qpeZ q83 m s143 v166 v168 v169 v170 v171 v172 v177 v182 v187 v188 v189 v190 v191 v196 v201 v202 h197) (qgsZ q83 m s143 v166 v168 v169 v170 v171 v172 v177 v182 v187 v188 v189 v190 v191 v196 v201 v202 h197)
def qguZ (s143:Env) (h144:Heap) (q83:Post) (m:List Nat):Prop:=callM P qalZ #[(s143 14)] h144 fun v166 h167=>qgtZ v166 s143 h167 q83 m
def qgvZ (m:List Nat) (s87:Env) (v128 v129 v130 v131 v132 v133 v134 v136 v139 v140:Value) (h141:Heap) (q83:Post):Prop:=seqM (fun q142=>qgrZ m s87 v128 v129 v130 v131 v132 v133 v134 v136 v139 v140 h141 q142) (fun m s143 h144=>qguZ s143 h144 q83 m) (blkM 3 q83)
def qgwZ (h135:Heap) (v134:Value) (s87:Env) (m:List Nat) (v128 v129 v130 v131 v132 v133:Value) (q83:Post):Prop:=nwM (zc P quZ) quZ h135 fun v136 h137=>stM (some 7) v136 v134 h137 fun h138=>ov (ldV (some (some 7)) v136 h138) fun v139=>callM P qhjZ #[(s87 3),(s87 7),(Value.int IntKind.i64 0),v139] h138 fun v140 h141=>qgvZ m s87 v128 v129 v130 v131 v132 v133 v134 v136 v139 v140 h141 q83
def qdoZ (s87:Env) (h88:Heap) (m:List Nat) (q83:Post):Prop:=ov (faV (some 8) (s87 1)) fun v128=>ov (ldV (some none) v128 h88) fun v129=>ov (iaV (some (none,1)) v129 (s87 9)) fun v130=>ov (ldV (some none) v130 h88) fun v131=>ov (iaV (some (none,7)) v131 (s87 10)) fun v132=>ov (ldV (some (some 7)) v132 h88) fun v133=>callM P qffZ #[v133] h88 fun v134 h135=>qgwZ h135 v134 s87 m v128 v129 v130 v131 v132 v133 q83
def qgxZ (s74:Env) (h75:Heap) (m:List Nat) (v77 v78 v79 v80 v81 v82:Value) (q83:Post):Prop:=seqM (fun q86=>qgnZ s74 h75 m v77 v78 v79 v80 v81 v82 q86) (fun m s87 h88=>qdoZ s87 h88 m q83) (blkM 3 q83)
def qgyZ (s74:Env) (h75:Heap) (m:List Nat) (v77 v78 v79 v80 v81 v82:Value) (q76:Post):Prop:=seqM (fun q83=>qgxZ s74 h75 m v77 v78 v79 v80 v81 v82 q83) (fun m s84 h85=>ov (binV BinOp.add 2 true (s84 10) (Value.int IntKind.i64 1)) fun v203=>q76 .normal m (puts s84 [(66,(s84 10)),(67,v203),(10,v203)]) h85) q76
def qgzZ (s74:Env) (h75:Heap) (m:List Nat) (q76:Post):Prop:=ov (faV (some 8) (s74 1)) fun v77=>ov (ldV (some none) v77 h75) fun v78=>ov (iaV (some (none,1)) v78 (s74 9)) fun v79=>ov (ldV (some none) v79 h75) fun v80=>ov (lnV 7 v80) fun v81=>ov (binV BinOp.lss 2 false (s74 10) v81) fun v82=>cdM v82 (qgyZ s74 h75 m v77 v78 v79 v80 v81 v82 q76) (q76 (.exit 2) m (puts s74 [(58,(s74 10)),(59,v77),(60,v78),(61,(s74 9)),(62,v79),(63,v80),(64,v81),(65,v82)]) h75)
def qgAZ (m:List Nat) (s64:Env) (v67 v68 v69 v70:Value) (h65:Heap) (q71:Post):Prop:=loopM (fun m s74 h75 q76=>qgzZ s74 h75 m q76) m (puts s64 [(51,(s64 9)),(52,v67),(53,v68),(54,v69),(55,v70),(10,(Value.int IntKind.i64 0))]) h65 (blkM 2 (blkM 1 q71))
def qhaZ (m:List Nat) (s64:Env) (v67 v68 v69 v70:Value) (h65:Heap) (q66:Post):Prop:=seqM (fun q71=>qgAZ m s64 v67 v68 v69 v70 h65 q71) (fun m s72 h73=>ov (binV BinOp.add 2 true (s72 9) (Value.int IntKind.i64 1)) fun v204=>q66 .normal m (puts s72 [(56,(s72 9)),(57,v204),(9,v204)]) h73) q66
def qhbZ (s64:Env) (h65:Heap) (m:List Nat) (q66:Post):Prop:=ov (faV (some 8) (s64 1)) fun v67=>ov (ldV (some none) v67 h65) fun v68=>ov (lnV 7 v68) fun v69=>ov (binV BinOp.lss 2 false (s64 9) v69) fun v70=>cdM v70 (qhaZ m s64 v67 v68 v69 v70 h65 q66) (q66 (.exit 0) m (puts s64 [(51,(s64 9)),(52,v67),(53,v68),(54,v69),(55,v70)]) h65)
def qhcZ (x0 v1 v3 v5 v6 v10 v15 v19 v22 v23 v24 v26 v27 v28 v29 v30 v32 v33 v34 v35 v38 v42 v43 v46 v50 v51 v54 v58 v59:Value) (h60:Heap) (q61:Post):Prop:=loopM (fun m s64 h65 q66=>qhbZ s64 h65 m q66) [] (puts (envOf [x0]) [(1,v1),(2,(Value.bool false)),(16,v3),(17,v5),(18,v5),(19,v6),(20,v10),(21,v15),(22,v19),(25,v22),(26,v23),(27,v24),(24,v24),(28,v26),(29,v27),(3,v26),(4,v27),(31,v28),(32,v29),(33,v30),(30,v30),(34,v32),(35,v33),(5,v32),(6,v33),(36,v27),(37,v34),(38,v34),(39,v35),(40,v38),(41,v42),(42,v42),(43,v43),(44,v46),(45,v50),(46,v50),(47,v51),(48,v54),(49,v58),(50,v59),(7,v59),(8,(Value.int IntKind.i64 0)),(9,(Value.int IntKind.i64 0))]) h60 (blkM 0 q61)
def qhdZ (x0 v1 v3 v5 v6 v10 v15 v19 v22 v23 v24 v26 v27 v28 v29 v30 v32 v33 v34 v35 v38 v42 v43 v46 v50 v51 v54 v58 v59:Value) (h60:Heap) (K:Value → Heap → Prop):Prop:=seqM (fun q61=>qhcZ x0 v1 v3 v5 v6 v10 v15 v19 v22 v23 v24 v26 v27 v28 v29 v30 v32 v33 v34 v35 v38 v42 v43 v46 v50 v51 v54 v58 v59 h60 q61) (fun m s62 h63=>(retM P [.tmp 2] K) .ret m (puts s62 [(2,(Value.bool true))]) h63) (retM P [.tmp 2] K)
def qheZ (h55:Heap) (x0 v1 v3 v5 v6 v10 v15 v19 v22 v23 v24 v26 v27 v28 v29 v30 v32 v33 v34 v35 v38 v42 v43 v46 v50 v51 v54 v58:Value) (K:Value → Heap → Prop):Prop:=callM P qhLZ #[] h55 fun v59 h60=>qhdZ x0 v1 v3 v5 v6 v10 v15 v19 v22 v23 v24 v26 v27 v28 v29 v30 v32 v33 v34 v35 v38 v42 v43 v46 v50 v51 v54 v58 v59 h60 K
def qhfZ (v30 v27:Value) (h31:Heap) (v26:Value) (K:Value → Heap → Prop) (x0 v1 v3 v5 v6 v10 v15 v19 v22 v23 v24 v28 v29:Value):Prop:=ov (exV v30 0) fun v32=>ov (exV v30 1) fun v33=>ov (binV BinOp.neq 2 true v27 (Value.int IntKind.i64 0)) fun v34=>gM (isB v34 false) (fun k37=>k37 v33 h31) h31 fun v35 h36=>gM (isB v34 false) (fun k40=>ov (binV BinOp.neq 2 true v35 (Value.int IntKind.i64 0)) fun v41=>k40 v41 h36) h36 fun v38 h39=>ov (pkV v34 (Value.bool true) v38) fun v42=>gM (isB v42 false) (fun k45=>k45 v26 h39) h39 fun v43 h44=>gM (isB v42 false) (fun k48=>ov (binV BinOp.eql 4 true v43 (Value.pointer none)) fun v49=>k48 v49 h44) h44 fun v46 h47=>ov (pkV v42 (Value.bool true) v46) fun v50=>gM (isB v50 false) (fun k53=>k53 v32 h47) h47 fun v51 h52=>gM (isB v50 false) (fun k56=>ov (binV BinOp.eql 4 true v51 (Value.pointer none)) fun v57=>k56 v57 h52) h52 fun v54 h55=>ov (pkV v50 (Value.bool true) v54) fun v58=>cdM v58 (K (Value.bool false) h55) (qheZ h55 x0 v1 v3 v5 v6 v10 v15 v19 v22 v23 v24 v26 v27 v28 v29 v30 v32 v33 v34 v35 v38 v42 v43 v46 v50 v51 v54 v58 K)
def qhgZ (v24 v1:Value) (h25:Heap) (K:Value → Heap → Prop) (x0 v3 v5 v6 v10 v15 v19 v22 v23:Value):Prop:=ov (exV v24 0) fun v26=>ov (exV v24 1) fun v27=>ov (faV (some 0) v1) fun v28=>ov (ldV (some (some 7)) v28 h25) fun v29=>callM P qpDZ #[v29] h25 fun v30 h31=>qhfZ v30 v27 h31 v26 K x0 v1 v3 v5 v6 v10 v15 v19 v22 v23 v24 v28 v29
def qhhZ (v1:Value) (h16:Heap) (K:Value → Heap → Prop) (x0 v3 v5 v6 v10 v15 v19:Value):Prop:=ov (faV (some 0) v1) fun v22=>ov (ldV (some (some 7)) v22 h16) fun v23=>callM P qojZ #[v23] h16 fun v24 h25=>qhgZ v24 v1 h25 K x0 v3 v5 v6 v10 v15 v19 v22 v23
def qhiZ (v3 v1:Value) (h4:Heap) (K:Value → Heap → Prop) (x0:Value):Prop:=ov (unV UnOp.not v3) fun v5=>gM (isB v5 false) (fun k8=>ov (ldV (some (some 10)) v1 h4) fun v9=>k8 v9 h4) h4 fun v6 h7=>gM (isB v5 false) (fun k12=>callM P qgBZ #[v6] h7 fun v13 h14=>k12 v13 h14) h7 fun v10 h11=>gM (isB v5 false) (fun k17=>ov (unV UnOp.not v10) fun v18=>k17 v18 h11) h11 fun v15 h16=>ov (pkV v5 (Value.bool true) v15) fun v19=>cdM v19 (callM P qdqZ #[] h16 fun v20 h21=>K v20 h21) (qhhZ v1 h16 K x0 v3 v5 v6 v10 v15 v19)
def qewZ (x0:Value) (h:Heap) (K:Value → Heap → Prop):Prop:=nwM (some x0.cells) qbMZ h fun v1 h2=>callM P qdqZ #[] h2 fun v3 h4=>qhiZ v3 v1 h4 K x0
variable {K:Value → Heap → Prop}
theorem qpSZ {x0:Value} {h:Heap} (hd:qewZ x0 h K):callM P qdMZ #[x0] h K :=
 call_of good mixed (fn:=Tryz.f24) (args:=[x0]) Tryz.func24 rfl (by kernel_rfl) (of_decide_eq_true rfl) (B:=qewZ x0 h K) (by kernel_rfl) hd
end Go.Proofs.YtcnphhhcknhhaaaGreat
namespace Go.Proofs.YtcnphhhcknhhaaaGreat
open Go Go.Den Go.MapKept
set_option linter.unusedSimpArgs false
set_option linter.unusedVariables false
set_option maxRecDepth 20000
def UB (t:Tag):Prop:=UH t ∨ pre [4] t
theorem UB.nil:¬ UB []:=by rintro (h | h); exact UH.nil h; simp [pre] at h
theorem dUH4:Off UH [4]:=fun t ht hh=>hh.elim (off_pre (g:=[]) (x:=[1]) (y:=[4]) (by simp) (by simp) t ht) fun hh=>hh.elim (off_pre (g:=[]) (x:=[2]) (y:=[4]) (by simp) (by simp) t ht) (off_pre (g:=[]) (x:=[5]) (y:=[4]) (by simp) (by simp) t ht)
theorem d4UH:∀ t,UH t → ¬ pre [4] t:=fun t ht h4=>dUH4 t h4 ht
theorem UH.b {t:Tag} (h:UH t):UB t:=.inl h
structure TwH (T5:Tags) (h5:Heap) (hp tp m N nm:Nat) (c:Cfg) (B:Nat → Nat) (W:Wd) (M:Tbl) (T':Tags) (h':Heap):Prop where
 o:Only UB T5 h5 T' h'
 r:RH T' h' hp m N nm c B W M T' h'
 x:MdR T' h' [4] tp M
section
variable {T5 T' T'':Tags} {h5 h' h'':Heap} {hp tp m k N nm:Nat} {c:Cfg} {B:Nat → Nat} {W W':Wd} {M M':Tbl}
theorem TwH.ext (y:TwH T5 h5 hp tp m N nm c B W M T' h') (e:Ext h' h''):TwH T5 h5 hp tp m N nm c B W M T' h'':=by
 have o:=Only.of_ext (U:=non) y.o.wf e
 exact ⟨y.o.up o non_up,y.r.base o (fun _ _ h=>h) (not_non _),y.x.kp o.k (Off.non _) (not_non _)⟩
theorem TwH.mono (y:TwH T5 h5 hp tp m N nm c B W M T' h') (h:m ≤ k):TwH T5 h5 hp tp k N nm c B W M T' h':=⟨y.o,y.r.mono h,y.x⟩
theorem TwH.go (y:TwH T5 h5 hp tp m N nm c B W M T' h') (r:RH T' h' hp k N nm c B W' M' T'' h'') {T3:Tags} {h3:Heap} (o:Only (pre [4]) T'' h'' T3 h3) (x:MdR T3 h3 [4] tp M'):TwH T5 h5 hp tp k N nm c B W' M' T3 h3 :=
 ⟨(y.o.trans (r.o.mono fun _=>UH.b)).trans (o.mono fun _=>.inr),r.base o d4UH (by simp [pre]),x⟩
theorem TwH.md (y:TwH T5 h5 hp tp m N nm c B W M T' h') (r:RH T' h' hp k N nm c B W' M' T'' h''):MdR T'' h'' [4] tp M:=y.x.kp r.o.k dUH4 UH.nil
end
theorem rep_len {m:Nat} {M:Tbl} (hs:TS m M) (who:Int) (X:OpD) (hk:6 ≤ X.kind∧X.kind ≤ 9):(M.do_ who X).2.vals=[]∧(M.do_ who X).2.evs.length ≤ 128:=by
 have n8:=ts_n8 hs
 have htot:∀ l:List (List Evt),(∀ x ∈ l,x.length ≤ 16) → totE l ≤ 16 * l.length:=by
  intro l
  induction l with
  | nil=>intro _; simp [totE]
  | cons a l ih =>
   intro hh
   have h1:=ih fun x hx=>hh x (by simp [hx])
   have h2:=hh a (by simp)
   simp -implicitDefEqProofs [totE] at h1 ⊢; omega
 have hp:(M.poll who).2.vals=[]∧(M.poll who).2.evs.length ≤ 128:=by
  refine ⟨rfl,?_⟩
  show (mergeE (M.toldTo who M.n)).length ≤ 128
  refine Nat.le_trans (merge_len _) ?_
  have hlen:(M.toldTo who M.n).length=M.n:=by simp [Tbl.toldTo]
  have:=htot (M.toldTo who M.n) fun l hl=>by
   obtain ⟨j,hj,rfl⟩:=List.getElem_of_mem hl
   have:(M.toldTo who M.n)[j]=(M.fd j).told who:=by simp [Tbl.toldTo]
   rw [this]
   unfold Feed.told
   split
   ·rename_i hcl
    exact ((hs.fd j (by omega)).qs _ (by simp [clientB] at hcl; omega)).2.2
   ·simp -implicitDefEqProofs
  omega
 have hn:¬ (X.kind=1 ∨ X.kind=2 ∨ X.kind=3):=by omega
 have hw:(M.watch who X.user).2.vals=[]∧(M.watch who X.user).2.evs=[]:=by unfold Tbl.watch; split <;> exact ⟨rfl,rfl⟩
 unfold Tbl.do_
 by_cases hb:badB X=true
 ·simp -implicitDefEqProofs [hb,repE]
 by_cases hc:clientB who=true
 rotate_left
 ·simp -implicitDefEqProofs [hb,hc,repE]
 by_cases h8:X.kind=8
 ·simpa [hb,hc,h8] using hp
 by_cases hcl:M.t.closed=true
 ·simp -implicitDefEqProofs [hb,hc,hn,h8,hcl,repE]
 by_cases h6:X.kind=6
 ·simp -implicitDefEqProofs [hb,hc,hn,h8,hcl,h6,hw.1,hw.2]
 by_cases h7:X.kind=7
 ·simp -implicitDefEqProofs [hb,hc,hn,h8,hcl,h6,h7,rep0]
 have h9:X.kind=9:=by omega
 simp -implicitDefEqProofs [hb,hc,hn,h8,hcl,h6,h7,h9,rep0]
def HaV (T4:Tags) (h4:Heap) (hp q m N:Nat) (c:Cfg) (B:Nat → Nat) (x:OpD) (M0:Tbl) (ms0:Nat → Mine) (j:Nat) (nv:Value) (b:Nat) (h':Heap):Prop:=∃ (T':Tags) (n:Nat),AvI T4 h4 hp q 1 j m N 1 c B x M0 ms0 T' h'∧nv = .int .i64 n∧n ≤ b
def HaJ (T5:Tags) (h5:Heap) (hp tp m N:Nat) (c:Cfg) (B:Nat → Nat) (nv:Value) (b:Nat) (h':Heap):Prop:=∃ (T':Tags) (W:Wd) (M:Tbl) (n:Nat),TwH T5 h5 hp tp m N 1 c B W M T' h'∧nv = .int .i64 n∧n ≤ b
variable {K:Value → Heap → Prop}
set_option maxHeartbeats 16000000 in
theorem heedAlone_ok (c:Cfg) (cw:CfgW c) (ws:List OpD) (hs:List (List OpD)) (ts:List Int) {h:Heap} {wv hv tv:Value} (x:CrX h c ws hs ts wv hv tv) (hk:∀ h',Ext h h' → K (.bool true) h') :
  callM P qdMZ #[.agg (crC c wv hv tv).toArray] h K:=by
 apply qpSZ
 unfold qewZ
 refine nw_agg fun v1 h1 n1 e1 c1=>?_
 refine awake17_ok fun h2 e2=>?_
 have e02:=e1.trans e2
 have wo:=x.w.one
 have ho:=x.hd.one
 have to:=x.t.one
 have ogA:∀ h',Ext h2 h' → ldV (some (some 10)) (ptr v1) h'=some (.agg (crC c wv hv tv).toArray):=fun h' e=>by simp [ld_at (e _ _ (e2 _ _ c1)),crC,cfgC]
 unfold qhiZ
 simp -implicitDefEqProofs [ogA _ (Ext.refl h2)]
 refine fits17_ok c ws hs ts (x.ext e02) fun h3 b e3 hb=>?_
 have e03:=e02.trans e3
 cases b with
 | false =>
  simp -implicitDefEqProofs
  exact awake17_ok fun h4 e4=>hk _ (e03.trans e4)
 | true =>
 have ft:=hb rfl
 simp -implicitDefEqProofs
 unfold qhhZ
 have c3:=e3 _ _ (e2 _ _ c1)
 have ogc:∀ h',h' v1=some (.cells (crC c wv hv tv).toArray qbMZ (0,0)) → ldV (some (some 7)) (ptr v1) h'=some (.agg (cfgC c).toArray):=fun h' c3=>by simp [ld_at c3,crC,cfgC]
 simp -implicitDefEqProofs [ogc _ c3]
 refine hallNew_ok c cw (wf_nil h3) g1 (fun hr T4 h4 hp o4 y4=>?_) (fun hr=>by rw [ft.r] at hr; cases hr)
 obtain ⟨hcn,hN⟩:=cfg_nn hr
 have cb4:h4 v1=some (.cells (crC c wv hv tv).toArray qbMZ (0,0))∧T4 v1=[]:=o4.k.at c3 rfl (by simp [pre])
 unfold qhgZ
 simp -implicitDefEqProofs [ogc _ cb4.1]
 refine mnew_ok c cw o4.wf g4 (fun _ T5 h5 tp o5 x5=>?_) (fun hr=>by rw [ft.r] at hr; cases hr)
 have d41:Off (pre [4]) [1]:=off_pre (g:=[]) (x:=[4]) (y:=[1]) (by simp) (by simp)
 have y5:=y4.up o5 d41 (by simp [pre])
 have r5:=RH.init cw hr o5.wf y5 (fun _=>0)
 obtain ⟨N,hNN⟩:∃ N,N=c.stripes.toNat:=⟨_,rfl⟩
 rw [← hNN] at r5 x5 hcn hN
 have cst:(N:Int)=c.stripes:=hcn
 unfold qhfZ
 have enil:∀ p:Nat,binV .eql 4 true (ptr p) (.pointer none)=some (.bool false):=fun _=>rfl
 simp -implicitDefEqProofs [enil]
 unfold qheZ
 refine newMine_ok o5.wf (g5i 0) fun T6 h6 mp o6 n6 z6=>?_
 have r6:=rh_mine r5 o6 z6
 obtain ⟨B,hB⟩:∃ B,B=bset (fun _=>0) 0 mp:=⟨_,rfl⟩
 rw [← hB] at r6
 have hB0:B 0=mp:=by rw [hB]; rfl
 have z6':TwH T6 h6 hp tp 0 N 1 c B (wd0 c N) (tbl0 c N) T6 h6:=⟨Only.refl o6.wf,r6.base (Only.refl (U:=non) o6.wf) (fun _ _ h=>h) (not_non _),x5.kp o6.k (Off.non _) (not_non _)⟩
 have o36:Only UB (fun _=>[]) h3 T6 h6:=((o4.mono fun _ h=>UH.b (UH.i1 h)).trans (o5.mono fun _=>.inr)).up o6 non_up
 have cb6:h6 v1=some (.cells (crC c wv hv tv).toArray qbMZ (0,0))∧T6 v1=[]:=o36.k.at c3 rfl UB.nil
 have xF:CrX (fz T6 h6) c ws hs ts wv hv tv:=by
  have:CrX (fz (fun _=>[]) h3) c ws hs ts wv hv tv:=by rw [fz_nil]; exact x.ext e03
  exact this.ext (o36.ext UB.nil)
 have hl:=x.hd.len
 have wl:=x.w.len
 have n8:=r6.k.hs.n8
 rw [r6.n] at n8
 have c8s:c.stripes ≤ 8:=by omega
 have kEnd:∀ {T' h'},Only UB T6 h6 T' h' → K (.bool true) h':=fun o=>hk _ (e03.trans (ext_of_only (o36.trans o) UB.nil))
 have cl:∀ {T' h'},Only UB T6 h6 T' h' → ∀ {n:Nat} {v:Value},(crC c wv hv tv)[n]?=some v → cel h' v1 n=some v:=fun o n v hv=>by
  rw [cel_of (o.see cb6 UB.nil).1]; simpa using hv
 unfold qhdZ
 rw [seqM_eq]
 unfold qhcZ
 refine loop_on [1,3,5,7] (fun s h'=>∃ k:Nat,HaJ T6 h6 hp tp (2400 * k) N c B (s 8) (2400 * k) h'∧s 9 = .int .i64 k∧k ≤ hs.length) (fun s _=>(hs.length - num (s 9)).toNat) ⟨0,⟨T6,_,_,0,z6',rfl,by omega⟩,rfl,by omega⟩ ?_
 rintro s h7 hf7 ⟨k,⟨T7,W7,M7,n7,z7,s8,hn7⟩,s9,hk7⟩
 have s1:s 1=ptr v1:=by simpa using hf7 1 (by simp)
 have s3:s 3=ptr hp:=by simpa using hf7 3 (by simp)
 have s5:s 5=ptr tp:=by simpa using hf7 5 (by simp)
 have s7:s 7=ptr mp:=by simpa using hf7 7 (by simp)
 have k4:hs.length ≤ 4:=ft.h
 have c8:=cl z7.o (n:=8) (v:=hv) (by simp [crC,cfgC])
 unfold qhbZ
 simp -implicitDefEqProofs [s1,c8,hl,s9]
 refine ⟨fun hc=>?_,fun hc=>?_⟩
 rotate_left
 ·exact kEnd z7.o
 have hlt:k < hs.length:=by omega
 have hwk:IntKind.i64.wrap ((k:Int) + 1)=(k + 1:Nat):=by rw [wrap64_id (by omega) (by omega)]; omega
 obtain ⟨bk,qk,uk,i1,i2,i3⟩:=OpsR.at xF.hd hlt
 have ul:=i3.len
 have lk:=ft.lh _ (List.getElem_mem hlt)
 unfold qhaZ
 rw [seqM_eq]
 unfold qgAZ
 refine loop_on [1,3,5,7,9] (fun s h'=>∃ i:Nat,HaJ T6 h6 hp tp (2400 * k + 40 * i) N c B (s 8) (2400 * k + 40 * i) h'∧s 10 = .int .i64 i∧i ≤ hs[k].length) (fun s _=>(hs[k].length - num (s 10)).toNat) ⟨0,⟨T7,W7,M7,n7,z7,by simp [s8],by omega⟩,rfl,by omega⟩ ?_
 rintro r h8 hf8 ⟨i,⟨T8,W8,M8,n8',z8,r8,hn8⟩,r10,hi8⟩
 have q1:r 1=ptr v1:=by simpa [s1] using hf8 1 (by simp)
 have q3:r 3=ptr hp:=by simpa [s3] using hf8 3 (by simp)
 have q5:r 5=ptr tp:=by simpa [s5] using hf8 5 (by simp)
 have q7:r 7=ptr mp:=by simpa [s7] using hf8 7 (by simp)
 have q9:r 9 = .int .i64 k:=by simpa [s9] using hf8 9 (by simp)
 have c8:=cl z8.o (n:=8) (v:=hv) (by simp [crC,cfgC])
 have c7:=cl z8.o (n:=7) (v:=wv) (by simp [crC,cfgC])
 have eF8:Ext (fz T6 h6) h8:=(z8.o.ext UB.nil).trans (fz_ext _ _)
 have i2':=i2 _ eF8
 unfold qgzZ
 simp -implicitDefEqProofs [q1,c8,q9,i1,i2',ul,r10]
 refine ⟨fun hc=>?_,fun hc=>?_⟩
 rotate_left
 ·simp -implicitDefEqProofs [s1,s3,s5,s7,s9,q1,q3,q5,q7,q9,hwk,-Int.natCast_add]
  exact ⟨⟨k + 1,⟨T8,W8,M8,n8',z8.mono (by omega),by simp [r8],by omega⟩,rfl,by omega⟩,by omega⟩
 have hli:i < hs[k].length:=by omega
 have hwi:IntKind.i64.wrap ((i:Int) + 1)=(i + 1:Nat):=by rw [wrap64_id (by omega) (by omega)]; omega
 obtain ⟨bi,pi,ui,j1,j2,j3,j4⟩:=opsAt i3 hli
 have hsx:=ft.sh _ (List.getElem_mem hlt) _ (List.getElem_mem hli)
 have lx:=short_users hsx
 unfold qgyZ
 rw [seqM_eq]
 unfold qgxZ
 rw [seqM_eq]
 -- the heeding
 have tail:∀ (t:Env) (T':Tags) (h':Heap) (W:Wd) (M:Tbl) (n:Nat) (Q:Post),TwH T6 h6 hp tp (2400 * k + 40 * i + 7) N 1 c B W M T' h' → n ≤ 2400 * k + 40 * i + 7 → t 1=ptr v1 → t 3=ptr hp → t 5=ptr tp → t 7=ptr mp → t 8 = .int .i64 n → t 9 = .int .i64 k → t 10 = .int .i64 i →
   (∀ t' h'',t' 1=ptr v1 → t' 3=ptr hp → t' 5=ptr tp → t' 7=ptr mp → t' 9 = .int .i64 k → t' 10 = .int .i64 i → HaJ T6 h6 hp tp (2400 * k + 40 * (i + 1)) N c B (t' 8) (2400 * k + 40 * (i + 1)) h'' → Q .normal [] t' h'') → qdoZ t h' [] Q:=by
  intro t T' h' W M n Q z hn t1 t3 t5 t7 t8 t9 t10 hQ
  have c8:=cl z.o (n:=8) (v:=hv) (by simp [crC,cfgC])
  have eF:Ext (fz T6 h6) (fz T' h'):=z.o.ext UB.nil
  have eF':=eF.trans (fz_ext _ _)
  unfold qdoZ
  simp -implicitDefEqProofs [t1,c8,t9,i1,i2 _ eF',t10,j1,j2 _ eF']
  have ou:=j3.one
  refine heeding_ok _ ou fun g8 f8=>?_
  unfold qgwZ
  have zcOp':zc P quZ=some (opC ⟨0,⟨#[]⟩,0,0,0,0,[]⟩ (.slice none 0 0)).toArray:=by kernel_rfl
  rw [zcOp']
  obtain ⟨X,hX⟩:∃ X,X=heOp hs[k][i]:=⟨_,rfl⟩
  have Xw:OpW X:=by rw [hX]; exact heOp_w j4
  have Xu:X.users=hs[k][i].users:=by rw [hX]; rfl
  have Xk:6 ≤ X.kind∧X.kind ≤ 9:=by rw [hX]; exact heOp_k _
  rw [← hX]
  refine nw_st (by simp [opC]) (by simp [opC]) (by simp [opC,ou.1]) fun vb g9 m9 f9 c9=>?_
  have c9:g9 vb=some (.cells (opC X ui).toArray quZ (0,0)):=by simpa using c9
  have f79:=f8.trans f9
  have z9:=z.ext f79
  have t9':T' vb=[]:=z.o.wf vb (fresh_of f8 m9)
  have oa:∀ h',h' vb=some (.cells (opC X ui).toArray quZ (0,0)) → ldV (some (some 7)) (ptr vb) h'=some (.agg (opC X ui).toArray):=fun h' hc=>by simp [ld_at hc,opC]
  simp -implicitDefEqProofs [oa _ c9,t3,t7]
  have uT:Sl 1 StrR (fz T' g9) ui X.users:=by rw [Xu]; exact j3.ext (@StrR.ext) (eF.trans (fz_of_ext f79))
  rw [← hB0]
  refine ah_new z9.r (by omega) (by omega) X Xw (fun _=>Xk.1) (by rw [Xu]; omega) uT fun Ta ha q a0=>?_
  try rw [hB0]
  have hL:=hLen_le (N:=N) (by omega) X
  unfold qgvZ
  rw [seqM_eq]
  unfold qgrZ
  refine loop_on [1,3,5,7,9,10,13,14] (fun s h''=>∃ j:Nat,HtA T' g9 hp q (2400 * k + 40 * i + 7) N c B X M W.ms j (s 8) (2400 * k + 40 * i + 7 + j) h''∧s 15 = .int .i64 j∧j ≤ hLen N X) (fun s _=>(40 - num (s 15)).toNat) ⟨0,⟨Ta,n,a0,by simp [t8],by omega⟩,rfl,by omega⟩ ?_
  rintro u h10 hf10 ⟨j,⟨T10,n10,a10,u8,hn10⟩,u15,hj⟩
  have u1:u 1=ptr v1:=by simpa [t1] using hf10 1 (by simp)
  have u3:u 3=ptr hp:=by simpa [t3] using hf10 3 (by simp)
  have u5:u 5=ptr tp:=by simpa [t5] using hf10 5 (by simp)
  have u7:u 7=ptr mp:=by simpa [t7] using hf10 7 (by simp)
  have u9:u 9 = .int .i64 k:=by simpa [t9] using hf10 9 (by simp)
  have u10:u 10 = .int .i64 i:=by simpa [t10] using hf10 10 (by simp)
  have u13:u 13=ptr vb:=by simpa using hf10 13 (by simp)
  have u14:u 14=ptr q:=by simpa using hf10 14 (by simp)
  have hj40:(j:Int) < 40:=by omega
  have hwj:IntKind.i64.wrap ((j:Int) + 1)=(j + 1:Nat):=by rw [wrap64_id (by omega) (by omega)]; omega
  have hwn:IntKind.i64.wrap ((n10:Int) + 1)=(n10 + 1:Nat):=by rw [wrap64_id (by omega) (by omega)]; omega
  obtain ⟨p10,hp10,hd10⟩:=a10.hpr hj
  unfold qgqZ
  simp -implicitDefEqProofs [u15,hj40,u14]
  refine hedone_ok hp10 ?_
  rw [hd10]
  by_cases hjl:j=hLen N X
  rotate_left
  ·simp -implicitDefEqProofs [hjl]
   unfold qgpZ
   simp -implicitDefEqProofs only [u14,u3,u8]
   refine ah_step a10 (by omega) (by omega) (by omega) _ fun T11 h11 a11=>?_
   unfold qgoZ
   simp -implicitDefEqProofs [t1,t3,t5,t7,t9,t10,u1,u3,u5,u7,u8,u9,u10,u13,u14,u15,hwj,hwn,-Int.natCast_add]
   exact ⟨⟨j + 1,⟨T11,n10 + 1,a11,rfl,by omega⟩,rfl,by omega⟩,by omega⟩
  subst hjl
  simp -implicitDefEqProofs
  obtain ⟨W11,p11,r11,hp11,hd11,hr11,hm11⟩:=ah_done a10
  have b10:=a10.o.see ⟨c9,t9'⟩ UH.nil
  unfold qguZ
  simp -implicitDefEqProofs [u14]
  refine hedone_ok hp11 ?_
  rw [hd11]
  unfold qgtZ
  simp -implicitDefEqProofs [u14,u13,u5,oa _ b10.1]
  refine hereply_ok r11.o.wf hp11 fun h12 vv ev e12 rx=>?_
  have hrep:(PR.h p11).rep=(M.do_ 0 X).2:=by simp [PR.rep,hd11]; exact hr11
  rw [hrep] at rx ⊢
  have b12:h12 vb=some (.cells (opC X ui).toArray quZ (0,0))∧T10 vb=[]:=⟨e12 _ _ b10.1,b10.2⟩
  have r12:=r11.ext e12
  have x12:=z9.md r12
  have u12:Sl 1 StrR (fz T10 h12) ui X.users:=uT.ext (@StrR.ext) (r12.o.ext UH.nil)
  simp -implicitDefEqProofs [oa _ b12.1]
  refine mdo_ok 0 X Xw (by rw [Xu]; omega) u12 r12.o.wf g4 x12 z9.r.k.ts (by omega) fun T13 h13 vv' ev' o13 x13 rx'=>?_
  have z13:=z9.go r12 o13 x13
  have rxx:=rx.ext (o13.ext (by simp [pre]))
  have tsM:=z13.r.k.ts
  refine repSame_ok _ _ (rxx.ext (fz_ext _ _)) (rx'.ext (fz_ext _ _)) ?_ ?_ fun h14 e14=>?_
  ·have:=(rep_len z9.r.k.ts 0 X Xk).1
   rw [this]; simp
  ·have:=(rep_len z9.r.k.ts 0 X Xk).2
   omega
  have z14:=z13.ext e14
  simp -implicitDefEqProofs [u3,u5]
  refine now_ok z14.r.hl fun h15 e15=>?_
  have z15:=z14.ext e15
  refine mtime_ok z15.o.wf z15.x fun h16 e16=>?_
  have z16:=z15.ext e16
  rw [tmNe,z16.r.k.li.t]
  try simp
  unfold qgsZ
  refine hQ _ _ (by simp [u1]) (by simp [u3]) (by simp [u5]) (by simp [u7]) (by simp [u9]) (by simp [u10]) ⟨T13,W11,_,n10,z16.mono (by omega),by simp [u8],by omega⟩
 unfold qgnZ
 by_cases hw0:ws.length=0
 ·simp -implicitDefEqProofs [q1,c7,wl,hw0]
  unfold qgmZ
  simp -implicitDefEqProofs
  refine tail _ T8 h8 W8 M8 n8' _ (z8.mono (by omega)) (by omega) (by simp [q1]) (by simp [q3]) (by simp [q5]) (by simp [q7]) (by simp [r8]) (by simp [q9]) (by simp [r10]) ?_
  intro t' h'' p1 p3 p5 p7 p9 p10 J
  simp -implicitDefEqProofs [s1,s3,s5,s7,s9,q1,q3,q5,q7,q9,r10,p1,p3,p5,p7,p9,p10,hwi,-Int.natCast_add]
  exact ⟨⟨i + 1,J,rfl,by omega⟩,by omega⟩
 have hw1:0 < ws.length:=by omega
 simp -implicitDefEqProofs [q1,c7,wl,hw1]
 obtain ⟨e,he⟩:∃ e,e=i % ws.length:=⟨_,rfl⟩
 have hlt:e < ws.length:=by rw [he]; exact Nat.mod_lt _ hw1
 have brem:binV .rem 2 false (.int .i64 (i:Int)) (.int .i64 (ws.length:Int))=some (.int .i64 (e:Int)):=by
  have r:((i:Int)).tmod ws.length=(i % ws.length:Nat):=by rw [Int.tmod_eq_emod_of_nonneg (by omega)]; simp
  have:¬ (ws.length:Int)=0:=by omega
  simp -implicitDefEqProofs only [binV,intV,if_true,if_neg this,r,he]
 obtain ⟨bw,pw,uw,w1,w2,w3,w4⟩:=opsAt xF.w hlt
 have hsw:=ft.sw _ (List.getElem_mem hlt)
 have lw:=short_users hsw
 unfold qglZ
 simp -implicitDefEqProofs [q1,c7,wl,r10,brem,w1,w2 _ eF8]
 refine writing17_ok _ w3.one fun h9 e9=>?_
 have z9:=z8.ext e9
 obtain ⟨X,hX⟩:∃ X,X=wrOp ws[e]:=⟨_,rfl⟩
 have Xw:OpW X:=by rw [hX]; exact wrOp_w w4
 have Xk:X.kind=1 ∨ X.kind=2 ∨ X.kind=3:=by rw [hX]; exact wrOp_k _
 have Xu:X.users=ws[e].users:=by rw [hX]; rfl
 have uT:Sl 1 StrR (fz T8 h9) uw X.users:=by rw [Xu]; exact w3.ext (@StrR.ext) ((z8.o.ext UB.nil).trans (fz_of_ext e9))
 unfold qgkZ
 rw [← hX]
 simp -implicitDefEqProofs [q3]
 refine av_new (i:=1) z9.r (by omega) X Xw (by rw [Xu]; omega) uT fun Ta ha q a0=>?_
 unfold qgjZ
 rw [seqM_eq]
 unfold qgfZ
 refine loop_on [1,3,5,7,9,10,11] (fun s h''=>∃ j:Nat,HaV T8 h9 hp q (2400 * k + 40 * i) N c B X M8 W8.ms j (s 8) (2400 * k + 40 * i + j) h''∧s 12 = .int .i64 j∧j ≤ 7) (fun s _=>(7 - num (s 12)).toNat) ⟨0,⟨Ta,n8',a0,by simp [r8],by omega⟩,rfl,by omega⟩ ?_
 rintro t h10 hf10 ⟨j,⟨T10,n10,a10,t8,hn10⟩,t12,hj7⟩
 have t1:t 1=ptr v1:=by simpa [q1] using hf10 1 (by simp)
 have t3:t 3=ptr hp:=by simpa [q3] using hf10 3 (by simp)
 have t5:t 5=ptr tp:=by simpa [q5] using hf10 5 (by simp)
 have t7:t 7=ptr mp:=by simpa [q7] using hf10 7 (by simp)
 have t9:t 9 = .int .i64 k:=by simpa [q9] using hf10 9 (by simp)
 have t10:t 10 = .int .i64 i:=by simpa [r10] using hf10 10 (by simp)
 have t11:t 11=ptr q:=by simpa using hf10 11 (by simp)
 unfold qgeZ
 simp -implicitDefEqProofs [t12]
 refine ⟨fun hc=>?_,fun hc=>?_⟩
 ·have hwj:IntKind.i64.wrap ((j:Int) + 1)=(j + 1:Nat):=by rw [wrap64_id (by omega) (by omega)]; omega
  have hwn:IntKind.i64.wrap ((n10:Int) + 1)=(n10 + 1:Nat):=by rw [wrap64_id (by omega) (by omega)]; omega
  unfold qgdZ
  simp -implicitDefEqProofs only [t11,t3,t8]
  refine av_step a10 (by omega) (by omega) _ fun Tb hb ab=>?_
  unfold qgcZ
  simp -implicitDefEqProofs [q1,q3,q5,q7,q9,r10,t1,t3,t5,t7,t8,t9,t10,t11,t12,hwj,hwn,-Int.natCast_add]
  exact ⟨⟨j + 1,⟨Tb,n10 + 1,ab,rfl,by omega⟩,rfl,by omega⟩,by omega⟩
 have hj:j=7:=by omega
 subst hj
 obtain ⟨W11,p11,r11,hd11,he11,hm11⟩:=av_done a10
 have hbd:(wkOf X).bef (stripeOf X.user c.stripes).toNat M8=M8.do_ 1 X:=bef_do Xk (i:=1) (by omega)
 rw [hbd] at r11
 have c7:=cl (z9.o.trans (r11.o.mono fun _=>UH.b)) (n:=7) (v:=wv) (by simp [crC,cfgC])
 have eF10:Ext (fz T6 h6) h10:=((z9.o.trans (r11.o.mono fun _=>UH.b)).ext UB.nil).trans (fz_ext _ _)
 unfold qgiZ
 simp -implicitDefEqProofs [t1,c7,wl,t10,brem,w1,w2 _ eF10]
 refine writing17_ok _ w3.one fun h12 e12=>?_
 have r12:=r11.ext e12
 have x12:=z9.md r12
 have u12:Sl 1 StrR (fz T10 h12) uw X.users:=uT.ext (@StrR.ext) (r12.o.ext UH.nil)
 unfold qghZ
 rw [← hX]
 simp -implicitDefEqProofs [t5]
 refine mdo_ok 1 X Xw (by rw [Xu]; omega) u12 r12.o.wf g4 x12 z9.r.k.ts (by omega) fun T13 h13 vv' ev' o13 x13 rx'=>?_
 have z13:=z9.go r12 o13 x13
 unfold qggZ
 simp -implicitDefEqProofs
 refine tail _ T13 h13 W11 _ n10 _ (z13.mono (by omega)) (by omega) (by simp [t1]) (by simp [t3]) (by simp [t5]) (by simp [t7]) (by simp [t8]) (by simp [t9]) (by simp [t10]) ?_
 intro t' h'' p1 p3 p5 p7 p9 p10 J
 simp -implicitDefEqProofs [s1,s3,s5,s7,s9,q1,q3,q5,q7,q9,r10,p1,p3,p5,p7,p9,p10,hwi,-Int.natCast_add]
 exact ⟨⟨i + 1,J,rfl,by omega⟩,by omega⟩
end Go.Proofs.YtcnphhhcknhhaaaGreat
namespace Go.Proofs.YtcnphhhcknhhaaaGreat
open Go Go.Den
set_option linter.unusedSimpArgs false
set_option linter.unusedVariables false
structure CrewD where
 c:Cfg
 ws:List OpD
 hs:List (List OpD)
 ts:List Int
def CrewR (h:Heap) (c:List Value) (x:CrewD):Prop:=∃ wv hv tv,c=crC x.c wv hv tv∧CrX h x.c x.ws x.hs x.ts wv hv tv∧CfgW x.c
theorem rdrCrew:Rdr P 44 CrewR:=fun enc W base spare held fuel cs x h=>by
 have hl:cs.length=10:=(struct_fields (P:=P) Tryz.underlying44 h).1.trans (by kernel_rfl)
 obtain ⟨_,_,h0⟩:=struct_field (P:=P) Tryz.underlying44 h 0 24 0 7 (by kernel_rfl)
 obtain ⟨_,_,h1⟩:=struct_field (P:=P) Tryz.underlying44 h 1 40 7 1 (by kernel_rfl)
 obtain ⟨_,_,h2⟩:=struct_field (P:=P) Tryz.underlying44 h 2 41 8 1 (by kernel_rfl)
 obtain ⟨_,_,h3⟩:=struct_field (P:=P) Tryz.underlying44 h 3 42 9 1 (by kernel_rfl)
 obtain ⟨a0,e0,w0⟩:=rdrCfg _ _ _ _ _ _ _ _ h0
 have rO:Rdr P 40 OpsR:=Rdr.slice (P:=P) (sz:=7) Tryz.underlying40 (by kernel_rfl) (by decide) rdrOp
 obtain ⟨a1,v1,e1,s1⟩:=rO _ _ _ _ _ _ _ _ h1
 obtain ⟨a2,v2,e2,s2⟩:=Rdr.slice (P:=P) (sz:=1) Tryz.underlying41 (by kernel_rfl) (by decide) rO _ _ _ _ _ _ _ _ h2
 obtain ⟨a3,v3,e3,s3⟩:=Rdr.slice (P:=P) (sz:=1) Tryz.underlying42 (by kernel_rfl) (by decide) (Rdr.int (P:=P) Tryz.underlying5) _ _ _ _ _ _ _ _ h3
 match cs,hl with
 | [x0,x1,x2,x3,x4,x5,x6,x7,x8,x9],_ =>
  simp [cfgC] at e0 e1 e2 e3
  exact ⟨⟨a0,a1,a2,a3⟩,v1,v2,v3,by simp [crC,cfgC,e0,e1,e2,e3],⟨s1,s2,s3⟩,w0⟩
end Go.Proofs.YtcnphhhcknhhaaaGreat
namespace Go.Proofs.YtcnphhhcknhhaaaGreat
open Go Go.Den
variable {K:Value → Heap → Prop}
theorem heedAlone_row {x:CrewD} {b0:Array Value} {h:Heap} (hc:CrewR h b0.toList x) (hk:∀ h',Ext h h' → K (.bool true) h') :
  callM P qdMZ #[.agg b0] h K:=by
 obtain ⟨wv,hv,tv,e0,cx,cw⟩:=hc
 have h0:b0=(crC x.c wv hv tv).toArray:=by rw [← e0]
 rw [h0]
 exact heedAlone_ok x.c cw x.ws x.hs x.ts cx hk
end Go.Proofs.YtcnphhhcknhhaaaGreat
