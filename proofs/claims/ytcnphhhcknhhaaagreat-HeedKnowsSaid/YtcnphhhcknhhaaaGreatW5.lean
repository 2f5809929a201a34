/- Words, plain data and contracts of the Go functions that this claim reaches. No condition beyond the hypotheses that each theorem states. -/
import Derived.Test.YtcnphhhcknhhaaaGreatW4
set_option linter.unusedSimpArgs false
set_option linter.unusedVariables false
namespace Go.Proofs.YtcnphhhcknhhaaaGreat
open Go Go.Den Go.MapKept
set_option linter.unusedSimpArgs false
set_option linter.unusedVariables false
set_option maxRecDepth 20000
def U3p (g gh gm t : Tag) : Prop := pre g t ∨ pre gh t ∨ pre gm t
theorem hplain_run {T : Tags} {h : Heap} {fv hv : Value} {f : FuncId} {cap : Array Value} (x : PlB (fz T h) fv f cap) (hg : gd f = true) {K : Value → Heap → Prop} (hd : callM P f (#[hv] ++ cap) h fun _ h' => K (.bool false) h') :
    nxM P (do let d ← Deferred.ofValue fv #[hv]; invoke d.target d.args) h K := by
  obtain ⟨b, rfl, hb⟩ := x
  refine nx_fn good (by kernel_rfl) ?_
  show callM P fn_heed_Proc_plain_c1 #[hv, ptr b] h K
  apply e_heed_Proc_plain_c1
  unfold d_heed_Proc_plain_c1
  have cb := (fz_get hb).1
  simp -implicitDefEqProofs [ld_at cb, cel_of cb, stm_at cb, stm_upd, ld_same, cel_same, over]
  exact nx_fn good hg hd
section
variable {T : Tags} {h : Heap} {g gh gm : Tag} {q mq al hp k : Nat} {p : HP} {m : Mine} {H : Hall} {K : Value → Heap → Prop}
theorem evl_nil {n : Int} (hi : HPI p) (he : p.enabled H = true) (h : p.poll = false ∨ p.at_ + 1 < p.steps) : (if (p.stp m H n).1.done then (p.stp m H n).1.rep.evs else []) = [] := by
  have hst : p.step m H n = p.stp m H n := by simp [HP.step, he]
  have hI := hi.step m H n
  have hat := hstep_at p m H n
  have hk := hstep_k p m H n
  rw [hst] at hI hat hk
  rw [if_pos he] at hat
  rcases h with h | h
  · have hpo : (p.stp m H n).1.poll = p.poll := by simp only [HP.poll, HP.one, hk.2.1]
    rw [hI.ne (by rw [hpo]; exact h)]
    split <;> rfl
  · have : (p.stp m H n).1.done = false := by
      have hs : (p.stp m H n).1.steps = p.steps := by unfold HP.steps HP.one; rw [hk.2.1, hk.2.2.1]
      simp -implicitDefEqProofs [HP.done, hs, hat]; omega
    rw [this]; rfl
/-- What an act leaves: all but the counting of it. -/
def ActK (T : Tags) (h : Heap) (g gh gm : Tag) (q mq al hp : Nat) (p : HP) (m : Mine) (H : Hall) (n : Int) (av : Value) (fv : Nat → Value) (K : Value → Heap → Prop) : Prop :=
  ∀ T' h' ev' cv', Only (U3p g gh gm) T h T' h' → HPX T' h' g q mq al p.steps { (p.stp m H n).1 with at_ := p.at_, placed := p.placed } av ev' fv cv' (if (p.stp m H n).1.done then (p.stp m H n).1.rep.evs else []) →
    HallR T' h' gh hp (p.stp m H n).2.2 → MineR T' h' gm mq (p.stp m H n).2.1 → K (.bool p.places) h'
theorem he_bad {n : Int} (w : Wf T h) (gg : Gd g) (d1 : Off (pre g) gh) (d2 : Off (pre g) gm) {av ev : Value} {fv cv : Nat → Value} (x : HPX T h g q mq al p.steps p av ev fv cv []) (y : HallR T h gh hp H) (z : MineR T h gm mq m) (hi : HPI p) (he : p.enabled H = true) (hb : badB p.x = true)
    (hk : ActK T h g gh gm q mq al hp p m H n av fv K) : nxM P (do let d ← Deferred.ofValue (fv p.at_) #[ptr hp]; invoke d.target d.args) h K := by
  have hlt := HP.lt_of_en he
  have a := x.fn _ hlt
  have hone : p.one = true := by simp [HP.one, hb]
  have hpo : p.poll = false := by simp [HP.poll, hone]
  have hkd : p.kd p.at_ = .bad := by simp [HP.kd, hb]
  rw [hkd] at a
  obtain ⟨b, hf, hB⟩ := a
  rw [hf]
  refine nx_fn good (by kernel_rfl) ?_
  show callM P fn_heed_New_c1 #[ptr hp, ptr b] h K
  apply e_heed_New_c1
  unfold d_heed_New_c1
  have cb := (fz_get hB).1
  have cp := x.hp
  simp -implicitDefEqProofs only [hpC] at cp
  have hpl : p.places = true := by simp [HP.places, hone]
  have hs : p.stp m H n = ({ p with at_ := 1, placed := n, rep := { p.rep with err := 1 } }, m, H) := by simp [HP.stp, hb]
  obtain ⟨o3, x3⟩ := x.st (p' := { p with rep := { p.rep with err := 1 } }) (ev' := ev) w (c := _) rfl rfl rfl rfl rfl rfl x.ev
  have hE := evl_nil (m := m) (n := n) hi he (.inl hpo)
  unfold ActK at hk
  rw [hE, hs] at hk
  simp -implicitDefEqProofs only [hpC] at o3 x3
  simp -implicitDefEqProofs [ld_at cb, cel_of cb, stm_at cb, ld_at cp, cel_of cp, stm_at cp, stm_upd, ld_same, cel_same, over]
  rw [hpl] at hk
  refine hk T _ ev cv (o3.mono fun _ hh => .inl (eq_pre hh)) x3 (y.up o3 (fun t ht hh => d1 t ht (eq_pre hh)) (by simp)) (z.kp o3.k (fun t ht hh => d2 t ht (eq_pre hh)))
theorem he_shut {n : Int} (w : Wf T h) (gg : Gd g) (ggh : Gd gh) (d1 : Off (pre g) gh) (d2 : Off (pre g) gm) (d3 : Off (pre gh) g) (d4 : Off (pre gh) gm) {av ev : Value} {fv cv : Nat → Value} (x : HPX T h g q mq al p.steps p av ev fv cv []) (y : HallR T h gh hp H) (z : MineR T h gm mq m) (hi : HPI p) (he : p.enabled H = true) (hb : badB p.x = false) (h9 : p.x.kind = 9)
    (hl : H.acts.length < 1000000) (hk : ActK T h g gh gm q mq al hp p m H n av fv K) : nxM P (do let d ← Deferred.ofValue (fv p.at_) #[ptr hp]; invoke d.target d.args) h K := by
  have hlt := HP.lt_of_en he
  have a := x.fn _ hlt
  have hone : p.one = true := by simp [HP.one, h9]
  have hpo : p.poll = false := by simp [HP.poll, hone]
  have hkd : p.kd p.at_ = .shut := by simp [HP.kd, hb, h9]
  rw [hkd] at a
  obtain ⟨b1, b2, hf, hB1, hB2⟩ := a
  rw [hf]
  refine nx_fn good (by kernel_rfl) ?_
  show callM P fn_heed_New_c2 #[ptr hp, ptr b1, ptr b2] h K
  apply e_heed_New_c2
  unfold d_heed_New_c2
  have cb := (fz_get hB1).1
  have hpl : p.places = true := by simp [HP.places, hone]
  have hs : p.stp m H n = ({ p with at_ := 1, placed := n, rep := if H.t.closed then { p.rep with err := 5 } else p.rep }, m, H.shut p.who) := by simp [HP.stp, hb, h9]
  have hE := evl_nil (m := m) (n := n) hi he (.inl hpo)
  unfold ActK at hk
  rw [hE, hs, hpl] at hk
  rw [seqM_eq]
  unfold d_heed_New_c2_1
  simp -implicitDefEqProofs [ld_at cb, cel_of cb, stm_at cb, stm_upd, ld_same, cel_same, over]
  refine hshut_ok p.who w ggh y hl fun T2 h2 o2 y2 => ?_
  have x2 := x.kp o2.k d3 ggh.nil
  have z2 := z.kp o2.k d4
  have cb2 := (o2.see (fz_get hB2) ggh.nil).1
  have cp := x2.hp
  simp -implicitDefEqProofs only [hpC] at cp
  unfold d_heed_New_c2_2
  cases hcl : H.t.closed with
  | false =>
    rw [hcl] at hk
    simp -implicitDefEqProofs
    exact hk T2 h2 ev cv (o2.mono fun _ hh => .inr (.inl hh)) x2 y2 z2
  | true =>
    rw [hcl] at hk
    simp -implicitDefEqProofs
    unfold d_heed_New_c2_3
    obtain ⟨o3, x3⟩ := x2.st (p' := { p with rep := { p.rep with err := 5 } }) (ev' := ev) o2.wf (c := _) rfl rfl rfl rfl rfl rfl x2.ev
    simp -implicitDefEqProofs only [hpC] at o3 x3
    simp -implicitDefEqProofs [ld_at cb2, cel_of cb2, stm_at cb2, ld_at cp, cel_of cp, stm_at cp, stm_upd, ld_same, cel_same, over]
    exact hk T2 _ ev cv ((o2.mono fun _ hh => .inr (.inl hh)).trans (o3.mono fun _ hh => .inl (eq_pre hh))) x3 (y2.up o3 (fun t ht hh => d1 t ht (eq_pre hh)) (by simp)) (z2.kp o3.k (fun t ht hh => d2 t ht (eq_pre hh)))
/-- The taking of a lock. -/
theorem he_lock {s : Nat} {n : Int} (w : Wf T h) (ggh : Gd gh) (d3 : Off (pre gh) g) (d4 : Off (pre gh) gm) {av ev : Value} {fv cv : Nat → Value} (x : HPX T h g q mq al p.steps p av ev fv cv []) (y : HallR T h gh hp H) (z : MineR T h gm mq m) (hi : HPI p) (he : p.enabled H = true) (hkd : p.kd p.at_ = .lock s) (hsn : s < H.n) (h8 : H.n ≤ 8) (hl : H.acts.length < 1000000) (hw : -1 ≤ p.who ∧ p.who ≤ 900)
    (hs : p.stp m H n = ({ p with at_ := p.at_ + 1 }, m, H.lock p.who s)) (hend : p.poll = false ∨ p.at_ + 1 < p.steps) (hpl : p.places = false)
    (hk : ActK T h g gh gm q mq al hp p m H n av fv K) : nxM P (do let d ← Deferred.ofValue (fv p.at_) #[ptr hp]; invoke d.target d.args) h K := by
  have hlt := HP.lt_of_en he
  have a := x.fn _ hlt
  rw [hkd] at a
  obtain ⟨b1, b2, hf, hB1, hB2⟩ := a
  rw [hf]
  refine nx_fn good (by kernel_rfl) ?_
  show callM P fn_heed_Proc_locked_c1 #[ptr hp, ptr b1, ptr b2] h K
  apply e_heed_Proc_locked_c1
  unfold d_heed_Proc_locked_c1
  have c1 := (fz_get hB1).1
  have c2 := (fz_get hB2).1
  have hE := evl_nil (m := m) (n := n) hi he hend
  unfold ActK at hk
  rw [hE, hs, hpl] at hk
  simp -implicitDefEqProofs [ld_at c1, cel_of c1, stm_at c1, ld_at c2, cel_of c2, stm_at c2, stm_upd, ld_same, cel_same, over]
  refine lock_ok p.who w ggh y hsn h8 hl (by omega) fun T2 h2 o2 y2 => ?_
  exact hk T2 h2 ev cv (o2.mono fun _ hh => .inr (.inl hh)) (x.kp o2.k d3 ggh.nil) y2 (z.kp o2.k d4)
/-- The look at the time. -/
theorem he_look {n : Int} (w : Wf T h) (gg : Gd g) (ggh : Gd gh) (d1 : Off (pre g) gh) (d2 : Off (pre g) gm) (d3 : Off (pre gh) g) (d4 : Off (pre gh) gm) {av ev : Value} {fv cv : Nat → Value} (x : HPX T h g q mq al p.steps p av ev fv cv []) (y : HallR T h gh hp H) (z : MineR T h gm mq m) (hi : HPI p) (he : p.enabled H = true) (hkd : p.kd p.at_ = .look) (hl : H.acts.length < 1000000)
    (hs : p.stp m H n = ({ p with at_ := p.at_ + 1, t := H.t, placed := n }, m, H.look p.who)) (hend : p.poll = false ∨ p.at_ + 1 < p.steps) (hpl : p.places = true)
    (hk : ActK T h g gh gm q mq al hp p m H n av fv K) : nxM P (do let d ← Deferred.ofValue (fv p.at_) #[ptr hp]; invoke d.target d.args) h K := by
  have hlt := HP.lt_of_en he
  have a := x.fn _ hlt
  rw [hkd] at a
  obtain ⟨b1, b2, hf, hB1, hB2⟩ := a
  rw [hf]
  refine nx_fn good (by kernel_rfl) ?_
  show callM P fn_heed_Proc_look_c1 #[ptr hp, ptr b1, ptr b2] h K
  apply e_heed_Proc_look_c1
  unfold d_heed_Proc_look_c1
  have c1 := (fz_get hB1).1
  have c2 := (fz_get hB2).1
  have hE := evl_nil (m := m) (n := n) hi he hend
  unfold ActK at hk
  rw [hE, hs, hpl] at hk
  simp -implicitDefEqProofs [ld_at c1, cel_of c1, stm_at c1, ld_at c2, cel_of c2, stm_at c2, stm_upd, ld_same, cel_same, over]
  refine look_ok p.who w ggh y hl fun T2 h2 o2 y2 => ?_
  have x2 := x.kp o2.k d3 ggh.nil
  have z2 := z.kp o2.k d4
  have c2 := (o2.see (fz_get hB2) ggh.nil).1
  have cp := x2.hp
  simp -implicitDefEqProofs only [hpC] at cp
  obtain ⟨o3, x3⟩ := x2.st (p' := { p with t := H.t }) (ev' := ev) o2.wf (c := _) rfl rfl rfl rfl rfl rfl x2.ev
  simp -implicitDefEqProofs only [hpC] at o3 x3
  simp -implicitDefEqProofs only [tmC]
  simp -implicitDefEqProofs [ld_at c2, cel_of c2, stm_at c2, ld_at cp, cel_of cp, stm_at cp, stm_upd, ld_same, cel_same, over]
  exact hk T2 _ ev cv ((o2.mono fun _ hh => .inr (.inl hh)).trans (o3.mono fun _ hh => .inl (eq_pre hh))) x3 (y2.up o3 (fun t ht hh => d1 t ht (eq_pre hh)) (by simp)) (z2.kp o3.k (fun t ht hh => d2 t ht (eq_pre hh)))
/-- The giving back of a lock, of a Watch. -/
theorem he_unl {s : Nat} {n : Int} (w : Wf T h) (ggh : Gd gh) (d3 : Off (pre gh) g) (d4 : Off (pre gh) gm) {av ev : Value} {fv cv : Nat → Value} (x : HPX T h g q mq al p.steps p av ev fv cv []) (y : HallR T h gh hp H) (z : MineR T h gm mq m) (hi : HPI p) (he : p.enabled H = true) (hkd : p.kd p.at_ = .unl s) (hsn : s < H.n) (h8 : H.n ≤ 8) (hl : H.acts.length < 1000000) (hw : 0 ≤ (H.ss s).who ∧ (H.ss s).who ≤ 1000)
    (hs : p.stp m H n = ({ p with at_ := p.at_ + 1 }, m, H.unlock p.who s)) (hend : p.poll = false ∨ p.at_ + 1 < p.steps) (hpl : p.places = false)
    (hk : ActK T h g gh gm q mq al hp p m H n av fv K) : nxM P (do let d ← Deferred.ofValue (fv p.at_) #[ptr hp]; invoke d.target d.args) h K := by
  have hlt := HP.lt_of_en he
  have a := x.fn _ hlt
  rw [hkd] at a
  obtain ⟨b1, b2, pl, hB1, hB2⟩ := a
  refine hplain_run pl (by kernel_rfl) ?_
  show callM P fn_heed_Proc_watch_c2 #[ptr hp, ptr b1, ptr b2] h _
  apply e_heed_Proc_watch_c2
  unfold d_heed_Proc_watch_c2
  have c1 := (fz_get hB1).1
  have c2 := (fz_get hB2).1
  have hE := evl_nil (m := m) (n := n) hi he hend
  unfold ActK at hk
  rw [hE, hs, hpl] at hk
  simp -implicitDefEqProofs [ld_at c1, cel_of c1, stm_at c1, ld_at c2, cel_of c2, stm_at c2, stm_upd, ld_same, cel_same, over]
  refine unlock_ok p.who w ggh y hsn h8 hl (by omega) fun T2 h2 o2 y2 => ?_
  exact hk T2 h2 ev cv (o2.mono fun _ hh => .inr (.inl hh)) (x.kp o2.k d3 ggh.nil) y2 (z.kp o2.k d4)
end
end Go.Proofs.YtcnphhhcknhhaaaGreat
namespace Go.Proofs.YtcnphhhcknhhaaaGreat
open Go Go.Den Go.MapKept
set_option linter.unusedSimpArgs false
set_option linter.unusedVariables false
set_option maxRecDepth 20000
section
variable {T : Tags} {h : Heap} {g gh gm : Tag} {q mq al hp k : Nat} {p : HP} {m : Mine} {H : Hall} {K : Value → Heap → Prop}
/-- What a Watch or Unwatch does. -/
theorem he_wat {n : Int} (w : Wf T h) (gg : Gd g) (ggh : Gd gh) (ggm : Gd gm) (d1 : Off (pre g) gh) (d2 : Off (pre g) gm) (d3 : Off (pre gh) g) (d4 : Off (pre gh) gm) (d5 : Off (pre gm) g) (d6 : Off (pre gm) gh) {av ev : Value} {fv cv : Nat → Value} (x : HPX T h g q mq al p.steps p av ev fv cv []) (y : HallR T h gh hp H) (z : MineR T h gm mq m) (hi : HPI p) (he : p.enabled H = true) (hkd : p.kd p.at_ = .wat) (hs0 : HS k H) (hk0 : k < 100000) (hsn : p.s < H.n) (hu : p.x.user.size ≤ maxLen) (hb : badB p.x = false) (h9 : p.x.kind ≠ 9) (h8 : p.x.kind ≠ 8) (hat : p.at_ = 2)
    (hk : ActK T h g gh gm q mq al hp p m H n av fv K) : nxM P (do let d ← Deferred.ofValue (fv p.at_) #[ptr hp]; invoke d.target d.args) h K := by
  have hlt := HP.lt_of_en he
  have a := x.fn _ hlt
  rw [hkd] at a
  have hone : p.one = false := by simp [HP.one, hb, h9]
  have hpo : p.poll = false := by simp [HP.poll, h8]
  have hpl : p.places = false := by simp [HP.places, hone, h8, hat]
  obtain ⟨b1, b2, b3, b4, b5, b6, uv, pl, hB1, hB2, hB3, hB4, hB5, hB6⟩ := a
  refine hplain_run pl (by kernel_rfl) ?_
  show callM P fn_heed_Proc_watch_c1 #[ptr hp, ptr b1, ptr b2, ptr b3, ptr b4, ptr b5, ptr b6] h _
  apply e_heed_Proc_watch_c1
  unfold d_heed_Proc_watch_c1
  have hE := evl_nil (m := m) (n := n) hi he (.inl hpo)
  unfold ActK at hk
  have hst : p.stp m H n = p.stpW m H n := by simp [HP.stp, hb, h9, h8]
  rw [hE, hst, hpl] at hk
  have c1 := (fz_get hB1).1
  have c2 := (fz_get hB2).1
  have c3 := (fz_get hB3).1
  have c4 := (fz_get hB4).1
  have c5 := (fz_get hB5).1
  have c6 := (fz_get hB6).1
  have cp := x.hp
  simp -implicitDefEqProofs only [hpC] at cp
  have u4 : cel h b4 1 = some (.string p.x.user) := by simp [cel_of c4, opC]
  -- an error is told
  have err : ∀ e : Int, p.stpW m H n = ({ p with at_ := 3, rep := { p.rep with err := e } }, m, H) → K (.bool false) (upd h q (.cells (hpC { p with rep := { p.rep with err := e } } av ev).toArray ty_heed_Proc (0, 0))) := by
    intro e hs
    rw [hs] at hk
    obtain ⟨o3, x3⟩ := x.st (p' := { p with rep := { p.rep with err := e } }) (ev' := ev) w (c := _) rfl rfl rfl rfl rfl rfl x.ev
    exact hk T _ ev cv (o3.mono fun _ hh => .inl (eq_pre hh)) x3 (y.up o3 (fun t ht hh => d1 t ht (eq_pre hh)) (by simp)) (z.kp o3.k (fun t ht hh => d2 t ht (eq_pre hh)))
  simp -implicitDefEqProofs only [hpC] at err
  simp -implicitDefEqProofs [ld_at c1, cel_of c1, stm_at c1, ld_at cp, cel_of cp, stm_at cp, stm_upd, ld_same, cel_same, over]
  cases hcl : p.t.closed with
  | true =>
    have hs : p.stpW m H n = ({ p with at_ := 3, rep := { p.rep with err := 5 } }, m, H) := by simp [HP.stpW, hat, hcl]
    simp -implicitDefEqProofs
    unfold d_heed_Proc_watch_c1_1
    simp -implicitDefEqProofs [ld_at c1, cel_of c1, stm_at c1, ld_at cp, cel_of cp, stm_at cp, stm_upd, ld_same, cel_same, over, hcl]
    have := err 5 hs
    simpa [hcl] using this
  | false =>
    simp -implicitDefEqProofs
    unfold d_heed_Proc_watch_c1_2
    -- it is let
    have ok : ∀ (h2 : Heap) (on : Bool), on = decide (p.x.kind = 6) → Ext h h2 → p.stpW m H n = ({ p with at_ := 3 }, miset m p.x.user (decide (p.x.kind = 6)), H.watch p.who p.s p.x.user (decide (p.x.kind = 6))) → d_heed_Proc_watch_c1_4 (ptr b5) h2 (ptr b6) (ptr b4) (ptr b2) (ptr hp) (ptr b3) (fun _ h' => K (.bool false) h') := by
      intro h2 on hon e2 hs
      rw [hs] at hk
      have o2 : Only non T h T h2 := Only.of_ext w e2
      have x2 := x.kp o2.k (Off.non _) (not_non _)
      have y2 := y.up o2 (Off.non _) (not_non _)
      have z2 := z.kp o2.k (Off.non _)
      have c5 := e2 _ _ c5
      have c6 := e2 _ _ c6
      have c2 := e2 _ _ c2
      have u4 : cel h2 b4 1 = some (.string p.x.user) := by simp [cel_of (e2 _ _ c4), opC]
      unfold d_heed_Proc_watch_c1_4
      simp -implicitDefEqProofs [ld_at c5, cel_of c5, stm_at c5, ld_at c6, cel_of c6, stm_at c6, ld_at c2, cel_of c2, stm_at c2, stm_upd, ld_same, cel_same, over, u4]
      refine hwatch_ok p.who p.x.user hu _ o2.wf ggh y2 hsn hs0 hk0 fun T3 h3 o3 y3 => ?_
      have x3 := x2.kp o3.k d3 ggh.nil
      have z3 := z2.kp o3.k d4
      have F : ∀ {b o}, fz T h b = some o → h3 b = some o := fun {b o} hh => (o3.see (o2.see (fz_get hh) (not_non _)) ggh.nil).1
      have c3 := F hB3
      have c2 := F hB2
      have u4 : cel h3 b4 1 = some (.string p.x.user) := by simp [cel_of (F hB4), opC]
      unfold d_heed_Proc_watch_c1_5
      simp -implicitDefEqProofs [ld_at c3, cel_of c3, stm_at c3, ld_at c2, cel_of c2, stm_at c2, stm_upd, ld_same, cel_same, over, u4]
      refine mset_ok o3.wf ggm z3 p.x.user _ fun h4 o4 z4 => ?_
      exact hk T3 h4 ev cv (((o2.mono non_up).trans (o3.mono fun _ hh => .inr (.inl hh))).trans (o4.mono fun _ hh => .inr (.inr hh))) (x3.kp o4.k d5 ggm.nil) (y3.up o4 d6 ggm.nil) z4
    by_cases h6 : p.x.kind = 6
    rotate_left
    · have hs : p.stpW m H n = ({ p with at_ := 3 }, miset m p.x.user (decide (p.x.kind = 6)), H.watch p.who p.s p.x.user (decide (p.x.kind = 6))) := by simp [HP.stpW, hat, hcl, h6]
      simp -implicitDefEqProofs [ld_at c2, cel_of c2, stm_at c2, stm_upd, ld_same, cel_same, over, h6]
      exact ok h _ rfl (Ext.refl h) hs
    simp -implicitDefEqProofs [ld_at c2, cel_of c2, stm_at c2, ld_at c3, cel_of c3, stm_at c3, stm_upd, ld_same, cel_same, over, h6, u4]
    refine mhas_ok z p.x.user ?_
    cases hm : mhas m p.x.user with
    | true =>
      have hs : p.stpW m H n = ({ p with at_ := 3 }, miset m p.x.user (decide (p.x.kind = 6)), H.watch p.who p.s p.x.user (decide (p.x.kind = 6))) := by simp [HP.stpW, hat, hcl, h6, hm]
      simp -implicitDefEqProofs
      exact ok h _ rfl (Ext.refl h) hs
    | false =>
      simp -implicitDefEqProofs [ld_at c3, cel_of c3, stm_at c3, stm_upd, ld_same, cel_same, over]
      refine mcount_ok z ?_
      try simp
      refine config_ok y fun h2 e2 => ?_
      simp -implicitDefEqProofs [fdV, cfgC]
      refine ⟨fun hc => ?_, fun hc => ?_⟩
      · have hs : p.stpW m H n = ({ p with at_ := 3, rep := { p.rep with err := 4 } }, m, H) := by simp [HP.stpW, hat, hcl, h6, hm, hc]
        rw [hs] at hk
        have o2 : Only non T h T h2 := Only.of_ext w e2
        have x2 := x.kp o2.k (Off.non _) (not_non _)
        have y2 := y.up o2 (Off.non _) (not_non _)
        have z2 := z.kp o2.k (Off.non _)
        have c1 := e2 _ _ c1
        have cp := x2.hp
        simp -implicitDefEqProofs only [hpC] at cp
        unfold d_heed_Proc_watch_c1_3
        obtain ⟨o3, x3⟩ := x2.st (p' := { p with rep := { p.rep with err := 4 } }) (ev' := ev) o2.wf (c := _) rfl rfl rfl rfl rfl rfl x2.ev
        simp -implicitDefEqProofs only [hpC] at o3 x3
        simp -implicitDefEqProofs [ld_at c1, cel_of c1, stm_at c1, ld_at cp, cel_of cp, stm_at cp, stm_upd, ld_same, cel_same, over]
        exact hk T _ ev cv ((o2.mono non_up).trans (o3.mono fun _ hh => .inl (eq_pre hh))) x3 (y2.up o3 (fun t ht hh => d1 t ht (eq_pre hh)) (by simp)) (z2.kp o3.k (fun t ht hh => d2 t ht (eq_pre hh)))
      · have hs : p.stpW m H n = ({ p with at_ := 3 }, miset m p.x.user (decide (p.x.kind = 6)), H.watch p.who p.s p.x.user (decide (p.x.kind = 6))) := by
          have hc' : ¬ H.c.watches ≤ (m.length : Int) := by omega
          simp -implicitDefEqProofs [HP.stpW, hat, hcl, h6, hm, hc']
        exact ok h2 _ rfl e2 hs
end
end Go.Proofs.YtcnphhhcknhhaaaGreat
namespace Go.Proofs.YtcnphhhcknhhaaaGreat
open Go Go.Den Go.MapKept
set_option linter.unusedSimpArgs false
set_option linter.unusedVariables false
set_option maxRecDepth 20000
section
variable {T : Tags} {h : Heap} {g gh gm : Tag} {q mq al hp k : Nat} {p : HP} {m : Mine} {H : Hall} {K : Value → Heap → Prop}
theorem HPX.same {n : Nat} {p' : HP} {av ev : Value} {fv cv : Nat → Value} {evl : List Evt} (x : HPX T h g q mq al n p av ev fv cv evl) (h0 : hpC p' av ev = hpC p av ev) (h1 : p'.who = p.who) (h2 : p'.x = p.x) (h3 : p'.k = p.k) (h4 : p'.s = p.s) (h5 : p'.all = p.all) : HPX T h g q mq al n p' av ev fv cv evl := by
  have hpo : p'.poll = p.poll := by simp only [HP.poll, HP.one, h2]
  refine ⟨by rw [h0]; exact x.hp, x.tp, ?_, fun j hj => ?_, fun hp => ?_, fun hp i hi => ?_, x.ev⟩
  · have : (seqF n fun j => [.int .i64 (p'.kd j).need, fv j]) = seqF n fun j => [.int .i64 (p.kd j).need, fv j] := seqF_congr fun j _ => by rw [HP.kd_congr h2 h3 h4]
    rw [this]; exact x.ac
  · rw [HP.kd_congr h2 h3 h4]; exact (x.fn j hj).congr h1 h2 h3 h4
  · rw [hpo] at hp; rw [h3]; exact x.al hp
  · rw [hpo] at hp; rw [h5]; exact x.av hp i (by omega)
theorem he_drn {n : Int} {s : Nat} (w : Wf T h) (gg : Gd g) (ggh : Gd gh) (d1 : Off (pre g) gh) (d2 : Off (pre g) gm) (d3 : Off (pre gh) g) (d4 : Off (pre gh) gm) {av ev : Value} {fv cv : Nat → Value} (x : HPX T h g q mq al p.steps p av ev fv cv []) (y : HallR T h gh hp H) (z : MineR T h gm mq m) (hi : HPI p) (he : p.enabled H = true) (hkd : p.kd p.at_ = .drn s) (hs0 : HS k H) (hk0 : k < 100000) (hsn : s < H.n) (hpo : p.poll = true) (hsk : s < p.k) (hse : p.all.length = s)
    (hs : p.stp m H n = ({ p with at_ := p.at_ + 1, all := p.all ++ [(H.ss s).feed.told p.who], rep := { p.rep with lost := p.rep.lost || (H.ss s).feed.lost p.who } }, m, H.drain p.who s)) (hend : p.at_ + 1 < p.steps) (hpl : p.places = false)
    (hk : ActK T h g gh gm q mq al hp p m H n av fv K) : nxM P (do let d ← Deferred.ofValue (fv p.at_) #[ptr hp]; invoke d.target d.args) h K := by
  have hlt := HP.lt_of_en he
  have a := x.fn _ hlt
  rw [hkd] at a
  obtain ⟨b1, b2, b3, b4, pl, hB1, hB2, hB3, hB4⟩ := a
  refine hplain_run pl (by kernel_rfl) ?_
  show callM P fn_heed_Proc_poll_c1 #[ptr hp, ptr b1, ptr b2, ptr b3, ptr b4] h _
  apply e_heed_Proc_poll_c1
  unfold d_heed_Proc_poll_c1
  have hE := evl_nil (m := m) (n := n) hi he (.inr hend)
  unfold ActK at hk
  rw [hE, hs, hpl] at hk
  have c1 := (fz_get hB1).1
  have c2 := (fz_get hB2).1
  simp -implicitDefEqProofs [ld_at c1, cel_of c1, stm_at c1, ld_at c2, cel_of c2, stm_at c2, stm_upd, ld_same, cel_same, over]
  refine hdrain_ok p.who w ggh y hsn hs0 hk0 (fun j hj => by have := ((hs0.st s hsn).fd.qs j hj).2.2; omega) fun T2 h2 v o2 y2 s2 => ?_
  have x2 := x.kp o2.k d3 ggh.nil
  have z2 := z.kp o2.k d4
  have F : ∀ {b o}, fz T h b = some o → h2 b = some o ∧ T2 b = [] := fun {b o} hh => o2.see (fz_get hh) ggh.nil
  have c2 := (F hB2).1
  have c3 := (F hB3).1
  have c4 := (F hB4)
  obtain ⟨ca, ta⟩ := x2.al hpo
  have nqa : q ≠ al := fun e => by subst e; have := x2.hp; rw [ca] at this; injection this with h1; injection h1 with h1 h2; exact absurd h2 (by decide)
  unfold d_heed_Proc_poll_c1_1
  have vo := s2.one
  have hia := ia_sl (ab := al) hsk
  simp -implicitDefEqProofs only [exV_0, exV_1, ov_s]
  simp -implicitDefEqProofs [ld_at c2, cel_of c2, stm_at c2, ld_at c3, cel_of c3, stm_at c3, stm_upd, ld_same, cel_same, over, hia]
  rw [stm_at (n := 1) (v := v) ca (by simp [vo.2]) (by simp; omega) (by simp [vo.1, vo.2])]
  have hov : over ((List.range p.k).map cv).toArray s v.cells.toList = ((List.range p.k).map fun i => if i = s then v else cv i).toArray := by
    rw [vo.2]; simp only [over]; exact rng_set _ _ _ _
  rw [hov]
  have o3 : Only (fun t => t = g ++ [2]) T2 h2 T2 (upd h2 al (.cells ((List.range p.k).map fun i => if i = s then v else cv i).toArray ty_Sl_api_Event (0, 0))) := Only.upd o2.wf ca ta
  have c4' := (o3.see c4 (by simp)).1
  have b3 := o3.k.at x2.hp x2.tp (by simp)
  have cp := b3.1
  simp -implicitDefEqProofs only [hpC] at cp
  have uu : ¬ (fun t => t = g ++ [2]) ([] : Tag) := by simp
  obtain ⟨h3, hh3⟩ : ∃ h3, h3 = upd h2 al (.cells ((List.range p.k).map fun i => if i = s then v else cv i).toArray ty_Sl_api_Event (0, 0)) := ⟨_, rfl⟩
  have ca3 : h3 al = some (.cells ((List.range p.k).map fun i => if i = s then v else cv i).toArray ty_Sl_api_Event (0, 0)) := by rw [hh3, upd_same']
  rw [← hh3] at o3 b3 cp c4' ⊢
  clear hh3
  have x3 : HPX T2 h3 g q mq al p.steps { p with all := p.all ++ [(H.ss s).feed.told p.who] } av ev fv (fun i => if i = s then v else cv i) [] := by
    refine ⟨b3.1, b3.2, x2.ac.kp o3.k (by simp), fun j hj => (x2.fn j hj).ext (o3.ext uu), fun _ => ⟨ca3, ta⟩, fun _ i hik => ?_, x2.ev.ext (@EvR.ext) (o3.ext uu)⟩
    show Sl 8 EvR (fz T2 h3) (if i = s then v else cv i) ((p.all ++ [(H.ss s).feed.told p.who]).getD i [])
    by_cases his : i = s
    · subst his
      rw [if_pos rfl]
      have : (p.all ++ [(H.ss i).feed.told p.who]).getD i [] = (H.ss i).feed.told p.who := by
        rw [List.getD_eq_getElem?_getD, List.getElem?_append_right (by omega)]; simp [hse]
      rw [this]; exact s2.ext (@EvR.ext) (o3.ext uu)
    · rw [if_neg his]
      have : (p.all ++ [(H.ss s).feed.told p.who]).getD i [] = p.all.getD i [] := by
        rw [List.getD_eq_getElem?_getD, List.getD_eq_getElem?_getD]
        by_cases hlt2 : i < p.all.length
        · rw [List.getElem?_append_left hlt2]
        · rw [List.getElem?_append_right (by omega)]
          have : ¬ i - p.all.length = 0 := by omega
          rw [List.getElem?_eq_none (l := p.all) (by omega)]
          rw [List.getElem?_eq_none (by simp; omega)]
      rw [this]; exact (x2.av hpo i hik).ext (@EvR.ext) (o3.ext uu)
  have oo : Only (U3p g gh gm) T h T2 h3 := (o2.mono fun _ hh => .inr (.inl hh)).trans (o3.mono fun _ hh => .inl (eq_pre hh))
  have y3 := y2.up o3 (fun t ht hh => d1 t ht (eq_pre hh)) (by simp)
  have z3 := z2.kp o3.k (fun t ht hh => d2 t ht (eq_pre hh))
  obtain ⟨o4, x4⟩ := x3.st (p' := { p with all := p.all ++ [(H.ss s).feed.told p.who], rep := { p.rep with lost := p.rep.lost || (H.ss s).feed.lost p.who } }) (ev' := ev) o3.wf (c := _) rfl rfl rfl rfl rfl rfl x3.ev
  have K4 := hk T2 _ ev _ (oo.trans (o4.mono fun _ hh => .inl (eq_pre hh))) x4 (y3.up o4 (fun t ht hh => d1 t ht (eq_pre hh)) (by simp)) (z3.kp o4.k (fun t ht hh => d2 t ht (eq_pre hh)))
  simp -implicitDefEqProofs only [hpC] at K4
  cases hlo : p.rep.lost with
  | true =>
    rw [hlo] at cp K4
    simp -implicitDefEqProofs [ld_at c4', cel_of c4', stm_at c4', ld_at cp, cel_of cp, stm_at cp, stm_upd, ld_same, cel_same, over]
    simpa using K4
  | false =>
    rw [hlo] at cp K4
    simp -implicitDefEqProofs [ld_at c4', cel_of c4', stm_at c4', ld_at cp, cel_of cp, stm_at cp, stm_upd, ld_same, cel_same, over]
    simpa using K4
/-- The giving back of a lock, of a Poll. -/
theorem he_pun {n : Int} {s : Nat} (w : Wf T h) (gg : Gd g) (ggh : Gd gh) (d1 : Off (pre g) gh) (d2 : Off (pre g) gm) (d3 : Off (pre gh) g) (d4 : Off (pre gh) gm) {av ev : Value} {fv cv : Nat → Value} (x : HPX T h g q mq al p.steps p av ev fv cv []) (y : HallR T h gh hp H) (z : MineR T h gm mq m) (hi : HPI p) (he : p.enabled H = true) (hkd : p.kd p.at_ = .pun s) (hsn : s < H.n) (h8 : H.n ≤ 8) (hl : H.acts.length < 1000000) (hw : 0 ≤ (H.ss s).who ∧ (H.ss s).who ≤ 1000) (hpo : p.poll = true) (hsk : s < p.k) (hkn : p.k = H.n) (hse : p.all.length = p.k) (hl16 : ∀ l ∈ p.all, l.length ≤ 16)
    (hs : p.stp m H n = ({ p with at_ := p.at_ + 1, rep := { p.rep with evs := mergeE p.all } }, m, H.unlock p.who s)) (hst : p.steps = 3 * p.k + 1) (hat : p.at_ = 2 * p.k + 1 + s) (hpl : p.places = false)
    (hk : ActK T h g gh gm q mq al hp p m H n av fv K) : nxM P (do let d ← Deferred.ofValue (fv p.at_) #[ptr hp]; invoke d.target d.args) h K := by
  have hlt := HP.lt_of_en he
  have a := x.fn _ hlt
  rw [hkd] at a
  obtain ⟨b1, b2, b3, b4, b5, pl, hB1, hB2, hB3, hB4, hB5⟩ := a
  refine hplain_run pl (by kernel_rfl) ?_
  show callM P fn_heed_Proc_poll_c2 #[ptr hp, ptr b1, ptr b2, ptr b3, ptr b4, ptr b5] h _
  apply e_heed_Proc_poll_c2
  unfold d_heed_Proc_poll_c2
  unfold ActK at hk
  rw [hs, hpl] at hk
  have c1 := (fz_get hB1).1
  have c2 := (fz_get hB2).1
  simp -implicitDefEqProofs [ld_at c1, cel_of c1, stm_at c1, ld_at c2, cel_of c2, stm_at c2, stm_upd, ld_same, cel_same, over]
  refine unlock_ok p.who w ggh y hsn h8 hl (by omega) fun T2 h2 o2 y2 => ?_
  have x2 := x.kp o2.k d3 ggh.nil
  have z2 := z.kp o2.k d4
  have F : ∀ {b o}, fz T h b = some o → h2 b = some o ∧ T2 b = [] := fun {b o} hh => o2.see (fz_get hh) ggh.nil
  have c2 := (F hB2).1
  have c3 := (F hB3).1
  have c4 := (F hB4).1
  have c5 := (F hB5).1
  have oo : Only (U3p g gh gm) T h T2 h2 := o2.mono fun _ hh => .inr (.inl hh)
  have hw1 : IntKind.i64.wrap ((p.k : Int) - 1) = (p.k - 1 : Int) := wrap64_id (by omega) (by omega)
  have hdone : ({ p with at_ := p.at_ + 1, rep := { p.rep with evs := mergeE p.all } } : HP).done = decide (s + 1 = p.k) := by
    show decide (p.steps ≤ p.at_ + 1) = _
    rw [hst, hat]
    exact decide_eq_decide.2 (by omega)
  rw [show (({ p with at_ := p.at_ + 1, rep := { p.rep with evs := mergeE p.all } } : HP), m, H.unlock p.who s).1.done = decide (s + 1 = p.k) from hdone] at hk
  unfold d_heed_Proc_poll_c2_1
  simp -implicitDefEqProofs [ld_at c2, cel_of c2, stm_at c2, ld_at c3, cel_of c3, stm_at c3, stm_upd, ld_same, cel_same, over, hw1]
  refine ⟨fun hc => ?_, fun hc => ?_⟩
  · have hlast : s + 1 = p.k := by omega
    rw [decide_eq_true hlast] at hk
    simp -implicitDefEqProofs only [if_true] at hk
    unfold d_heed_Proc_poll_c2_2
    simp -implicitDefEqProofs [ld_at c4, cel_of c4, stm_at c4, ld_at c5, cel_of c5, stm_at c5, stm_upd, ld_same, cel_same, over]
    obtain ⟨ca, ta⟩ := x2.al hpo
    have hrow : Row 1 ty_Sl_api_Event h2 (.slice (some ⟨al, 0, none⟩) p.k p.k) p.all.length (seqF p.all.length fun i => [cv i]) := by
      refine ⟨?_, .inr ⟨al, p.k, ((List.range p.k).map cv).toArray, by rw [hse], ca, by omega, by unfold maxLen; omega, by simp, ?_⟩⟩
      · exact seqF_len (sz := 1) fun i _ => rfl
      · rw [hse]
        have : seqF p.k (fun i => [cv i]) = (List.range p.k).map cv := by
          unfold seqF
          induction (List.range p.k) with
          | nil => rfl
          | cons a l ih => simp only [List.flatMap_cons, List.map_cons, ih]; rfl
        rw [this, Nat.mul_one, List.take_of_length_le (by simp)]
    have hsl : Sl 1 EvsR h2 (.slice (some ⟨al, 0, none⟩) p.k p.k) p.all := by
      refine Row.sl' (fun i _ => rfl) (fun i hi => ⟨cv i, rfl, ?_⟩) hrow
      have := (x2.av hpo i (by omega)).ext (@EvR.ext) (fz_ext T2 h2)
      rw [List.getD_eq_getElem?_getD, List.getElem?_eq_getElem hi] at this
      exact this
    have hn16 : ∀ i, (nth p.all i).length ≤ 16 := fun i => by
      unfold nth
      rw [List.getD_eq_getElem?_getD]
      cases hh : p.all[i]? with
      | none => simp
      | some l => exact hl16 l (List.mem_of_getElem? hh)
    have htot : ∀ l : List (List Evt), (∀ x ∈ l, x.length ≤ 16) → totE l ≤ 16 * l.length := by
      intro l
      induction l with
      | nil => intro _; simp [totE]
      | cons a l ih =>
        intro hh
        have h1 := ih fun x hx => hh x (by simp [hx])
        have h2 := hh a (by simp)
        simp -implicitDefEqProofs [totE] at h1 ⊢; omega
    have ht := htot _ hl16
    refine merge_ok p.all o2.wf hsl (by omega) (by omega) (fun i => by have := hn16 i; omega) fun v' h3 e3 s3 => ?_
    have o3 : Only non T2 h2 T2 h3 := Only.of_ext o2.wf e3
    have x3 := x2.kp o3.k (Off.non _) (not_non _)
    have y3 := y2.up o3 (Off.non _) (not_non _)
    have z3 := z2.kp o3.k (Off.non _)
    have c5 := e3 _ _ c5
    have cp := x3.hp
    simp -implicitDefEqProofs only [hpC] at cp
    have vo := s3.one
    obtain ⟨o4, x4⟩ := x3.st (p' := { p with rep := { p.rep with evs := mergeE p.all } }) (ev' := v') o3.wf (c := _) rfl rfl rfl rfl rfl rfl s3
    have K4 := hk T2 _ v' cv ((oo.up o3 non_up).trans (o4.mono fun _ hh => .inl (eq_pre hh))) x4 (y3.up o4 (fun t ht hh => d1 t ht (eq_pre hh)) (by simp)) (z3.kp o4.k (fun t ht hh => d2 t ht (eq_pre hh)))
    simp -implicitDefEqProofs only [hpC] at K4
    unfold d_heed_Proc_poll_c2_3
    simp -implicitDefEqProofs [ld_at c5, cel_of c5, stm_at c5, stm_upd, ld_same, cel_same, over]
    rw [stm_at (n := 1) (v := v') cp (by simp [vo.2]) (by simp) (by simp [vo.1, vo.2])]
    simpa [over, vo.2] using K4
  · have hlast : ¬ s + 1 = p.k := by omega
    rw [decide_eq_false hlast] at hk
    simp -implicitDefEqProofs only [Bool.false_eq_true, if_false] at hk
    exact hk T2 h2 ev cv oo (x2.same rfl rfl rfl rfl rfl rfl) y2 z2
end
end Go.Proofs.YtcnphhhcknhhaaaGreat
namespace Go.Proofs.YtcnphhhcknhhaaaGreat
open Go Go.Den Go.MapKept
set_option linter.unusedSimpArgs false
set_option linter.unusedVariables false
set_option maxRecDepth 20000
theorem stp_placed {p : HP} {m : Mine} {H : Hall} {n : Int} (he : p.enabled H = true) : (p.stp m H n).1.placed = if p.places then n else p.placed := by
  have hlt := HP.lt_of_en he
  unfold HP.stp HP.places
  cases hb : badB p.x with
  | true => simp [HP.one, hb]
  | false =>
    by_cases h9 : p.x.kind = 9
    · simp -implicitDefEqProofs [HP.one, h9]
    · have hone : p.one = false := by simp [HP.one, hb, h9]
      by_cases h8 : p.x.kind = 8
      · simp -implicitDefEqProofs only [hone, h8]
        unfold HP.stpP
        by_cases h1 : p.at_ < p.k
        · have : ¬ p.at_ = p.k := by omega
          simp -implicitDefEqProofs [h1, this]
        · by_cases h2 : p.at_ = p.k
          · simp -implicitDefEqProofs [h2]
          · by_cases h3 : p.at_ ≤ 2 * p.k <;> simp [h1, h2, h3]
      · simp -implicitDefEqProofs only [hone, h8, h9]
        unfold HP.stpW
        by_cases h0 : p.at_ = 0
        · simp -implicitDefEqProofs [h0]
        · by_cases h1 : p.at_ = 1
          · simp -implicitDefEqProofs [h1]
          · by_cases h2 : p.at_ = 2
            · simp -implicitDefEqProofs [h2]
              split
              · rfl
              · split <;> rfl
            · simp -implicitDefEqProofs [h0, h1, h2]
theorem stp_all16 {p : HP} {m : Mine} {H : Hall} {n : Int} {k : Nat} (hs : HS k H) (hg : HPG H.n p) (he : p.enabled H = true) (h16 : ∀ l ∈ p.all, l.length ≤ 16) : ∀ l ∈ (p.stp m H n).1.all, l.length ≤ 16 := by
  have hlt := HP.lt_of_en he
  unfold HP.stp
  cases hb : badB p.x with
  | true => simpa [hb] using h16
  | false =>
    simp -implicitDefEqProofs only [Bool.false_eq_true, if_false]
    by_cases h9 : p.x.kind = 9
    · simpa [h9] using h16
    · simp -implicitDefEqProofs only [h9, if_false]
      by_cases h8 : p.x.kind = 8
      · simp -implicitDefEqProofs only [h8, if_true]
        unfold HP.stpP
        split
        · exact h16
        split
        · exact h16
        split
        · intro l hl
          have hl : l ∈ p.all ++ [(H.ss (p.at_ - p.k - 1)).feed.told p.who] := hl
          rcases List.mem_append.1 hl with hl | hl
          · exact h16 l hl
          · rw [List.mem_singleton] at hl
            subst hl
            unfold Feed.told
            split
            · rename_i hcl
              have hn : p.at_ - p.k - 1 < H.n := by have := hg.k; omega
              have hj : p.who.toNat < 8 := by simp [clientB] at hcl; omega
              exact ((hs.st _ hn).fd.qs _ hj).2.2
            · simp -implicitDefEqProofs
        · exact h16
      · simp -implicitDefEqProofs only [h8, if_false]
        unfold HP.stpW
        split
        · exact h16
        split
        · exact h16
        split
        · split
          · exact h16
          split <;> exact h16
        · exact h16
section
variable {T : Tags} {h : Heap} {g gh gm : Tag} {q mq al hp k : Nat} {p : HP} {m : Mine} {H : Hall} {K : Value → Heap → Prop}
theorem heact_ok {n : Int} (w : Wf T h) (gg : Gd g) (ggh : Gd gh) (ggm : Gd gm) (d1 : Off (pre g) gh) (d2 : Off (pre g) gm) (d3 : Off (pre gh) g) (d4 : Off (pre gh) gm) (d5 : Off (pre gm) g) (d6 : Off (pre gm) gh) {av ev : Value} {fv cv : Nat → Value} (x : HPX T h g q mq al p.steps p av ev fv cv []) (y : HallR T h gh hp H) (z : MineR T h gm mq m) (hi : HPI p) (h16 : ∀ l ∈ p.all, l.length ≤ 16) (he : p.enabled H = true) (hs : HS k H) (hk0 : k < 100000) (hg : HPG H.n p)
    (hk : ActK T h g gh gm q mq al hp p m H n av fv K) : nxM P (do let d ← Deferred.ofValue (fv p.at_) #[ptr hp]; invoke d.target d.args) h K := by
  have hlt := HP.lt_of_en he
  have n8 := hs.n8.2
  have n1 := hs.n8.1
  have ac : H.acts.length < 1000000 := by have := hs.ac; omega
  cases hb : badB p.x with
  | true => exact he_bad w gg d1 d2 x y z hi he hb hk
  | false =>
  by_cases h9 : p.x.kind = 9
  · exact he_shut w gg ggh d1 d2 d3 d4 x y z hi he hb h9 ac hk
  have hone : p.one = false := by simp [HP.one, hb, h9]
  by_cases h8 : p.x.kind = 8
  · have hst : p.steps = 3 * p.k + 1 := by simp [HP.steps, hone, h8]
    have hpo : p.poll = true := by simp [HP.poll, hone, h8]
    have hkn := hg.k
    have hk1 : 1 ≤ p.k := by omega
    have hS : p.stp m H n = ((p.stpP H n).1, m, (p.stpP H n).2) := by simp [HP.stp, hb, h9, h8]
    by_cases h1 : p.at_ < p.k
    · refine he_lock (s := p.at_) w ggh d3 d4 x y z hi he (by simp [HP.kd, hb, h8, h1]) (by have := hg.k; omega) n8 ac hg.w ?_ (.inr (by omega)) ?_ hk
      · rw [hS]; simp [HP.stpP, h1]
      · have : ¬ p.at_ = p.k := by omega
        simp -implicitDefEqProofs [HP.places, hone, h8, this]
    by_cases h2 : p.at_ = p.k
    · refine he_look w gg ggh d1 d2 d3 d4 x y z hi he (by simp [HP.kd, hb, h8, h2]) ac ?_ (.inr (by omega)) ?_ hk
      · rw [hS]; simp [HP.stpP, h2]
      · simp -implicitDefEqProofs [HP.places, hone, h8, h2]
    have hpl : p.places = false := by simp [HP.places, hone, h8, h2]
    have la := hi.la hpo
    by_cases h3 : p.at_ ≤ 2 * p.k
    · refine he_drn (s := p.at_ - p.k - 1) w gg ggh d1 d2 d3 d4 x y z hi he (by simp [HP.kd, hb, h8, h1, h2, h3]) hs hk0 (by omega) hpo (by omega) (by omega) ?_ (by omega) hpl hk
      rw [hS]; simp [HP.stpP, h1, h2, h3]
    · have hsn : p.at_ - 2 * p.k - 1 < H.n := by omega
      refine he_pun (s := p.at_ - 2 * p.k - 1) w gg ggh d1 d2 d3 d4 x y z hi he (by simp [HP.kd, hb, h8, h1, h2, h3]) hsn n8 ac (hs.st _ hsn).wh hpo (by omega) hkn (by omega) h16 ?_ hst (by omega) hpl hk
      rw [hS]; simp [HP.stpP, h1, h2, h3]
  · have hst : p.steps = 4 := by simp [HP.steps, hone, h8]
    have hpo : p.poll = false := by simp [HP.poll, h8]
    have hS : p.stp m H n = p.stpW m H n := by simp [HP.stp, hb, h9, h8]
    by_cases h0 : p.at_ = 0
    · refine he_lock (s := p.s) w ggh d3 d4 x y z hi he (by simp [HP.kd, hb, h8, h9, h0]) hg.s n8 ac hg.w ?_ (.inl hpo) ?_ hk
      · rw [hS]; simp [HP.stpW, h0]
      · simp -implicitDefEqProofs [HP.places, hone, h8, h0]
    by_cases h1 : p.at_ = 1
    · refine he_look w gg ggh d1 d2 d3 d4 x y z hi he (by simp [HP.kd, hb, h8, h9, h1]) ac ?_ (.inl hpo) ?_ hk
      · rw [hS]; simp [HP.stpW, h1]
      · simp -implicitDefEqProofs [HP.places, hone, h8, h1]
    by_cases h2 : p.at_ = 2
    · exact he_wat w gg ggh ggm d1 d2 d3 d4 d5 d6 x y z hi he (by simp [HP.kd, hb, h8, h9, h2]) hs hk0 hg.s hg.o.s1 hb h9 h8 h2 hk
    · refine he_unl (s := p.s) w ggh d3 d4 x y z hi he (by simp [HP.kd, hb, h8, h9, h0, h1, h2]) hg.s n8 ac (hs.st _ hg.s).wh ?_ (.inl hpo) ?_ hk
      · rw [hS]; simp [HP.stpW, h0, h1, h2]
      · simp -implicitDefEqProofs [HP.places, hone, h8, h1]
theorem hestep_ok (n : Int) (w : Wf T h) (gg : Gd g) (ggh : Gd gh) (ggm : Gd gm) (d1 : Off (pre g) gh) (d2 : Off (pre g) gm) (d3 : Off (pre gh) g) (d4 : Off (pre gh) gm) (d5 : Off (pre gm) g) (d6 : Off (pre gm) gh) (x : HPR T h g q mq p) (y : HallR T h gh hp H) (z : MineR T h gm mq m) (hs : HS k H) (hk0 : k < 100000) (hg : HPG H.n p)
    (hk : ∀ T' h', Only (U3p g gh gm) T h T' h' → HPR T' h' g q mq (p.step m H n).1 → HallR T' h' gh hp (p.step m H n).2.2 → MineR T' h' gm mq (p.step m H n).2.1 → K (.tuple #[]) h') : callM P fn_heed_Proc_Step #[ptr q, ptr hp, .int .i64 n] h K := by
  apply e_heed_Proc_Step
  unfold d_heed_Proc_Step
  refine heenabled_ok x y hg fun h1 e1 => ?_
  have o1 : Only non T h T h1 := Only.of_ext w e1
  have x1 := x.kp o1.k (Off.non _) (not_non _)
  have y1 := y.up o1 (Off.non _) (not_non _)
  have z1 := z.kp o1.k (Off.non _)
  unfold d_heed_Proc_Step_1
  cases he : p.enabled H with
  | false =>
    simp -implicitDefEqProofs
    have e : p.step m H n = (p, m, H) := by simp [HP.step, he]
    rw [e] at hk
    exact hk T h1 (o1.mono non_up) x1 y1 z1
  | true =>
    have hst : p.step m H n = p.stp m H n := by simp [HP.step, he]
    have hI := x.1.step m H n
    have hat := hstep_at p m H n
    have hkk := hstep_k p m H n
    rw [if_pos he] at hat
    rw [hst] at hk hI hat hkk
    have hpl := stp_placed (m := m) (n := n) he
    have h16' := stp_all16 (m := m) (n := n) hs hg he x.2.1
    have hlt := HP.lt_of_en he
    have hnd : p.done = false := by simp [HP.done]; omega
    obtain ⟨hi, h16, al, av, ev, fv, cv, x1⟩ := x1
    rw [hnd] at x1
    simp -implicitDefEqProofs only [Bool.false_eq_true, if_false] at x1
    have cp := x1.hp
    simp -implicitDefEqProofs only [hpC] at cp
    obtain ⟨b, rb, ia⟩ := x1.ac.1.ia (k := .i64) hlt
    have hcl : cel h1 b (p.at_ * 2 + 1) = some (fv p.at_) := by
      have h1 := x1.ac.1.cels rb (o := p.at_ * 2) (m := 2) (by omega)
      rw [seqF_at (sz := 2) (fun i _ => rfl) hlt] at h1
      exact (cels_get h1).2 1 (by simp)
    simp -implicitDefEqProofs
    unfold d_heed_Proc_Step_2
    rw [seqM_eq]
    unfold d_heed_Proc_Step_3
    simp -implicitDefEqProofs [ld_at cp, cel_of cp, stm_at cp, stm_upd, ld_same, cel_same, over, ia, hcl]
    refine heact_ok (n := n) o1.wf gg ggh ggm d1 d2 d3 d4 d5 d6 x1 y1 z1 hi h16 he hs hk0 hg ?_
    intro T2 h2 ev2 cv2 o2 x2 y2 z2
    have cp := x2.hp
    simp -implicitDefEqProofs only [hpC] at cp
    have hw : IntKind.i64.wrap ((p.at_ : Int) + 1) = (p.at_ + 1 : Nat) := by
      have : p.steps ≤ 3 * 8 + 4 := by
        have h1 := hg.k
        have h2 := hs.n8.2
        unfold HP.steps; split
        · omega
        · split <;> omega
      rw [wrap64_id (by omega) (by omega)]; omega
    -- the counting
    have fin : ∀ (p1 : HP) (h3 : Heap) (s : Env), Only (fun t => t = g ++ [0]) T2 h2 T2 h3 → p1 = { (p.stp m H n).1 with at_ := p.at_ } → HPX T2 h3 g q mq al p.steps p1 av ev2 fv cv2 (if (p.stp m H n).1.done then (p.stp m H n).1.rep.evs else []) → s 0 = ptr q → d_heed_Proc_Step_8 s h3 K [] := by
      intro p1 h3 s o3 hp1 x3 s0
      have y3 := y2.up o3 (fun t ht hh => d1 t ht (eq_pre hh)) (by simp)
      have z3 := z2.kp o3.k (fun t ht hh => d2 t ht (eq_pre hh))
      have p1a : p1.at_ = p.at_ := by rw [hp1]
      have cp := x3.hp
      simp -implicitDefEqProofs only [hpC, p1a] at cp
      unfold d_heed_Proc_Step_8
      obtain ⟨o4, x4⟩ := x3.st (p' := (p.stp m H n).1) (ev' := ev2) o3.wf (c := _) rfl (by rw [hp1]) (by rw [hp1]) (by rw [hp1]) (by rw [hp1]) (by rw [hp1]) x3.ev
      have hst4 : (p.stp m H n).1.steps = p.steps := by unfold HP.steps HP.one; rw [hkk.2.1, hkk.2.2.1]
      have R4 : HPR T2 _ g q mq (p.stp m H n).1 := ⟨hI, h16', al, av, ev2, fv, cv2, by rw [hst4]; exact x4⟩
      have K4 := hk T2 _ (((o1.mono non_up).trans o2).trans ((o3.trans o4).mono fun _ hh => .inl (eq_pre hh))) R4 (y3.up o4 (fun t ht hh => d1 t ht (eq_pre hh)) (by simp)) (z3.kp o4.k (fun t ht hh => d2 t ht (eq_pre hh)))
      simp -implicitDefEqProofs only [hpC, hat] at K4
      simp -implicitDefEqProofs [s0, ld_at cp, cel_of cp, stm_at cp, stm_upd, ld_same, cel_same, over, hw, -Int.natCast_add]
      rw [hp1]
      exact K4
    unfold d_heed_Proc_Step_4
    cases hpc : p.places with
    | true =>
      rw [hpc] at hpl
      simp -implicitDefEqProofs only [if_true] at hpl
      simp -implicitDefEqProofs
      unfold d_heed_Proc_Step_5
      simp -implicitDefEqProofs
      apply e_heed_moment_took
      unfold d_heed_moment_took
      obtain ⟨o3, x3⟩ := x2.st (p' := { (p.stp m H n).1 with at_ := p.at_ }) (ev' := ev2) o2.wf (c := _) rfl rfl rfl rfl rfl rfl x2.ev
      simp -implicitDefEqProofs only [hpC, hpl] at o3 x3
      simp -implicitDefEqProofs [ld_at cp, cel_of cp, stm_at cp, stm_upd, ld_same, cel_same, over]
      unfold d_heed_Proc_Step_6
      simp -implicitDefEqProofs
      refine fin { (p.stp m H n).1 with at_ := p.at_, placed := n } _ _ o3 ?_ x3 (by simp)
      exact congrArg (fun z => ({ (p.stp m H n).1 with at_ := p.at_, placed := z } : HP)) hpl.symm
    | false =>
      rw [hpc] at hpl
      simp -implicitDefEqProofs only [Bool.false_eq_true, if_false] at hpl
      simp -implicitDefEqProofs
      unfold d_heed_Proc_Step_7
      simp -implicitDefEqProofs
      refine fin _ h2 _ (Only.refl o2.wf) ?_ x2 (by simp)
      have : (p.stp m H n).1 = { (p.stp m H n).1 with placed := p.placed } := by rw [← hpl]
      rw [this]
end
end Go.Proofs.YtcnphhhcknhhaaaGreat
namespace Go.Proofs.YtcnphhhcknhhaaaGreat
open Go Go.Den Go.MapKept
set_option linter.unusedSimpArgs false
set_option linter.unusedVariables false
set_option maxRecDepth 20000
theorem mallX_at {b : List (ByteArray × Int)} {Lv : List (List Value)} {F : Heap} (l2 : El 1 MaskR F Lv (b.map (·.2))) {i : Nat} (hi : i < (mallX b Lv).length) : ∃ (hb : i < b.length), (mallX b Lv)[i] = #[.string b[i].1, .int .u32 b[i].2] := by
  have hb : i < b.length := by simpa [mallX] using hi
  have hL : i < Lv.length := by rw [l2.len]; simpa using hb
  have he : Lv[i] = [.int .u32 b[i].2] := by have := l2.el i hL (by simpa using hb); simpa [MaskR] using this
  refine ⟨hb, ?_⟩
  simp -implicitDefEqProofs only [mallX, List.getElem_map, List.getElem_range]
  have e1 : b.getD i (⟨#[]⟩, 0) = b[i] := by rw [List.getD_eq_getElem?_getD, List.getElem?_eq_getElem hb]; rfl
  have e2 : Lv.getD i [] = Lv[i] := by rw [List.getD_eq_getElem?_getD, List.getElem?_eq_getElem hL]; rfl
  rw [e1, e2, he]; rfl
def cntTo (ws : List (ByteArray × Int)) (who : Int) (i : Nat) : Nat := ((ws.take i).filter fun x => clientB who && mbit x.2 who).length
theorem cntTo_s {ws : List (ByteArray × Int)} {who : Int} {i : Nat} (hi : i < ws.length) : cntTo ws who (i + 1) = cntTo ws who i + if (clientB who && mbit ws[i].2 who) = true then 1 else 0 := by
  unfold cntTo
  rw [List.take_succ_eq_append_getElem hi, List.filter_append, List.length_append]
  by_cases h : (clientB who && mbit ws[i].2 who) = true <;> simp [List.filter_cons, h]
theorem cntTo_le (ws : List (ByteArray × Int)) (who : Int) (i : Nat) : cntTo ws who i ≤ ws.length := Nat.le_trans (List.length_filter_le _ _) (by simp; omega)
def CnJ (hB : Heap) (v3 : Nat) (ws : List (ByteArray × Int)) (who : Int) (i : Nat) (h' : Heap) : Prop := Ext (wo hB [v3]) h' ∧ h' v3 = some (.cells #[.int .i64 (cntTo ws who i)] ty_int (0, 0))
def CnC (hB : Heap) (v1 v3 : Nat) (ws : List (ByteArray × Int)) (who : Int) (i : Nat) (s2 : Env) (h' : Heap) : Prop := CnJ hB v3 ws who i h' ∧ s2 3 = ptr v1 ∧ s2 5 = ptr v3 ∧ ∃ (hi : i < ws.length), s2 7 = .int .u32 ws[i].2
theorem fcount_ok (who : Int) {T : Tags} {h : Heap} {g : Tag} {p : Nat} {f : Feed} (x : FeedR T h g p f) (fg : FdG f) {K : Value → Heap → Prop} (hk : ∀ h', Ext h h' → K (.int .i64 (f.count who)) h') : callM P fn_feed_Feed_Count #[ptr p, .int .i64 who] h K := by
  apply e_feed_Feed_Count
  unfold d_feed_Feed_Count
  refine nw_intro fun v1 h1 n1 e1 c1 => ?_
  rw [zcInt]
  refine nw_st rfl rfl (by simp) fun v3 h3 n3 e3 c3 => ?_
  have c1 := e3 _ _ c1
  have e0 := e1.trans e3
  have n3' : h v3 = none := fresh_of e1 n3
  have ne13 : v1 ≠ v3 := ne_fresh ‹h1 v1 = _› n3
  obtain ⟨kw, vw, q, cp, tp, x1, x2, xq, s1, s2⟩ := x
  have cp := e0 _ _ cp
  have hag : ldV (some (some 2)) (ptr p) h3 = some (.agg #[kw, vw]) := by simp [ld_at cp, feedC, feedG, List.range_succ]
  rw [seqM_eq]
  unfold d_feed_Feed_Count_1
  simp -implicitDefEqProofs [hag]
  have xW : WsR (fz T h) kw vw f.ws := ⟨x1, x2, s1, s2⟩
  have eF := (fz_ext T h).trans e0
  refine mall_ok f.ws eF xW fun pA hB nA eA cA => ?_
  have nA3 : v3 ≠ pA := ne_fresh c3 nA
  have c3 := eA _ _ c3
  have c1 := eA _ _ c1
  have e0B := e0.trans eA
  obtain ⟨Lv, l1, l2⟩ := x2.els MaskR.one
  simp -implicitDefEqProofs only [List.length_map] at l1
  have hF3 : (fz T h) v3 = none := by
    cases hh : (fz T h) v3 with
    | none => rfl
    | some o => rw [fz_ext T h _ _ hh] at n3'; cases n3'
  have F1 : Ext (fz T h) (wo hB [v3]) := wo_ext ((fz_ext T h).trans e0B) (by simpa using hF3)
  have hlen := fg.len
  unfold d_feed_Feed_Count_2
  refine rf_go good mixed rfl (by kernel_rfl) (mall_it f.ws (hA := wo hB [v3]) (p := pA) (kw := kw) (vw := vw) (Lv := Lv) (by rw [wo_out (by simpa using Ne.symm nA3)]; exact cA) (xW.ext F1) (l1.ext F1) l2.size (by simpa using l2.len))
    (fun l b' i h' => CnJ hB v3 f.ws who i h') (fun _ _ _ _ => False) (fun l b' i s2 h' => CnC hB v1 v3 f.ws who i s2 h') ?_ ?_ ?_ (fun _ _ _ _ _ _ _ h _ => h) ?_ ?_ ?_ ?_ ?_ (fun _ _ _ _ _ _ _ h => h.elim) (fun _ _ _ _ _ _ _ _ h => h.elim)
  · intro l b' hl' hb'
    exact ⟨fun q o hq => (wo_get hq).2, by simpa [cntTo] using c3⟩
  · intro l b' i h' J; exact J.1
  · intro l b' hl' hb' i h' h'' J k
    exact ⟨wo_keep J.1 hl' k, k _ _ J.2 (fun hh => by cases hh; rw [hl'] at c3; cases c3)⟩
  · rintro l b' i s2 ha hb hl' hb' ⟨J, s3, s5, hi, s7⟩ k
    exact ⟨⟨wo_keep J.1 hl' k, k _ _ J.2 (fun hh => by cases hh; rw [hl'] at c3; cases c3)⟩, s3, s5, hi, s7⟩
  · intro i hi; simp [mallX]
  · rintro i hi l b' h2 hl' hb' ⟨ol, hol⟩ ⟨ob, hob⟩ J
    rw [ea_feed_Feed_Count_0]
    unfold da_feed_Feed_Count_0
    obtain ⟨hib, hx⟩ := mallX_at l2 hi
    rw [hx]
    simp -implicitDefEqProofs
    exact ⟨J, by simp, by simp, hib, by simp⟩
  · rintro i hi l b' s2 h3 hl' hb' ⟨ol, hol⟩ ⟨ob, hob⟩ ⟨J, s3, s5, hib, s7⟩
    rw [eb_feed_Feed_Count_0]
    unfold db_feed_Feed_Count_0
    have cv := J.2
    have cw : h3 v1 = some (.cells #[.int .i64 who] ty_int (0, 0)) := J.1 _ _ (by rw [wo_out (by simpa using ne13)]; exact c1)
    obtain ⟨m0, m1⟩ := fg.ms _ (List.getElem_mem hib)
    have hle := cntTo_le f.ws who i
    have hw : IntKind.i64.wrap ((cntTo f.ws who i : Int) + 1) = (cntTo f.ws who i + 1 : Nat) := by rw [wrap64_id (by omega) (by omega)]; omega
    have hl3 : l ≠ v3 := fun hh => by subst hh; rw [hl'] at c3; cases c3
    have hb3 : b' ≠ v3 := fun hh => by subst hh; rw [hb'] at c3; cases c3
    have hs := cntTo_s (who := who) hib
    simp -implicitDefEqProofs [s3, ld_at cw, cel_of cw, stm_at cw, stm_upd, ld_same, cel_same, over]
    refine client_ok who ?_
    cases hc : clientB who with
    | false =>
      rw [hc] at hs
      simp -implicitDefEqProofs only [Bool.false_and, Bool.false_eq_true, if_false, Nat.add_zero] at hs
      simp -implicitDefEqProofs
      exact ⟨J.1, by rw [hs]; exact cv⟩
    | true =>
      rw [hc] at hs
      have hc' : 0 ≤ who ∧ who < 8 := by simpa [clientB] using hc
      have m2 : 0 ≤ f.ws[i].2 / 2 ^ who.toNat := Int.ediv_nonneg m0 (Int.pow_nonneg (by omega))
      have m3 : f.ws[i].2 / 2 ^ who.toNat < 4294967296 := Int.lt_of_le_of_lt (Int.ediv_le_self _ m0) m1
      by_cases hm : f.ws[i].2 / 2 ^ who.toNat % 2 = 1
      · have hmb : mbit f.ws[i].2 who = true := by simp [mbit, hm]
        rw [hmb] at hs
        simp -implicitDefEqProofs only [Bool.and_self, if_true] at hs
        simp -implicitDefEqProofs [s3, s5, s7, ld_at cw, cel_of cw, stm_at cw, ld_at cv, cel_of cv, stm_at cv, stm_upd, ld_same, cel_same, over, bin_shr32 _ _ hc'.1 hc'.2 m0, bin_and32 _ _ m2 m3, hm, hw, -Int.natCast_add]
        exact ⟨by rw [upd_ne hl3, hol], by rw [upd_ne hb3, hob], wo_upd J.1 (by simp), by rw [upd_same', hs]⟩
      · have hmb : mbit f.ws[i].2 who = false := by simp [mbit, hm]
        rw [hmb] at hs
        simp -implicitDefEqProofs only [Bool.and_false, Bool.false_eq_true, if_false, Nat.add_zero] at hs
        simp -implicitDefEqProofs [s3, s5, s7, ld_at cw, cel_of cw, stm_at cw, ld_at cv, cel_of cv, stm_at cv, stm_upd, ld_same, cel_same, over, bin_shr32 _ _ hc'.1 hc'.2 m0, bin_and32 _ _ m2 m3, hm]
        exact ⟨J.1, by rw [hs]; exact cv⟩
  · intro l b' h' hl' hlb hb' hd J
    have hlx : (mallX f.ws Lv).length = f.ws.length := by simp [mallX]
    rw [hlx] at J
    have cv := J.2
    have nb3 : v3 ≠ b' := fun hh => by subst hh; rw [hb'] at c3; cases c3
    simp -implicitDefEqProofs only [blkM_n, thenM_n]
    simp -implicitDefEqProofs [ld_at cv, cel_of cv, stm_at cv, stm_upd, ld_same, cel_same, over, hd, ld_skip nb3, cel_skip nb3]
    have hct : cntTo f.ws who f.ws.length = f.count who := by simp [cntTo, Feed.count]
    rw [hct]
    refine hk _ ?_
    exact ext_upd (o := .deferred none) (fresh_of e0B hb') (ext_wo e0B (by simpa using n3') J.1)
theorem hcount_ok (who : Int) {s : Nat} (u : ByteArray) {T : Tags} {h : Heap} {g : Tag} {p m : Nat} {H : Hall} (w : Wf T h) (gg : Gd g) (x : HallR T h g p H) (hs : s < H.n) (hh : HS m H) (hm : m < 100000) {K : Value → Heap → Prop}
    (hk : ∀ T' h', Only (pre g) T h T' h' → HallR T' h' g p (H.read who s) → K (.tuple #[.int .i64 ((H.ss s).feed.count who), .bool ((H.ss s).feed.watching who u)]) h') : callM P fn_hall_Hall_Count #[ptr p, .int .i64 who, .int .i64 s, .string u] h K := by
  apply e_hall_Hall_Count
  unfold d_hall_Hall_Count
  obtain ⟨sv, av, Y, x⟩ := x
  refine place_ok s 4 (by have := hh.n8; omega) ?_
  unfold d_hall_Hall_Count_1
  refine did_ok who 1 _ w gg x (by have := hh.ac; omega) fun T2 h2 av2 o2 x2 => ?_
  have cp := x2.hp
  simp -implicitDefEqProofs only [hallC] at cp
  obtain ⟨b, ob, rb, hb, tb, ia, l1, l2, l3, l4, l5, l6⟩ := x2.lds (s := s) (k := .i64) hs
  have hf := (x2.sr s hs).2.2
  have fg := (hh.st s hs).fd.g hm
  unfold d_hall_Hall_Count_2
  simp -implicitDefEqProofs [ld_at cp, cel_of cp, stm_at cp, stm_upd, ld_same, cel_same, over, ia, l5]
  refine fcount_ok who hf fg fun h3 e3 => ?_
  have o3 : Only non T2 h2 T2 h3 := Only.of_ext o2.wf e3
  have x3 := x2.own o3.k
  have cp := x3.hp
  simp -implicitDefEqProofs only [hallC] at cp
  obtain ⟨b', ob', rb', hb', tb', ia', l1', l2', l3', l4', l5', l6'⟩ := x3.lds (s := s) (k := .i64) hs
  have hbb : b' = b := by rw [rb] at rb'; cases rb'; rfl
  subst hbb
  have hf3 := (x3.sr s hs).2.2
  unfold d_hall_Hall_Count_3
  simp -implicitDefEqProofs [ld_at cp, cel_of cp, stm_at cp, stm_upd, ld_same, cel_same, over, l5']
  refine watching_ok who u hf3 fg fun h4 e4 => ?_
  have o4 : Only non T2 h3 T2 h4 := Only.of_ext o3.wf e4
  exact hk T2 h4 (((o2.mono fun _ => U02.pre).up o3 non_up).up o4 non_up) ⟨sv, av2, Y, x3.own o4.k⟩
end Go.Proofs.YtcnphhhcknhhaaaGreat
namespace Go.Proofs.YtcnphhhcknhhaaaGreat
open Go Go.Den Go.MapKept
set_option linter.unusedSimpArgs false
set_option linter.unusedVariables false
set_option maxRecDepth 20000
def UH (t : Tag) : Prop := pre [1] t ∨ pre [2] t ∨ pre [5] t
theorem UH.nil : ¬ UH [] := by rintro (h | h | h) <;> simp [pre] at h
theorem UH.i1 {t : Tag} (h : pre [1] t) : UH t := .inl h
theorem UH.i2 {i : Nat} {t : Tag} (h : pre [2, i] t) : UH t := .inr (.inl (pre_trans (g := [2]) (s := [i]) h))
theorem UH.i5 {i : Nat} {t : Tag} (h : pre [5, i] t) : UH t := .inr (.inr (pre_trans (g := [5]) (s := [i]) h))
theorem g5i (i : Nat) : Gd [5, i] := ⟨4, [i], rfl⟩
theorem d25 (i j : Nat) : Off (pre [2, i]) [5, j] := off_pre (g := []) (x := [2, i]) (y := [5, j]) (by simp) (by simp)
theorem d52 (i j : Nat) : Off (pre [5, i]) [2, j] := off_pre (g := []) (x := [5, i]) (y := [2, j]) (by simp) (by simp)
theorem d15 (j : Nat) : Off (pre [1]) [5, j] := off_pre (g := []) (x := [1]) (y := [5, j]) (by simp) (by simp)
theorem d51 (i : Nat) : Off (pre [5, i]) [1] := off_pre (g := []) (x := [5, i]) (y := [1]) (by simp) (by simp)
theorem d55 {i j : Nat} (h : i ≠ j) : Off (pre [5, i]) [5, j] := off_pre (g := [5]) (x := [i]) (y := [j]) (by simpa using h) (by simpa using Ne.symm h)
def PRh (T : Tags) (h : Heap) (g : Tag) (q mq : Nat) : PR → Prop
  | .w p => WPR T h g q p
  | .r p => RPR T h g q p
  | .h p => HPR T h g q mq p
theorem PRh.kp {U : Tag → Prop} {T T' : Tags} {h h' : Heap} {g : Tag} {q mq : Nat} {p : PR} (x : PRh T h g q mq p) (k : Kp U T h T' h') (o : Off U g) (n : ¬ U []) : PRh T' h' g q mq p := by
  cases p with
  | w p => exact WPR.kp x k o n
  | r p => exact RPR.kp x k o n
  | h p => exact HPR.kp x k o n
structure HdM (T : Tags) (h : Heap) (hp : Nat) (A B : Nat → Nat) (nm : Nat) (W : Wd) : Prop where
  hl : HallR T h [1] hp W.H
  ps : ∀ i p, W.ps i = some p → PRh T h [2, i] (A i) (B i) p
  ms : ∀ i, i < nm → MineR T h [5, i] (B i) (W.ms i)
theorem HdM.up {U : Tag → Prop} {T T' : Tags} {h h' : Heap} {hp nm : Nat} {A B : Nat → Nat} {W : Wd} (x : HdM T h hp A B nm W) (o : Only U T h T' h') (f : ∀ t, UH t → ¬ U t) (n : ¬ U []) : HdM T' h' hp A B nm W :=
  ⟨x.hl.up o (fun t ht => f t (.inl ht)) n, fun i p hp => (x.ps i p hp).kp o.k (fun t ht => f t (.inr (.inl (pre_trans (g := [2]) (s := [i]) ht)))) n, fun i hi => (x.ms i hi).kp o.k fun t ht => f t (.inr (.inr (pre_trans (g := [5]) (s := [i]) ht)))⟩
theorem HdM.ext {T : Tags} {h h' : Heap} {hp nm : Nat} {A B : Nat → Nat} {W : Wd} (x : HdM T h hp A B nm W) (w : Wf T h) (e : Ext h h') : HdM T h' hp A B nm W := x.up (Only.of_ext (U := non) w e) (fun _ _ h => h) (not_non _)
theorem HdM.put {U : Tag → Prop} {T T' : Tags} {h h' : Heap} {hp i nm : Nat} {A B : Nat → Nat} {W : Wd} {p : PR} (x : HdM T h hp A B nm W) (o : Only U T h T' h') (u : ∀ j, j ≠ i → Off U [2, j]) (v : ∀ j, j ≠ i → Off U [5, j]) (n : ¬ U []) {k : Int} (hp' : W.ps i = some p)
    (y' : HallR T' h' [1] hp (p.step (W.ms i) W.H k).2.2) (x' : PRh T' h' [2, i] (A i) (B i) (p.step (W.ms i) W.H k).1) (z' : i < nm → MineR T' h' [5, i] (B i) (p.step (W.ms i) W.H k).2.1) : HdM T' h' hp A B nm (W.step i k) := by
  have e : W.step i k = ⟨(p.step (W.ms i) W.H k).2.2, bset W.ps i (some (p.step (W.ms i) W.H k).1), bset W.ms i (p.step (W.ms i) W.H k).2.1⟩ := by simp only [Wd.step, hp']
  rw [e]
  refine ⟨y', fun j q hq => ?_, fun j hj => ?_⟩
  · have hq : bset W.ps i (some (p.step (W.ms i) W.H k).1) j = some q := hq
    by_cases hji : j = i
    · subst hji
      rw [bset_same] at hq
      simp -implicitDefEqProofs only [Option.some.injEq] at hq; subst hq
      exact x'
    · rw [bset_ne hji] at hq
      exact (x.ps j q hq).kp o.k (u j hji) n
  · show MineR T' h' [5, j] (B j) (bset W.ms i (p.step (W.ms i) W.H k).2.1 j)
    by_cases hji : j = i
    · subst hji; rw [bset_same]; exact z' hj
    · rw [bset_ne hji]; exact (x.ms j hj).kp o.k (v j hji)
section
variable {T : Tags} {h : Heap} {hp k i nm : Nat} {A B : Nat → Nat} {W : Wd} {M : Tbl} {K : Value → Heap → Prop}
theorem hdstep_h {p : HP} (n : Int) (w : Wf T h) (x : HdM T h hp A B nm W) (y : WdK k W M) (hk : k < 100000) (hi : i < nm) (hp' : W.ps i = some (.h p)) (hK : ∀ T' h', Only UH T h T' h' → HdM T' h' hp A B nm (W.step i n) → K (.tuple #[]) h') : callM P fn_heed_Proc_Step #[ptr (A i), ptr hp, .int .i64 n] h K := by
  have hpa := y.li.pa i _ hp'
  refine hestep_ok n w (g2i i) g1 (g5i i) (d2i1 i) (d25 i i) (d12i i) (d15 i) (d52 i i) (d51 i) (x.ps i _ hp') x.hl (x.ms i hi) y.hs hk hpa.1 fun T' h' o x' y' z' => ?_
  have nn : ¬ U3p [2, i] [1] [5, i] [] := by rintro (h | h | h) <;> simp [pre] at h
  refine hK T' h' (o.mono fun t ht => ht.elim UH.i2 fun ht => ht.elim UH.i1 UH.i5) (x.put o (fun j hj t ht hh => hh.elim (d2ij (Ne.symm hj) t ht) fun hh => hh.elim (d12i j t ht) (d52 i j t ht)) (fun j hj t ht hh => hh.elim (d25 i j t ht) fun hh => hh.elim (d15 j t ht) (d55 (Ne.symm hj) t ht)) nn hp' y' x' fun _ => z')
/-- A process begins. -/
theorem HdM.new {U : Tag → Prop} {T' : Tags} {h' : Heap} {q : Nat} {p : PR} (x : HdM T h hp A B nm W) (o : Only U T h T' h') (f1 : Off U [1]) (u : ∀ j, j ≠ i → Off U [2, j]) (v : ∀ j, Off U [5, j]) (n : ¬ U []) (x' : PRh T' h' [2, i] q (B i) p) : HdM T' h' hp (bset A i q) B nm { W with ps := bset W.ps i (some p) } := by
  refine ⟨x.hl.up o f1 n, fun j r hr => ?_, fun j hj => (x.ms j hj).kp o.k (v j)⟩
  have hr : bset W.ps i (some p) j = some r := hr
  by_cases hji : j = i
  · subst hji
    rw [bset_same] at hr ⊢
    simp -implicitDefEqProofs only [Option.some.injEq] at hr; subst hr
    exact x'
  · rw [bset_ne hji] at hr ⊢
    exact (x.ps j r hr).kp o.k (u j hji) n
theorem hp0_pa {i : Nat} {H : Hall} {o : OpD} {k : Nat} (hs : HS k H) (hi : i < 8) (ow : OpW o) (h6 : badB o = false → 6 ≤ o.kind) : PA H.n i H.c (.h (hp0 H i o)) := by
  have n8 := hs.n8
  have nn := hs.nn
  have hst := stripeOf_lt (u := o.user) (n := H.c.stripes) (by omega)
  refine ⟨⟨rfl, by show (stripeOf o.user H.c.stripes).toNat < H.n; omega, by show -1 ≤ (i : Int) ∧ (i : Int) ≤ 900; omega, ow, Nat.zero_le _⟩, rfl, hi, h6, rfl⟩
theorem hdnew_h (hi : i < 8) (o : OpD) (ow : OpW o) (hl : o.users.length < 1000000) (h6 : badB o = false → 6 ≤ o.kind) {v : Value} (hv : Sl 1 StrR (fz T h) v o.users) (w : Wf T h) (x : HdM T h hp A B nm W) (y : WdK k W M) (hi' : ∀ q, W.ps i = some q → Idle q (W.ms i) W.H.c)
    (hK : ∀ T' h' q, Only UH T h T' h' → HdM T' h' hp (bset A i q) B nm { W with ps := bset W.ps i (some (.h (hp0 W.H i o))) } → WdK k { W with ps := bset W.ps i (some (.h (hp0 W.H i o))) } M → K (ptr q) h') : callM P fn_heed_New #[ptr hp, ptr (B i), .int .i64 i, .agg (opC o v).toArray] h K := by
  have n8 := y.hs.n8
  have nn := y.hs.nn
  refine henew_ok i o ow w (g2i i) (d2i1 i) x.hl hv hl (by omega) nn fun T' h' q o' x' => ?_
  exact hK T' h' q (o'.mono fun _ => UH.i2) (x.new o' (d2i1 i) (fun j hj => d2ij (Ne.symm hj)) (fun j => d25 i j) (by simp [pre]) x') ⟨y.li.start (hp0_pa y.hs hi ow h6) (Idle.hh _ _ rfl) hi', y.hs, y.ts⟩
end
end Go.Proofs.YtcnphhhcknhhaaaGreat
namespace Go.Den
open Go
set_option linter.unusedVariables false
set_option linter.unusedSimpArgs false
/-- At which of its steps it takes place. -/
def HP.pl (p : HP) : Nat := if p.one then 0 else if p.x.kind = 8 then p.k else 1
theorem places_pl (p : HP) (hlt : p.at_ < p.steps) : p.places = decide (p.at_ = p.pl) := by
  unfold HP.places HP.pl
  unfold HP.steps at hlt
  cases h : p.one with
  | true => rw [h] at hlt; simp at hlt; simp [hlt]
  | false =>
    by_cases h8 : p.x.kind = 8 <;> simp [h8]
theorem pl_lt (p : HP) (hk : 1 ≤ p.k) : p.pl < p.steps := by
  unfold HP.pl HP.steps
  cases h : p.one with
  | true => simp
  | false => by_cases h8 : p.x.kind = 8 <;> simp [h8] <;> omega
/-- A heeding of the i-th client, so many steps on, that nobody disturbs. -/
structure AH (i k : Nat) (W : Wd) (M M0 : Tbl) (x : OpD) (p : HP) : Prop where
  hp : W.ps i = some (.h p)
  ar : AR W i
  xx : p.x = x
  at_ : p.at_ = k
  le : k ≤ p.steps
  m : M = if p.pl < k then (M0.do_ i x).1 else M0
  po : HO p (W.ms i) W.H (if p.pl < k then (M0.do_ i x).2 else rep0)
theorem AH.en {i k : Nat} {W : Wd} {M M0 : Tbl} {x : OpD} {p : HP} (a : AH i k W M M0 x p) (li : LI W M) (hk : k < p.steps) : p.enabled W.H = true := by
  have hg := (li.pa i _ a.hp).1
  have hat := a.at_
  have hd : p.done = false := by simp [HP.done]; omega
  unfold HP.enabled
  rw [hd]
  simp only [Bool.not_false, Bool.true_and, Bool.or_eq_true, decide_eq_true_eq]
  have free : ∀ s, s < W.H.n → ¬ p.holds s → (W.H.ss s).who = 0 := fun s hs hh => (li.free_iff hs).2 fun j q hq hj => by
    by_cases hji : j = i
    · subst hji
      rw [a.hp] at hq; cases hq
      exact hh hj
    · exact a.ar j q hji hq s hj
  unfold HP.needs
  cases h1 : p.one with
  | true => left; simp
  | false =>
    simp only [Bool.false_eq_true, if_false]
    by_cases h8 : p.x.kind = 8
    · simp only [h8, if_true]
      by_cases hlt : p.at_ < p.k
      · right
        simp only [hlt, if_true, Int.toNat_natCast]
        refine free _ (by have := hg.k; omega) fun hh => ?_
        unfold HP.holds at hh
        rw [if_pos h8] at hh
        omega
      · left; simp [hlt]
    · simp only [h8, if_false]
      by_cases h0 : p.at_ = 0
      · right
        simp only [h0, if_true, Int.toNat_natCast]
        refine free _ hg.s fun hh => ?_
        unfold HP.holds at hh
        rw [if_neg h8] at hh
        omega
      · left; simp [h0]
theorem AH.step {i k m j : Nat} {W : Wd} {M M0 : Tbl} {x : OpD} {p : HP} (a : AH i k W M M0 x p) (li : LI W M) (hs : HS m W.H) (ts : TS j M) (hk : k < p.steps) (n : Int) :
    AH i (k + 1) (W.step i n) ((PR.h p).tb W.H M) M0 x (p.step (W.ms i) W.H n).1 := by
  have hen := a.en li hk
  have hpa := li.pa i _ a.hp
  have hst : W.step i n = ⟨(p.step (W.ms i) W.H n).2.2, bset W.ps i (some (.h (p.step (W.ms i) W.H n).1)), bset W.ms i (p.step (W.ms i) W.H n).2.1⟩ := by simp only [Wd.step, a.hp, PR.step]
  have hk4 := hstep_k p (W.ms i) W.H n
  have po := li.po_step hs ts a.hp n (r := if p.pl < k then (M0.do_ i x).2 else rep0) a.po
  have po : HO (p.step (W.ms i) W.H n).1 (p.step (W.ms i) W.H n).2.1 (p.step (W.ms i) W.H n).2.2 (if p.enabled W.H = true ∧ p.places = true then (M.do_ p.who p.x).2 else (if p.pl < k then (M0.do_ i x).2 else rep0)) := po
  have hat := a.at_
  have hstp : (p.step (W.ms i) W.H n).1.steps = p.steps := by unfold HP.steps HP.one; rw [hk4.2.1, hk4.2.2.1]
  have hpl : (p.step (W.ms i) W.H n).1.pl = p.pl := by unfold HP.pl HP.one; rw [hk4.2.1, hk4.2.2.1]
  have hplc := places_pl p (by omega)
  have hw : p.who = i := hpa.2.w
  have htb : (PR.h p).tb W.H M = if p.pl < k + 1 then (M0.do_ i x).1 else M0 := by
    show (if p.enabled W.H = true ∧ p.places = true then (M.do_ p.who p.x).1 else M) = _
    rw [hplc, hat, hw, a.xx, a.m]
    by_cases h1 : k = p.pl
    · have h2 : ¬ p.pl < k := by omega
      have h3 : p.pl < k + 1 := by omega
      rw [if_pos ⟨hen, by simp [h1]⟩, if_neg h2, if_pos h3]
    · rw [if_neg (by simp [h1])]
      by_cases h2 : p.pl < k
      · rw [if_pos h2, if_pos (by omega)]
      · rw [if_neg h2, if_neg (by omega)]
  have hre : (if p.enabled W.H = true ∧ p.places = true then (M.do_ p.who p.x).2 else (if p.pl < k then (M0.do_ i x).2 else rep0)) = if p.pl < k + 1 then (M0.do_ i x).2 else rep0 := by
    rw [hplc, hat, hw, a.xx, a.m]
    by_cases h1 : k = p.pl
    · have h2 : ¬ p.pl < k := by omega
      have h3 : p.pl < k + 1 := by omega
      rw [if_pos ⟨hen, by simp [h1]⟩, if_neg h2, if_pos h3]
    · rw [if_neg (by simp [h1])]
      by_cases h2 : p.pl < k
      · rw [if_pos h2, if_pos (by omega)]
      · rw [if_neg h2, if_neg (by omega)]
  rw [hre] at po
  refine ⟨by rw [hst]; exact bset_same _ _ _, a.ar.step n, by rw [hk4.2.1]; exact a.xx, ?_, by rw [hstp]; omega, ?_, ?_⟩
  · rw [hstep_at, if_pos hen, hat]
  · rw [htb, hpl]
  · have h1 : (W.step i n).ms i = (p.step (W.ms i) W.H n).2.1 := by rw [hst]; exact bset_same _ _ _
    have h2 : (W.step i n).H = (p.step (W.ms i) W.H n).2.2 := by rw [hst]
    rw [h1, h2, hpl]; exact po
theorem AH.init {W : Wd} {i : Nat} (ar : AR W i) (M : Tbl) (x : OpD) : AH i 0 { W with ps := bset W.ps i (some (.h (hp0 W.H i x))) } M M x (hp0 W.H i x) := by
  refine ⟨bset_same _ _ _, fun j q hj hq => ?_, rfl, rfl, Nat.zero_le _, by simp, ?_⟩
  · rw [show ({ W with ps := bset W.ps i (some (.h (hp0 W.H i x))) } : Wd).ps j = W.ps j from bset_ne hj] at hq
    exact ar j q hj hq
  · simp only [Nat.not_lt_zero, if_false]
    refine ⟨fun _ => .inl ⟨rfl, rfl⟩, fun _ _ => ⟨rfl, rfl, fun _ => ⟨rfl, rfl, rfl⟩, fun h => absurd h (by simp [hp0]), fun h => absurd h (by simp [hp0])⟩, fun _ _ => ⟨fun _ => rfl, fun h => absurd h (by simp [hp0]), fun h => absurd h (by simp [hp0])⟩⟩
theorem HO.fin {p : HP} {m : Mine} {H : Hall} {r : Reply} (x : HO p m H r) (h : p.at_ = p.steps) (hk1 : 1 ≤ p.k) : p.rep = r := by
  cases h1 : p.one with
  | true =>
    have hs : p.steps = 1 := by simp [HP.steps, h1]
    rcases x.o h1 with ⟨h2, _⟩ | ⟨_, h2⟩
    · omega
    · exact h2
  | false =>
    by_cases h8 : p.x.kind = 8
    · have hs : p.steps = 3 * p.k + 1 := by simp [HP.steps, h1, h8]
      obtain ⟨p1, p2, p3, p4, p5⟩ := x.p0 h1 h8
      have hk : ¬ p.k = 0 := by omega
      have r4 := p4 (by omega)
      have r5 := p5 (by omega)
      obtain ⟨q1, q2⟩ := rest_nil p H (j := p.at_ - p.k - 1) (by omega)
      rw [r4, q1, q2, List.append_nil, Bool.or_false, ← r5]
      cases hr : p.rep
      rw [hr] at p1 p2
      simp at p1 p2
      simp [p1, p2]
    · have hs : p.steps = 4 := by simp [HP.steps, h1, h8]
      exact ((x.w h1 h8).2.2 (by omega)).symm
theorem AH.done {i k : Nat} {W : Wd} {M M0 : Tbl} {x : OpD} {p : HP} (a : AH i k W M M0 x p) (li : LI W M) (hk : k = p.steps) (hn : 1 ≤ W.H.n) : p.done = true ∧ (∀ j q, W.ps j = some q → ∀ s, ¬ q.holds s) ∧ M = (M0.do_ i x).1 ∧ p.rep = (M0.do_ i x).2 := by
  have hpa := li.pa i _ a.hp
  have hat := a.at_
  have hpk : 1 ≤ p.k := by have := hpa.1.k; omega
  have hpl := pl_lt p hpk
  have hd : p.done = true := by simp [HP.done]; omega
  have hm := a.m
  have po := a.po
  rw [if_pos (by omega)] at hm po
  refine ⟨hd, fun j q hq s hh => ?_, hm, po.fin (by omega) hpk⟩
  by_cases hj : j = i
  · subst hj
    rw [a.hp] at hq; cases hq
    exact (Idle.done (m := W.ms j) hpa hd hn).h s hh
  · exact a.ar j q hj hq s hh
theorem miset_le (m : Mine) (u : ByteArray) (on : Bool) {w : Nat} (h : m.length ≤ w) (h2 : on = true → mhas m u = true ∨ m.length < w) : (miset m u on).length ≤ w := by
  unfold miset
  rw [List.length_append]
  have h1 := List.length_filter_le (fun k => !decide (k = u)) m
  cases on with
  | false => simp; omega
  | true =>
    simp only [if_true, List.length_singleton]
    rcases h2 rfl with h3 | h3
    · have : (m.filter fun k => !decide (k = u)).length < m.length := by
        rcases Nat.lt_or_ge (m.filter fun k => !decide (k = u)).length m.length with h | h
        · exact h
        · exfalso
          have he : (m.filter fun k => !decide (k = u)) = m := List.filter_sublist.eq_of_length (by omega)
          have hu : u ∈ m := mhas_iff.1 h3
          rw [← he] at hu
          simp at hu
      omega
    · omega
theorem hstep_le {p : HP} {m : Mine} {H : Hall} {n : Int} (h : (m.length : Int) ≤ H.c.watches) : ((p.step m H n).2.1.length : Int) ≤ H.c.watches := by
  unfold HP.step
  split
  rotate_left
  · exact h
  unfold HP.stp
  split
  · exact h
  split
  · exact h
  split
  · exact h
  unfold HP.stpW
  split
  · exact h
  split
  · exact h
  split
  rotate_left
  · exact h
  split
  · exact h
  split
  · exact h
  rename_i hc
  have := miset_le m p.x.user (decide (p.x.kind = 6)) (w := H.c.watches.toNat) (by omega) fun hon => by
    by_cases hm : mhas m p.x.user = true
    · exact .inl hm
    · right
      have hon : p.x.kind = 6 := by simpa using hon
      have : ¬ H.c.watches ≤ (m.length : Int) := fun hw => hc ⟨hon, by simpa using hm, hw⟩
      omega
  show ((miset m p.x.user _).length : Int) ≤ _
  omega
end Go.Den
namespace Go.Proofs.YtcnphhhcknhhaaaGreat
open Go Go.Den Go.MapKept
set_option linter.unusedSimpArgs false
set_option linter.unusedVariables false
set_option maxRecDepth 20000
def hLen (N : Nat) (x : OpD) : Nat := if badB x || decide (x.kind = 9) then 1 else if x.kind = 8 then 3 * N + 1 else 4
theorem steps_hLen {p : HP} {N : Nat} {x : OpD} (h1 : p.x = x) (h2 : p.k = N) : p.steps = hLen N x := by unfold HP.steps HP.one hLen; rw [h1, h2]
structure RH (T0 : Tags) (h0 : Heap) (hp m N nm : Nat) (c : Cfg) (B : Nat → Nat) (W : Wd) (M : Tbl) (T' : Tags) (h' : Heap) : Prop where
  o : Only UH T0 h0 T' h'
  x : ∃ A, HdM T' h' hp A B nm W
  k : WdK m W M
  r : ∀ j q, W.ps j = some q → Idle q (W.ms j) W.H.c
  n : W.H.n = N
  ec : W.H.c = c
  lm : ∀ j, ((W.ms j).length : Int) ≤ c.watches
  hz : ∀ j, nm ≤ j → W.ms j = [] ∧ ∀ p, W.ps j ≠ some (.h p)
section
variable {T0 T' : Tags} {h0 h' : Heap} {hp q i k m N nm : Nat} {c : Cfg} {B : Nat → Nat} {W : Wd} {M M0 : Tbl} {x : OpD} {K : Value → Heap → Prop}
theorem RH.hl (y : RH T0 h0 hp m N nm c B W M T' h') : HallR T' h' [1] hp W.H := let ⟨_, x⟩ := y.x; x.hl
theorem RH.ms (y : RH T0 h0 hp m N nm c B W M T' h') {j : Nat} (hj : j < nm) : MineR T' h' [5, j] (B j) (W.ms j) := let ⟨_, x⟩ := y.x; x.ms j hj
theorem RH.ext {h'' : Heap} (y : RH T0 h0 hp m N nm c B W M T' h') (e : Ext h' h'') : RH T0 h0 hp m N nm c B W M T' h'' :=
  ⟨y.o.up (Only.of_ext (U := non) y.o.wf e) non_up, let ⟨A, x⟩ := y.x; ⟨A, x.ext y.o.wf e⟩, y.k, y.r, y.n, y.ec, y.lm, y.hz⟩
theorem RH.mono {k : Nat} (y : RH T0 h0 hp m N nm c B W M T' h') (h : m ≤ k) : RH T0 h0 hp k N nm c B W M T' h' := ⟨y.o, y.x, ⟨y.k.li, y.k.hs.mono h, y.k.ts.mono h⟩, y.r, y.n, y.ec, y.lm, y.hz⟩
theorem RH.free (y : RH T0 h0 hp m N nm c B W M T' h') {s : Nat} (hs : s < N) : Free (W.H.ss s) (M.st s) :=
  y.k.li.rest (by rw [y.n]; exact hs) fun j q hq => (y.r j q hq).h s
theorem RH.base {U : Tag → Prop} {T'' : Tags} {h'' : Heap} (y : RH T0 h0 hp m N nm c B W M T' h') (o : Only U T' h' T'' h'') (f : ∀ t, UH t → ¬ U t) (n : ¬ U []) : RH T'' h'' hp m N nm c B W M T'' h'' :=
  ⟨Only.refl o.wf, let ⟨A, x⟩ := y.x; ⟨A, x.up o f n⟩, y.k, y.r, y.n, y.ec, y.lm, y.hz⟩
theorem RH.init {T : Tags} {h : Heap} (cw : CfgW c) (hr : rightB c = true) (w : Wf T h) (y : HallR T h [1] hp (hall0 c c.stripes.toNat)) (B : Nat → Nat) : RH T h hp 0 c.stripes.toNat 0 c B (wd0 c c.stripes.toNat) (tbl0 c c.stripes.toNat) T h :=
  ⟨Only.refl w, ⟨fun _ => 0, y, fun i p h => by simp [wd0] at h, fun i h => by omega⟩, wd0K cw hr (cfg_nn hr).1, fun j q h => by simp [wd0] at h, rfl, rfl, fun j => by
    simp -implicitDefEqProofs only [rightB, decide_eq_true_eq] at hr
    show ((([] : Mine).length : Nat) : Int) ≤ _
    simp; omega, fun j _ => ⟨rfl, fun p h => by simp [wd0] at h⟩⟩
/-- A heeding, behind k steps. -/
structure AhI (T0 : Tags) (h0 : Heap) (hp q i k m N nm : Nat) (c : Cfg) (B : Nat → Nat) (x : OpD) (M0 : Tbl) (ms0 : Nat → Mine) (T' : Tags) (h' : Heap) : Prop where
  o : Only UH T0 h0 T' h'
  e : ∃ (W : Wd) (M : Tbl) (p : HP) (A : Nat → Nat), HdM T' h' hp A B nm W ∧ A i = q ∧ WdK (m + k) W M ∧ AH i k W M M0 x p ∧ p.steps = hLen N x ∧ (∀ j q, j ≠ i → W.ps j = some q → Idle q (W.ms j) W.H.c) ∧ W.H.n = N ∧ W.H.c = c ∧ (∀ j, ((W.ms j).length : Int) ≤ c.watches) ∧ (∀ j, nm ≤ j → W.ms j = [] ∧ ∀ p, W.ps j ≠ some (.h p)) ∧ ∀ j, j ≠ i → W.ms j = ms0 j
theorem AhI.ext {ms0 : Nat → Mine} {h'' : Heap} (y : AhI T0 h0 hp q i k m N nm c B x M0 ms0 T' h') (e : Ext h' h'') : AhI T0 h0 hp q i k m N nm c B x M0 ms0 T' h'' := by
  obtain ⟨W, M, p, A, e1, e2⟩ := y.e
  exact ⟨y.o.up (Only.of_ext (U := non) y.o.wf e) non_up, W, M, p, A, e1.ext y.o.wf e, e2⟩
theorem ah_new (y : RH T0 h0 hp m N nm c B W M T' h') (hin : i < nm) (hi : i < 8) (x : OpD) (xw : OpW x) (h6 : badB x = false → 6 ≤ x.kind) (hl : x.users.length < 1000000) {v : Value} (hv : Sl 1 StrR (fz T' h') v x.users)
    (hk : ∀ T'' h'' q, AhI T0 h0 hp q i 0 m N nm c B x M W.ms T'' h'' → K (ptr q) h'') : callM P fn_heed_New #[ptr hp, ptr (B i), .int .i64 i, .agg (opC x v).toArray] h' K := by
  obtain ⟨A, xm⟩ := y.x
  refine hdnew_h hi x xw hl h6 hv y.o.wf xm y.k (fun q hq => y.r i q hq) fun T2 h2 q o2 x2 k2 => ?_
  refine hk T2 h2 q ⟨y.o.trans o2, _, M, hp0 W.H i x, bset A i q, x2, bset_same _ _ _, k2, ?_, ?_, fun j q hj hq => ?_, y.n, y.ec, y.lm, fun j hj => ⟨(y.hz j hj).1, fun p hp => (y.hz j hj).2 p (by rw [← hp]; exact (bset_ne (by omega)).symm)⟩, fun j _ => rfl⟩
  · exact AH.init (fun j q hj hq s => (y.r j q hq).h s) M x
  · exact steps_hLen rfl y.n
  · have hq : bset W.ps i _ j = some q := hq
    rw [bset_ne hj] at hq
    exact y.r j q hq
theorem ah_step {ms0 : Nat → Mine} (y : AhI T0 h0 hp q i k m N nm c B x M0 ms0 T' h') (hi : i < nm) (hkl : k < hLen N x) (hm : m + k < 100000) (n : Int)
    (hk : ∀ T'' h'', AhI T0 h0 hp q i (k + 1) m N nm c B x M0 ms0 T'' h'' → K (.tuple #[]) h'') : callM P fn_heed_Proc_Step #[ptr q, ptr hp, .int .i64 n] h' K := by
  obtain ⟨W, M, p, A, xm, rfl, wk, a, hst, hid, hn, hc, hlm, hhz, hms⟩ := y.e
  refine hdstep_h n y.o.wf xm wk hm hi a.hp fun T2 h2 o2 x2 => ?_
  have wk2 := wk.step hm a.hp n
  have a2 := a.step wk.li wk.hs wk.ts (by omega) n
  have hst2 : W.step i n = ⟨(p.step (W.ms i) W.H n).2.2, bset W.ps i (some (.h (p.step (W.ms i) W.H n).1)), bset W.ms i (p.step (W.ms i) W.H n).2.1⟩ := by simp only [Wd.step, a.hp, PR.step]
  have hk4 := hstep_k p (W.ms i) W.H n
  have hn2 := hstep_n p (W.ms i) W.H n
  have hHn : (W.step i n).H.n = W.H.n ∧ (W.step i n).H.c = W.H.c := by rw [hst2]; exact hn2
  refine hk T2 h2 ⟨y.o.trans o2, _, _, _, A, x2, rfl, wk2, a2, ?_, fun j q hj hq => ?_, by rw [hHn.1]; exact hn, by rw [hHn.2]; exact hc, fun j => ?_, fun j hj => ⟨?_, fun p' hp' => ?_⟩, fun j hj => ?_⟩
  · rw [← hst]; unfold HP.steps HP.one; rw [hk4.2.1, hk4.2.2.1]
  · have h1 : (W.step i n).ps j = W.ps j := by rw [hst2]; exact bset_ne hj
    have h2 : (W.step i n).ms j = W.ms j := by rw [hst2]; exact bset_ne hj
    rw [h1] at hq
    rw [h2, hHn.2]
    exact hid j q hj hq
  · by_cases hj : j = i
    · subst hj
      have h2 : (W.step j n).ms j = (p.step (W.ms j) W.H n).2.1 := by rw [hst2]; exact bset_same _ _ _
      rw [h2]
      have := hstep_le (p := p) (H := W.H) (n := n) (m := W.ms j) (by rw [hc]; exact hlm j)
      rw [hc] at this; exact this
    · have h2 : (W.step i n).ms j = W.ms j := by rw [hst2]; exact bset_ne hj
      rw [h2]; exact hlm j
  · have h2 : (W.step i n).ms j = W.ms j := by rw [hst2]; exact bset_ne (by omega)
    rw [h2]; exact (hhz j hj).1
  · have h1 : (W.step i n).ps j = W.ps j := by rw [hst2]; exact bset_ne (by omega)
    rw [h1] at hp'; exact (hhz j hj).2 p' hp'
  · have h2 : (W.step i n).ms j = W.ms j := by rw [hst2]; exact bset_ne hj
    rw [h2]; exact hms j hj
theorem AhI.hpr {ms0 : Nat → Mine} (y : AhI T0 h0 hp q i k m N nm c B x M0 ms0 T' h') (hkl : k ≤ hLen N x) : ∃ p, HPR T' h' [2, i] q (B i) p ∧ p.done = decide (k = hLen N x) := by
  obtain ⟨W, M, p, A, xm, rfl, wk, a, hst, hid, hn, hc, hlm, hhz, hms⟩ := y.e
  refine ⟨p, xm.ps i _ a.hp, ?_⟩
  have := a.at_
  simp -implicitDefEqProofs only [HP.done, hst, this]
  exact decide_eq_decide.2 (by omega)
theorem ah_done {ms0 : Nat → Mine} (y : AhI T0 h0 hp q i (hLen N x) m N nm c B x M0 ms0 T' h') :
    ∃ W p, RH T0 h0 hp (m + hLen N x) N nm c B W (M0.do_ i x).1 T' h' ∧ HPR T' h' [2, i] q (B i) p ∧ p.done = true ∧ p.rep = (M0.do_ i x).2 ∧ ∀ j, j ≠ i → W.ms j = ms0 j := by
  obtain ⟨W, M, p, A, xm, rfl, wk, a, hst, hid, hn, hc, hlm, hhz, hms⟩ := y.e
  have n1 := wk.hs.n8.1
  obtain ⟨d1, d2, d3, d4⟩ := a.done wk.li hst.symm n1
  subst d3
  refine ⟨W, p, ⟨y.o, ⟨A, xm⟩, wk, fun j q hq => ?_, hn, hc, hlm, hhz⟩, xm.ps i _ a.hp, d1, d4, hms⟩
  by_cases hj : j = i
  · subst hj
    rw [a.hp] at hq; cases hq
    exact Idle.done (wk.li.pa j _ a.hp) d1 n1
  · exact hid j q hj hq
/-- What does not touch the table but keeps an act. -/
theorem rh_did {T'' : Tags} {h'' : Heap} (y : RH T0 h0 hp m N nm c B W M T' h') (o : Only (pre [1]) T' h' T'' h'') {w k p : Int} (x : HallR T'' h'' [1] hp (W.H.did w k p)) : RH T0 h0 hp (m + 1) N nm c B { W with H := W.H.did w k p } M T'' h'' := by
  obtain ⟨A, xm⟩ := y.x
  refine ⟨y.o.trans (o.mono fun _ => UH.i1), ⟨A, x, fun j q hq => (xm.ps j q hq).kp o.k (d12i j) (by simp [pre]), fun j hj => (xm.ms j hj).kp o.k (d15 j)⟩, ⟨y.k.li.did w k p, y.k.hs.did w k p, y.k.ts.mono (by omega)⟩, y.r, y.n, y.ec, y.lm, y.hz⟩
/-- A client more. -/
theorem rh_mine {T'' : Tags} {h'' : Heap} (y : RH T0 h0 hp m N nm c B W M T' h') (o : Only non T' h' T'' h'') {q : Nat} (z : MineR T'' h'' [5, nm] q []) : RH T0 h0 hp m N (nm + 1) c (bset B nm q) W M T'' h'' := by
  obtain ⟨A, xm⟩ := y.x
  refine ⟨y.o.up o non_up, ⟨A, xm.hl.up o (Off.non _) (not_non _), fun j r hr => ?_, fun j hj => ?_⟩, y.k, y.r, y.n, y.ec, y.lm, fun j hj => y.hz j (by omega)⟩
  · have := (xm.ps j r hr).kp o.k (Off.non _) (not_non _)
    by_cases hjn : j = nm
    · subst hjn
      cases r with
      | w p => exact this
      | r p => exact this
      | h p => exact absurd hr ((y.hz _ (Nat.le_refl _)).2 p)
    · rw [bset_ne hjn]; exact this
  · by_cases hjn : j = nm
    · subst hjn; rw [bset_same, (y.hz _ (Nat.le_refl _)).1]; exact z
    · rw [bset_ne hjn]; exact (xm.ms j (by omega)).kp o.k (Off.non _)
end
end Go.Proofs.YtcnphhhcknhhaaaGreat
namespace Go.Proofs.YtcnphhhcknhhaaaGreat
open Go Go.Den Go.MapKept
set_option linter.unusedSimpArgs false
set_option linter.unusedVariables false
set_option maxRecDepth 20000
theorem Two.mono {hp mp m k N : Nat} {c : Cfg} {W : Wd} {M : Tbl} {T : Tags} {h : Heap} (x : Two hp mp m N c W M T h) (hmk : m ≤ k) : Two hp mp k N c W M T h :=
  ⟨⟨x.1.o, x.1.x, ⟨x.1.k.li, x.1.k.hs.mono hmk, x.1.k.ts.mono hmk⟩, x.1.r, x.1.n, x.1.c⟩, x.2⟩
end Go.Proofs.YtcnphhhcknhhaaaGreat
namespace Go.Proofs.YtcnphhhcknhhaaaGreat
open Go Go.Den Go.MapKept
set_option linter.unusedSimpArgs false
set_option linter.unusedVariables false
set_option maxRecDepth 20000
def crC (c : Cfg) (wv hv tv : Value) : List Value := cfgC c ++ [wv, hv, tv]
def OpsR (h : Heap) (c : List Value) (l : List OpD) : Prop := ∃ v, c = [v] ∧ Sl 7 OpR h v l
theorem OpsR.ext {h h' : Heap} {c : List Value} {l : List OpD} (e : Ext h h') (x : OpsR h c l) : OpsR h' c l := by
  obtain ⟨v, h1, h2⟩ := x
  exact ⟨v, h1, h2.ext (@OpR.ext) e⟩
theorem OpsR.at {F : Heap} {v : Value} {ls : List (List OpD)} (x : Sl 1 OpsR F v ls) {i : Nat} (hi : i < ls.length) : ∃ b q u, iaV (some (none, 1)) v (.int .i64 i) = some (.pointer (some ⟨b, q, none⟩)) ∧ (∀ h', Ext F h' → cel h' b q = some u) ∧ Sl 7 OpR F u ls[i] := by
  obtain ⟨b, o, c, i1, i2, i3⟩ := x.at (k := .i64) (i := i) (by omega) (by omega)
  simp -implicitDefEqProofs only [Int.toNat_natCast] at i3
  obtain ⟨u, rfl, hu⟩ := i3
  refine ⟨b, o, u, i1, fun h' e => ?_, hu⟩
  have := (cels_get (cels_ext e i2)).2 0 (by simp)
  simpa using this
structure CrX (h : Heap) (c : Cfg) (ws : List OpD) (hs : List (List OpD)) (ts : List Int) (wv hv tv : Value) : Prop where
  w : Sl 7 OpR h wv ws
  hd : Sl 1 OpsR h hv hs
  t : Sl 1 (IntR .u8) h tv ts
theorem CrX.ext {h h' : Heap} {c : Cfg} {ws : List OpD} {hs : List (List OpD)} {ts : List Int} {wv hv tv : Value} (x : CrX h c ws hs ts wv hv tv) (e : Ext h h') : CrX h' c ws hs ts wv hv tv := ⟨x.w.ext (@OpR.ext) e, x.hd.ext (@OpsR.ext) e, x.t.ext (fun _ r => r) e⟩
structure Fits (c : Cfg) (ws : List OpD) (hs : List (List OpD)) (ts : List Int) : Prop where
  w : ws.length ≤ 4
  h : hs.length ≤ 4
  n : ws.length + hs.length ≠ 0
  t : ts.length ≤ 300
  r : rightB c = true
  sw : ∀ x ∈ ws, shortB x = true
  lh : ∀ l ∈ hs, l.length ≤ 60
  sh : ∀ l ∈ hs, ∀ x ∈ l, shortB x = true
set_option maxHeartbeats 1000000 in
theorem fits17_ok (c : Cfg) (ws : List OpD) (hs : List (List OpD)) (ts : List Int) {h : Heap} {wv hv tv : Value} (x : CrX h c ws hs ts wv hv tv) {K : Value → Heap → Prop} (hk : ∀ h' b, Ext h h' → (b = true → Fits c ws hs ts) → K (.bool b) h') : callM P fn_doormanlaw17_fits #[.agg (crC c wv hv tv).toArray] h K := by
  apply e_doormanlaw17_fits
  unfold d_doormanlaw17_fits
  have wl := x.w.len
  have hl := x.hd.len
  have tl := x.t.len
  refine nw_agg fun v1 h1 n1 e1 c1 => ?_
  have c7 : cel h1 v1 7 = some wv := by simp [cel_of c1, crC, cfgC]
  have c8 : cel h1 v1 8 = some hv := by simp [cel_of c1, crC, cfgC]
  have c9 : cel h1 v1 9 = some tv := by simp [cel_of c1, crC, cfgC]
  have og : ldV (some (some 7)) (ptr v1) h1 = some (.agg (cfgC c).toArray) := by simp [ld_at c1, crC, cfgC]
  have no : K (.bool false) h1 := hk _ _ e1 (fun h => by cases h)
  by_cases a1 : ws.length ≤ 4
  rotate_left
  · have a1' : (4 : Int) < ws.length := by omega
    simp -implicitDefEqProofs [c7, wl, a1']; exact no
  have a1' : ¬ (4 : Int) < ws.length := by omega
  by_cases a2 : hs.length ≤ 4
  rotate_left
  · have a2' : (4 : Int) < hs.length := by omega
    simp -implicitDefEqProofs [c7, c8, wl, hl, a1', a2']; exact no
  have a2' : ¬ (4 : Int) < hs.length := by omega
  have hw : IntKind.i64.wrap ((ws.length : Int) + hs.length) = (ws.length + hs.length : Int) := wrap64_id (by omega) (by omega)
  by_cases a3 : ws.length + hs.length = 0
  · have a3' : (ws.length : Int) + hs.length = 0 := by omega
    have hw0 : IntKind.i64.wrap 0 = 0 := wrap64_id (by omega) (by omega)
    simp -implicitDefEqProofs [c7, c8, wl, hl, a1', a2', a3', hw0]; exact no
  have a3' : ¬ (ws.length : Int) + hs.length = 0 := by omega
  by_cases a4 : ts.length ≤ 300
  rotate_left
  · have a4' : (300 : Int) < ts.length := by omega
    simp -implicitDefEqProofs [c7, c8, c9, wl, hl, tl, a1', a2', hw, a3', a4']; exact no
  have a4' : ¬ (300 : Int) < ts.length := by omega
  simp -implicitDefEqProofs [c7, c8, c9, wl, hl, tl, a1', a2', hw, a3', a4', og]
  refine refRight_ok c fun h2 e2 => ?_
  have e02 := e1.trans e2
  have c7 : ∀ h', Ext h2 h' → cel h' v1 7 = some wv := fun h' e => by simp [cel_of (e _ _ (e2 _ _ c1)), crC, cfgC]
  have c8 : ∀ h', Ext h2 h' → cel h' v1 8 = some hv := fun h' e => by simp [cel_of (e _ _ (e2 _ _ c1)), crC, cfgC]
  cases hr : rightB c with
  | false => simp; exact hk _ _ e02 (fun h => by cases h)
  | true =>
  simp -implicitDefEqProofs
  unfold d_doormanlaw17_fits_1
  rw [seqM_eq]
  unfold d_doormanlaw17_fits_2
  refine loop_on [1] (fun s h' => Ext h2 h' ∧ ∃ i : Nat, i ≤ ws.length ∧ s 3 = .int .i64 i ∧ ∀ x ∈ ws.take i, shortB x = true) (fun s _ => (ws.length - num (s 3)).toNat) ⟨Ext.refl _, 0, by omega, rfl, by simp⟩ ?_
  rintro s h4 hf ⟨e4, i, hi, s3, hall⟩
  have s1 : s 1 = ptr v1 := by simpa using hf 1 (by simp)
  unfold d_doormanlaw17_fits_3
  simp -implicitDefEqProofs [s1, c7 _ e4, wl, s3]
  refine ⟨fun hc => ?_, fun hc => ?_⟩
  · have hlt : i < ws.length := by omega
    have hw1 : IntKind.i64.wrap ((i : Int) + 1) = (i + 1 : Nat) := by rw [wrap64_id (by omega) (by omega)]; omega
    obtain ⟨b, p, u, i1, i2, i3, i4⟩ := opsAt x.w hlt
    unfold d_doormanlaw17_fits_4
    simp -implicitDefEqProofs [s1, c7 _ e4, s3, i1, i2 _ (e02.trans e4)]
    refine short_ok ws[i] (i3.ext (@StrR.ext) (e02.trans e4)) fun h5 e5 => ?_
    unfold d_doormanlaw17_fits_5
    cases hs' : shortB ws[i] with
    | false =>
      simp -implicitDefEqProofs
      unfold d_doormanlaw17_fits_6
      simp -implicitDefEqProofs
      exact hk _ _ ((e02.trans e4).trans e5) (fun h => by cases h)
    | true =>
      simp -implicitDefEqProofs
      unfold d_doormanlaw17_fits_7
      simp -implicitDefEqProofs [s1, s3, hw1, -Int.natCast_add]
      refine ⟨⟨e4.trans e5, i + 1, by omega, rfl, fun y hy => ?_⟩, by omega⟩
      rw [List.take_succ_eq_append_getElem hlt, List.mem_append, List.mem_singleton] at hy
      rcases hy with hy | rfl
      · exact hall y hy
      · exact hs'
  have hie : i = ws.length := by omega
  subst hie
  rw [List.take_of_length_le (Nat.le_refl _)] at hall
  unfold d_doormanlaw17_fits_8
  rw [seqM_eq]
  unfold d_doormanlaw17_fits_9
  refine loop_on [1] (fun s h' => Ext h2 h' ∧ ∃ i : Nat, i ≤ hs.length ∧ s 4 = .int .i64 i ∧ ∀ l ∈ hs.take i, l.length ≤ 60 ∧ ∀ x ∈ l, shortB x = true) (fun s _ => (hs.length - num (s 4)).toNat) ⟨e4, 0, by omega, rfl, by simp⟩ ?_
  clear s3
  rintro r h5 hf5 ⟨e5, i, hi, r4, hal2⟩
  have r1 : r 1 = ptr v1 := by simpa [s1] using hf5 1 (by simp)
  unfold d_doormanlaw17_fits_10
  simp -implicitDefEqProofs [r1, c8 _ e5, hl, r4]
  refine ⟨fun hc => ?_, fun hc => ?_⟩
  rotate_left
  · have hie : i = hs.length := by omega
    subst hie
    rw [List.take_of_length_le (Nat.le_refl _)] at hal2
    exact hk _ _ (e02.trans e5) fun _ => ⟨a1, a2, a3, a4, hr, hall, fun l hl => (hal2 l hl).1, fun l hl => (hal2 l hl).2⟩
  have hlt : i < hs.length := by omega
  have hw1 : IntKind.i64.wrap ((i : Int) + 1) = (i + 1 : Nat) := by rw [wrap64_id (by omega) (by omega)]; omega
  obtain ⟨b, q, u, i1, i2, i3⟩ := OpsR.at x.hd hlt
  have ul := i3.len
  unfold d_doormanlaw17_fits_11
  rw [seqM_eq]
  unfold d_doormanlaw17_fits_12
  by_cases a6 : hs[i].length ≤ 60
  rotate_left
  · have a6' : (60 : Int) < hs[i].length := by omega
    simp -implicitDefEqProofs [r1, c8 _ e5, r4, i1, i2 _ (e02.trans e5), ul, a6']
    unfold d_doormanlaw17_fits_13
    simp -implicitDefEqProofs
    exact hk _ _ (e02.trans e5) (fun h => by cases h)
  have a6' : ¬ (60 : Int) < hs[i].length := by omega
  simp -implicitDefEqProofs [r1, c8 _ e5, r4, i1, i2 _ (e02.trans e5), ul, a6']
  unfold d_doormanlaw17_fits_14
  refine loop_on [1, 4] (fun s h' => Ext h2 h' ∧ ∃ j : Nat, j ≤ hs[i].length ∧ s 5 = .int .i64 j ∧ ∀ x ∈ hs[i].take j, shortB x = true) (fun s _ => (hs[i].length - num (s 5)).toNat) ⟨e5, 0, by omega, rfl, by simp⟩ ?_
  rintro t h6 hf6 ⟨e6, j, hj, t5, hal3⟩
  have t1 : t 1 = ptr v1 := by simpa [r1] using hf6 1 (by simp)
  have t4 : t 4 = .int .i64 i := by simpa [r4] using hf6 4 (by simp)
  unfold d_doormanlaw17_fits_15
  simp -implicitDefEqProofs [t1, c8 _ e6, t4, i1, i2 _ (e02.trans e6), ul, t5]
  refine ⟨fun hc => ?_, fun hc => ?_⟩
  · have hlj : j < hs[i].length := by omega
    have hw2 : IntKind.i64.wrap ((j : Int) + 1) = (j + 1 : Nat) := by rw [wrap64_id (by omega) (by omega)]; omega
    obtain ⟨b2, p2, u2, j1, j2, j3, j4⟩ := opsAt i3 hlj
    unfold d_doormanlaw17_fits_16
    simp -implicitDefEqProofs [t1, c8 _ e6, t4, i1, i2 _ (e02.trans e6), t5, j1, j2 _ (e02.trans e6)]
    refine short_ok hs[i][j] (j3.ext (@StrR.ext) (e02.trans e6)) fun h7 e7 => ?_
    unfold d_doormanlaw17_fits_17
    cases hs' : shortB hs[i][j] with
    | false =>
      simp -implicitDefEqProofs
      unfold d_doormanlaw17_fits_18
      simp -implicitDefEqProofs
      exact hk _ _ ((e02.trans e6).trans e7) (fun h => by cases h)
    | true =>
      simp -implicitDefEqProofs
      unfold d_doormanlaw17_fits_19
      simp -implicitDefEqProofs [r1, r4, t1, t4, t5, hw2, -Int.natCast_add]
      refine ⟨⟨e6.trans e7, j + 1, by omega, rfl, fun y hy => ?_⟩, by omega⟩
      rw [List.take_succ_eq_append_getElem hlj, List.mem_append, List.mem_singleton] at hy
      rcases hy with hy | rfl
      · exact hal3 y hy
      · exact hs'
  have hje : j = hs[i].length := by omega
  subst hje
  rw [List.take_of_length_le (Nat.le_refl _)] at hal3
  simp -implicitDefEqProofs [r1, s1, t1, t4, hw1, -Int.natCast_add]
  refine ⟨⟨e6, i + 1, by omega, rfl, fun l hl => ?_⟩, by omega⟩
  rw [List.take_succ_eq_append_getElem hlt, List.mem_append, List.mem_singleton] at hl
  rcases hl with hl | rfl
  · exact hal2 l hl
  · exact ⟨a6, hal3⟩
end Go.Proofs.YtcnphhhcknhhaaaGreat
namespace Go.Proofs.YtcnphhhcknhhaaaGreat
open Go Go.Den Go.MapKept
set_option linter.unusedSimpArgs false
set_option linter.unusedVariables false
set_option maxRecDepth 20000
def pollO : OpD := ⟨8, ⟨#[]⟩, 0, 0, 0, 0, []⟩
theorem pollW : OpW pollO := ⟨by simp [pollO, I64], by simp [pollO, I64], by simp [pollO, I64], by simp [pollO, I64], by simp [pollO, U64], by simp [pollO, maxLen]; decide⟩
theorem bdOpPoll : bdV (binf P ty_api_Op) [(0, .int .i64 8)] = some (.agg (opC pollO (.slice none 0 0)).toArray) := by kernel_rfl
def aw17 : Nat → HP × Mine × Hall
  | 0 => (hp0 (hall0 small 3) 0 pollO, [], hall0 small 3)
  | n + 1 => (aw17 n).1.step (aw17 n).2.1 (aw17 n).2.2 n
theorem aw17_done : ∀ n, n ≤ 10 → ((aw17 n).1.done = true ↔ n = 10) := by decide +kernel
theorem aw17_end : (aw17 10).1.placed = 3 := by decide +kernel
def Aw17 (T0 : Tags) (h0 : Heap) (hp pp mp : Nat) (v : Value) (h' : Heap) : Prop :=
  ∃ (T' : Tags) (k : Nat) (W : Wd) (M : Tbl), Only UH T0 h0 T' h' ∧ HdM T' h' hp (fun _ => pp) (fun _ => mp) 1 W ∧ WdK k W M ∧ W.H = (aw17 k).2.2 ∧ W.ps 0 = some (.h (aw17 k).1) ∧ W.ms 0 = (aw17 k).2.1 ∧ (∀ j, j ≠ 0 → W.ps j = none) ∧ v = .int .i64 k ∧ k ≤ 10
set_option maxHeartbeats 1000000 in
theorem awake17_ok {h : Heap} {K : Value → Heap → Prop} (hk : ∀ h', Ext h h' → K (.bool true) h') : callM P fn_doormanlaw17_awake #[] h K := by
  apply e_doormanlaw17_awake
  unfold d_doormanlaw17_awake
  refine small_ok fun h1 e1 => ?_
  unfold d_doormanlaw17_awake_1
  have w1 := wf_nil h1
  refine hallNew_ok small smallW w1 g1 (fun hr T2 h2 q o2 y2 => ?_) (fun hr => by simp [rightB, small] at hr)
  have hn3 : small.stripes.toNat = 3 := by decide
  have r2 := RH.init smallW hr o2.wf y2 (fun _ => 0)
  rw [hn3] at r2 y2
  unfold d_doormanlaw17_awake_2
  have enil : binV .eql 4 true (ptr q) (.pointer none) = some (.bool false) := rfl
  simp -implicitDefEqProofs [enil]
  unfold d_doormanlaw17_awake_3
  refine newMine_ok o2.wf (g5i 0) fun T3 h3 mp o3 n3 z3 => ?_
  have r3 := rh_mine r2 o3 z3
  unfold d_doormanlaw17_awake_4
  rw [bdOpPoll]
  simp -implicitDefEqProofs only [ov_s]
  obtain ⟨A, x3⟩ := r3.x
  have hB : bset (fun _ => 0) 0 mp 0 = mp := rfl
  have h6 : badB pollO = false → 6 ≤ pollO.kind := fun _ => by simp [pollO]
  have := hdnew_h (i := 0) (by omega) pollO pollW (by simp [pollO]) h6 (v := .slice none 0 0) (.inl ⟨rfl, _, _, rfl⟩) o3.wf x3 r3.k (fun p h => by simp [wd0] at h) (K := fun v19 h20 => d_doormanlaw17_awake_5 (.agg (cfgC small).toArray) (.tuple #[ptr q, .int .i64 0]) (ptr q) (.int .i64 0) (.bool false) (ptr q) (.bool false) (.bool false) (ptr mp) (.agg (opC pollO (.slice none 0 0)).toArray) v19 h20 K)
  rw [hB] at this
  refine this fun T4 h4 p o4 x4 k4 => ?_
  clear this
  have o0 : Only UH (fun _ => []) h1 T4 h4 := ((o2.mono fun _ => UH.i1).up o3 non_up).trans o4
  unfold d_doormanlaw17_awake_5
  rw [seqM_eq]
  unfold d_doormanlaw17_awake_6
  refine loop_on [1, 3] (fun s h' => Aw17 T4 h4 q p mp (s 4) h') (fun s _ => (20 - num (s 4)).toNat) ⟨T4, 0, _, _, Only.refl o4.wf, ⟨x4.hl, fun i r hr => ?_, fun i hi => ?_⟩, k4, rfl, rfl, rfl, fun j hj => ?_, rfl, by omega⟩ ?_
  · by_cases hi : i = 0
    · subst hi; exact x4.ps 0 r hr
    · have hr : bset (wd0 small 3).ps 0 (some (.h (hp0 (hall0 small 3) 0 pollO))) i = some r := hr
      rw [bset_ne hi] at hr; simp [wd0] at hr
  · have hi0 : i = 0 := by omega
    subst hi0
    exact x4.ms 0 (by omega)
  · show bset (wd0 small 3).ps 0 _ j = none
    rw [bset_ne hj]; rfl
  rintro s h4' hf ⟨T4', k, W, M, o4', x4', k4', hH, hP, hM, hO, s4, hk7⟩
  have s1 : s 1 = ptr q := by simpa using hf 1 (by simp)
  have s3 : s 3 = ptr p := by simpa using hf 3 (by simp)
  have hw : IntKind.i64.wrap ((k : Int) + 1) = (k + 1 : Nat) := by rw [wrap64_id (by omega) (by omega)]; omega
  have hd := aw17_done k hk7
  have hn20 : (k : Int) < 20 := by omega
  have xp := x4'.ps 0 _ hP
  unfold d_doormanlaw17_awake_7
  simp -implicitDefEqProofs [s4, s3, hn20]
  refine hedone_ok xp ?_
  by_cases h7 : k = 10
  · subst h7
    rw [hd.2 rfl]
    simp -implicitDefEqProofs [s3, s4]
    unfold d_doormanlaw17_awake_10
    simp -implicitDefEqProofs [s3, s4]
    refine heplaced_ok xp ?_
    rw [aw17_end]
    simp -implicitDefEqProofs [s1, s3, s4]
    exact hk _ (e1.trans (ext_of_only (o0.trans o4') UH.nil))
  · have hdf : (aw17 k).1.done = false := by
      cases hh : (aw17 k).1.done with
      | false => rfl
      | true => exact absurd (hd.1 hh) h7
    rw [hdf]
    simp -implicitDefEqProofs
    unfold d_doormanlaw17_awake_8
    simp -implicitDefEqProofs only [s3, s1, s4]
    refine hdstep_h (i := 0) (A := fun _ => p) (B := fun _ => mp) (hp := q) (W := W) (p := (aw17 k).1) (k : Int) o4'.wf x4' k4' (by omega) (by omega) hP fun T6 h6 o6 x6 => ?_
    unfold d_doormanlaw17_awake_9
    simp -implicitDefEqProofs [s1, s3, s4, hw, -Int.natCast_add]
    have hst : W.step 0 k = ⟨((aw17 k).1.step (aw17 k).2.1 (aw17 k).2.2 k).2.2, bset W.ps 0 (some (.h ((aw17 k).1.step (aw17 k).2.1 (aw17 k).2.2 k).1)), bset W.ms 0 ((aw17 k).1.step (aw17 k).2.1 (aw17 k).2.2 k).2.1⟩ := by
      simp -implicitDefEqProofs only [Wd.step, hP, PR.step, hH, hM]
    refine ⟨⟨T6, k + 1, _, _, o4'.trans o6, x6, k4'.step (by omega) hP k, by rw [hst]; rfl, by rw [hst]; rfl, by rw [hst]; rfl, fun j hj => ?_, rfl, by omega⟩, by omega⟩
    rw [hst]
    show bset W.ps 0 _ j = none
    rw [bset_ne hj]; exact hO j hj
end Go.Proofs.YtcnphhhcknhhaaaGreat
namespace Go.Proofs.YtcnphhhcknhhaaaGreat
open Go Go.Den
set_option maxRecDepth 100000
set_option linter.unusedVariables false
set_option maxHeartbeats 40000000
def d_doormanlaw17_HeedKnows_14 (q61 : Post) (m : List Nat) (s52 : Env) (v55 v56 v57 v58 v59 v60 v64 v65 v66 v67 v68 v69 v70 v72 v75 v76 v77 : Value) (h74 : Heap) : Prop := q61 .normal m (puts s52 [(45, (s52 7)), (46, v55), (47, v56), (48, (s52 5)), (49, v57), (50, v58), (51, v59), (52, v60), (55, v64), (56, v65), (57, (s52 5)), (58, v66), (59, v67), (60, (s52 7)), (61, v68), (62, v69), (63, v70), (8, v72), (64, v75), (65, v76), (66, v77)]) h74
def d_doormanlaw17_HeedKnows_20 (s84 : Env) (q86 : Post) (m : List Nat) (v87 v88 v91 v96 v100 v101 : Value) (h102 : Heap) : Prop := ov (binV BinOp.add 2 true (s84 10) (Value.int IntKind.i64 1)) fun v103 => q86 .normal m (puts s84 [(72, (s84 10)), (73, v87), (74, v87), (75, v88), (76, v91), (77, v96), (78, v100), (81, (s84 9)), (82, (s84 3)), (83, (s84 10)), (84, v101), (79, (s84 10)), (80, v103), (10, v103)]) h102
def d_doormanlaw17_HeedKnows_19 (s84 : Env) (h97 : Heap) (q86 : Post) (m : List Nat) (v87 v88 v91 v96 v100 : Value) : Prop := callM P fn_heed_Proc_Step #[(s84 9), (s84 3), (s84 10)] h97 fun v101 h102 => d_doormanlaw17_HeedKnows_20 s84 q86 m v87 v88 v91 v96 v100 v101 h102
def d_doormanlaw17_HeedKnows_18 (s84 : Env) (h85 : Heap) (q86 : Post) (m : List Nat) : Prop := ov (binV BinOp.lss 2 true (s84 10) (Value.int IntKind.i64 40)) fun v87 => gM (isB v87 true) (fun k90 => k90 (s84 9) h85) h85 fun v88 h89 => gM (isB v87 true) (fun k93 => callM P fn_heed_Proc_Done #[v88] h89 fun v94 h95 => k93 v94 h95) h89 fun v91 h92 => gM (isB v87 true) (fun k98 => ov (unV UnOp.not v91) fun v99 => k98 v99 h92) h92 fun v96 h97 => ov (pkV v87 v96 (Value.bool false)) fun v100 => cdM v100 (d_doormanlaw17_HeedKnows_19 s84 h97 q86 m v87 v88 v91 v96 v100) (q86 (.exit 4) m (puts s84 [(72, (s84 10)), (73, v87), (74, v87), (75, v88), (76, v91), (77, v96), (78, v100)]) h97)
def d_doormanlaw17_HeedKnows_17 (m : List Nat) (s52 : Env) (v55 v56 v57 v58 v59 v60 v64 v65 v66 v67 v68 v69 v70 v72 v75 v76 v77 v78 v79 : Value) (h80 : Heap) (q81 : Post) : Prop := loopM (fun m s84 h85 q86 => d_doormanlaw17_HeedKnows_18 s84 h85 q86 m) m (puts s52 [(45, (s52 7)), (46, v55), (47, v56), (48, (s52 5)), (49, v57), (50, v58), (51, v59), (52, v60), (55, v64), (56, v65), (57, (s52 5)), (58, v66), (59, v67), (60, (s52 7)), (61, v68), (62, v69), (63, v70), (8, v72), (64, v75), (65, v76), (66, v77), (67, (s52 3)), (68, (s52 6)), (69, (s52 5)), (70, v78), (71, v79), (9, v79), (10, (Value.int IntKind.i64 0))]) h80 (blkM 4 q81)
def d_doormanlaw17_HeedKnows_27 (v117 : Value) (s110 : Env) (q112 : Post) (m : List Nat) (v113 v114 v115 v116 : Value) (h118 : Heap) : Prop := ov (exV v117 0) fun v119 => ov (exV v117 1) fun v120 => ov (binV BinOp.add 2 false (s110 11) v119) fun v121 => ov (binV BinOp.add 2 true (s110 12) (Value.int IntKind.i64 1)) fun v122 => q112 .normal m (puts s110 [(88, (s110 12)), (89, v113), (90, v114), (91, v115), (92, v116), (96, (s110 3)), (97, (s110 5)), (98, (s110 12)), (99, v117), (95, v117), (100, v119), (101, v120), (13, v119), (14, v120), (102, (s110 11)), (103, v119), (104, v121), (11, v121), (93, (s110 12)), (94, v122), (12, v122)]) h118
def d_doormanlaw17_HeedKnows_26 (s110 : Env) (h111 : Heap) (q112 : Post) (m : List Nat) (v113 v114 v115 v116 : Value) : Prop := callM P fn_hall_Hall_Count #[(s110 3), (s110 5), (s110 12), (Value.string { data := #[] })] h111 fun v117 h118 => d_doormanlaw17_HeedKnows_27 v117 s110 q112 m v113 v114 v115 v116 h118
def d_doormanlaw17_HeedKnows_25 (s110 : Env) (h111 : Heap) (q112 : Post) (m : List Nat) : Prop := ov (faV (some 0) (s110 1)) fun v113 => ov (faV (some 0) v113) fun v114 => ov (ldV (some none) v114 h111) fun v115 => ov (binV BinOp.lss 2 false (s110 12) v115) fun v116 => cdM v116 (d_doormanlaw17_HeedKnows_26 s110 h111 q112 m v113 v114 v115 v116) (q112 (.exit 6) m (puts s110 [(88, (s110 12)), (89, v113), (90, v114), (91, v115), (92, v116)]) h111)
def d_doormanlaw17_HeedKnows_24 (m : List Nat) (s82 : Env) (v104 v106 : Value) (h105 : Heap) (q107 : Post) : Prop := loopM (fun m s110 h111 q112 => d_doormanlaw17_HeedKnows_25 s110 h111 q112 m) m (puts s82 [(85, (s82 9)), (86, v104), (87, v106), (11, (Value.int IntKind.i64 0)), (12, (Value.int IntKind.i64 0))]) h105 (blkM 6 q107)
def d_doormanlaw17_HeedKnows_31 (q61 : Post) (m : List Nat) (s108 : Env) (v123 v124 v125 v126 v127 v129 v131 v132 v133 v135 v136 v139 v143 v147 v151 v155 v156 v159 v162 v166 v170 v175 v179 : Value) (h176 : Heap) : Prop := q61 .ret m (puts s108 [(106, (s108 3)), (107, (s108 5)), (108, (s108 3)), (109, v123), (110, v124), (112, v125), (113, v126), (111, v127), (114, v129), (105, v129), (115, v131), (116, v132), (15, v131), (16, v132), (117, (s108 11)), (118, (s108 6)), (119, v133), (120, v135), (121, v135), (122, v136), (123, v139), (124, v143), (125, v147), (126, v151), (127, v155), (128, v155), (129, v156), (130, v159), (131, v162), (132, v166), (133, v170), (134, v175), (135, v179), (2, (Value.bool false))]) h176
def d_doormanlaw17_HeedKnows_32 (q61 : Post) (m : List Nat) (s108 : Env) (v123 v124 v125 v126 v127 v129 v131 v132 v133 v135 v136 v139 v143 v147 v151 v155 v156 v159 v162 v166 v170 v175 v179 : Value) (h176 : Heap) : Prop := q61 .normal m (puts s108 [(106, (s108 3)), (107, (s108 5)), (108, (s108 3)), (109, v123), (110, v124), (112, v125), (113, v126), (111, v127), (114, v129), (105, v129), (115, v131), (116, v132), (15, v131), (16, v132), (117, (s108 11)), (118, (s108 6)), (119, v133), (120, v135), (121, v135), (122, v136), (123, v139), (124, v143), (125, v147), (126, v151), (127, v155), (128, v155), (129, v156), (130, v159), (131, v162), (132, v166), (133, v170), (134, v175), (135, v179)]) h176
def d_doormanlaw17_HeedKnows_30 (s108 : Env) (v133 : Value) (h134 : Heap) (v132 : Value) (q61 : Post) (m : List Nat) (v123 v124 v125 v126 v127 v129 v131 : Value) : Prop := ov (binV BinOp.neq 2 false (s108 11) v133) fun v135 => gM (isB v135 false) (fun k138 => k138 (s108 11) h134) h134 fun v136 h137 => gM (isB v135 false) (fun k141 => ov (faV (some 0) (s108 1)) fun v142 => k141 v142 h137) h137 fun v139 h140 => gM (isB v135 false) (fun k145 => ov (faV (some 3) v139) fun v146 => k145 v146 h140) h140 fun v143 h144 => gM (isB v135 false) (fun k149 => ov (ldV (some none) v143 h144) fun v150 => k149 v150 h144) h144 fun v147 h148 => gM (isB v135 false) (fun k153 => ov (binV BinOp.gtr 2 false v136 v147) fun v154 => k153 v154 h148) h148 fun v151 h152 => ov (pkV v135 (Value.bool true) v151) fun v155 => gM (isB v155 false) (fun k158 => k158 v132 h152) h152 fun v156 h157 => gM (isB v155 false) (fun k161 => k161 (s108 6) h157) h157 fun v159 h160 => gM (isB v155 false) (fun k164 => ov (faV (some 1) (s108 8)) fun v165 => k164 v165 h160) h160 fun v162 h163 => gM (isB v155 false) (fun k168 => ov (ldV (some none) v162 h163) fun v169 => k168 v169 h163) h163 fun v166 h167 => gM (isB v155 false) (fun k172 => callM P fn_heed_Mine_Has #[v159, v166] h167 fun v173 h174 => k172 v173 h174) h167 fun v170 h171 => gM (isB v155 false) (fun k177 => ov (binV BinOp.neq 1 false v156 v170) fun v178 => k177 v178 h171) h171 fun v175 h176 => ov (pkV v155 (Value.bool true) v175) fun v179 => cdM v179 (d_doormanlaw17_HeedKnows_31 q61 m s108 v123 v124 v125 v126 v127 v129 v131 v132 v133 v135 v136 v139 v143 v147 v151 v155 v156 v159 v162 v166 v170 v175 v179 h176) (d_doormanlaw17_HeedKnows_32 q61 m s108 v123 v124 v125 v126 v127 v129 v131 v132 v133 v135 v136 v139 v143 v147 v151 v155 v156 v159 v162 v166 v170 v175 v179 h176)
def d_doormanlaw17_HeedKnows_29 (v125 : Value) (h128 : Heap) (v126 : Value) (s108 : Env) (v127 : Value) (q61 : Post) (m : List Nat) (v123 v124 : Value) : Prop := ldV (some none) v125 h128 = some v126 ∧ callM P fn_hall_Hall_Count #[(s108 3), (s108 5), v127, v126] h128 fun v129 h130 => ov (exV v129 0) fun v131 => ov (exV v129 1) fun v132 => callM P fn_heed_Mine_Count #[(s108 6)] h130 fun v133 h134 => d_doormanlaw17_HeedKnows_30 s108 v133 h134 v132 q61 m v123 v124 v125 v126 v127 v129 v131
def d_doormanlaw17_HeedKnows_28 (s108 : Env) (h109 : Heap) (q61 : Post) (m : List Nat) : Prop := ov (faV (some 1) (s108 8)) fun v123 => ov (ldV (some none) v123 h109) fun v124 => ov (faV (some 1) (s108 8)) fun v125 => ov (ldV (some none) v125 h109) fun v126 => callM P fn_hall_Hall_Stripe #[(s108 3), v124] h109 fun v127 h128 => d_doormanlaw17_HeedKnows_29 v125 h128 v126 s108 v127 q61 m v123 v124
def d_doormanlaw17_HeedKnows_23 (m : List Nat) (s82 : Env) (v104 v106 : Value) (h105 : Heap) (q61 : Post) : Prop := seqM (fun q107 => d_doormanlaw17_HeedKnows_24 m s82 v104 v106 h105 q107) (fun m s108 h109 => d_doormanlaw17_HeedKnows_28 s108 h109 q61 m) (blkM 3 q61)
def d_doormanlaw17_HeedKnows_22 (v104 : Value) (q61 : Post) (m : List Nat) (s82 : Env) (h105 : Heap) : Prop := ov (unV UnOp.not v104) fun v106 => cdM v106 (q61 .ret m (puts s82 [(85, (s82 9)), (86, v104), (87, v106), (2, (Value.bool false))]) h105) (d_doormanlaw17_HeedKnows_23 m s82 v104 v106 h105 q61)
def d_doormanlaw17_HeedKnows_21 (s82 : Env) (h83 : Heap) (q61 : Post) (m : List Nat) : Prop := callM P fn_heed_Proc_Done #[(s82 9)] h83 fun v104 h105 => d_doormanlaw17_HeedKnows_22 v104 q61 m s82 h105
def d_doormanlaw17_HeedKnows_16 (m : List Nat) (s52 : Env) (v55 v56 v57 v58 v59 v60 v64 v65 v66 v67 v68 v69 v70 v72 v75 v76 v77 v78 v79 : Value) (h80 : Heap) (q61 : Post) : Prop := seqM (fun q81 => d_doormanlaw17_HeedKnows_17 m s52 v55 v56 v57 v58 v59 v60 v64 v65 v66 v67 v68 v69 v70 v72 v75 v76 v77 v78 v79 h80 q81) (fun m s82 h83 => d_doormanlaw17_HeedKnows_21 s82 h83 q61 m) (blkM 3 q61)
def d_doormanlaw17_HeedKnows_15 (v72 : Value) (h74 : Heap) (s52 : Env) (m : List Nat) (v55 v56 v57 v58 v59 v60 v64 v65 v66 v67 v68 v69 v70 v75 v76 v77 : Value) (q61 : Post) : Prop := ov (ldV (some (some 7)) v72 h74) fun v78 => callM P fn_heed_New #[(s52 3), (s52 6), (s52 5), v78] h74 fun v79 h80 => d_doormanlaw17_HeedKnows_16 m s52 v55 v56 v57 v58 v59 v60 v64 v65 v66 v67 v68 v69 v70 v72 v75 v76 v77 v78 v79 h80 q61
def d_doormanlaw17_HeedKnows_13 (h71 : Heap) (v70 : Value) (q61 : Post) (m : List Nat) (s52 : Env) (v55 v56 v57 v58 v59 v60 v64 v65 v66 v67 v68 v69 : Value) : Prop := nwM (zc P ty_api_Op) ty_api_Op h71 fun v72 h73 => stM (some 7) v72 v70 h73 fun h74 => ov (faV (some 0) v72) fun v75 => ov (ldV (some none) v75 h74) fun v76 => ov (binV BinOp.eql 2 true v76 (Value.int IntKind.i64 9)) fun v77 => cdM v77 (d_doormanlaw17_HeedKnows_14 q61 m s52 v55 v56 v57 v58 v59 v60 v64 v65 v66 v67 v68 v69 v70 v72 v75 v76 v77 h74) (d_doormanlaw17_HeedKnows_15 v72 h74 s52 m v55 v56 v57 v58 v59 v60 v64 v65 v66 v67 v68 v69 v70 v75 v76 v77 q61)
def d_doormanlaw17_HeedKnows_12 (s52 : Env) (h53 : Heap) (q61 : Post) (m : List Nat) (v55 v56 v57 v58 v59 v60 : Value) : Prop := ov (faV (some 8) (s52 1)) fun v64 => ov (ldV (some none) v64 h53) fun v65 => ov (iaV (some (none, 1)) v65 (s52 5)) fun v66 => ov (ldV (some none) v66 h53) fun v67 => ov (iaV (some (none, 7)) v67 (s52 7)) fun v68 => ov (ldV (some (some 7)) v68 h53) fun v69 => callM P fn_doormanlaw17_heeding #[v69] h53 fun v70 h71 => d_doormanlaw17_HeedKnows_13 h71 v70 q61 m s52 v55 v56 v57 v58 v59 v60 v64 v65 v66 v67 v68 v69
def d_doormanlaw17_HeedKnows_11 (s52 : Env) (h53 : Heap) (m : List Nat) (v55 v56 v57 v58 v59 v60 : Value) (q54 : Post) : Prop := seqM (fun q61 => d_doormanlaw17_HeedKnows_12 s52 h53 q61 m v55 v56 v57 v58 v59 v60) (fun m s62 h63 => ov (binV BinOp.add 2 true (s62 7) (Value.int IntKind.i64 1)) fun v180 => q54 .normal m (puts s62 [(53, (s62 7)), (54, v180), (7, v180)]) h63) q54
def d_doormanlaw17_HeedKnows_10 (s52 : Env) (h53 : Heap) (m : List Nat) (q54 : Post) : Prop := ov (faV (some 8) (s52 1)) fun v55 => ov (ldV (some none) v55 h53) fun v56 => ov (iaV (some (none, 1)) v56 (s52 5)) fun v57 => ov (ldV (some none) v57 h53) fun v58 => ov (lnV 7 v58) fun v59 => ov (binV BinOp.lss 2 false (s52 7) v59) fun v60 => cdM v60 (d_doormanlaw17_HeedKnows_11 s52 h53 m v55 v56 v57 v58 v59 v60 q54) (q54 (.exit 2) m (puts s52 [(45, (s52 7)), (46, v55), (47, v56), (48, (s52 5)), (49, v57), (50, v58), (51, v59), (52, v60)]) h53)
def d_doormanlaw17_HeedKnows_9 (m : List Nat) (s40 : Env) (v43 v44 v45 v46 v50 : Value) (h51 : Heap) (q47 : Post) : Prop := loopM (fun m s52 h53 q54 => d_doormanlaw17_HeedKnows_10 s52 h53 m q54) m (puts s40 [(37, (s40 5)), (38, v43), (39, v44), (40, v45), (41, v46), (44, v50), (6, v50), (7, (Value.int IntKind.i64 0))]) h51 (blkM 2 (blkM 1 q47))
def d_doormanlaw17_HeedKnows_8 (h41 : Heap) (m : List Nat) (s40 : Env) (v43 v44 v45 v46 : Value) (q47 : Post) : Prop := callM P fn_heed_NewMine #[] h41 fun v50 h51 => d_doormanlaw17_HeedKnows_9 m s40 v43 v44 v45 v46 v50 h51 q47
def d_doormanlaw17_HeedKnows_7 (h41 : Heap) (m : List Nat) (s40 : Env) (v43 v44 v45 v46 : Value) (q42 : Post) : Prop := seqM (fun q47 => d_doormanlaw17_HeedKnows_8 h41 m s40 v43 v44 v45 v46 q47) (fun m s48 h49 => ov (binV BinOp.add 2 true (s48 5) (Value.int IntKind.i64 1)) fun v181 => q42 .normal m (puts s48 [(42, (s48 5)), (43, v181), (5, v181)]) h49) q42
def d_doormanlaw17_HeedKnows_6 (s40 : Env) (h41 : Heap) (m : List Nat) (q42 : Post) : Prop := ov (faV (some 8) (s40 1)) fun v43 => ov (ldV (some none) v43 h41) fun v44 => ov (lnV 7 v44) fun v45 => ov (binV BinOp.lss 2 false (s40 5) v45) fun v46 => cdM v46 (d_doormanlaw17_HeedKnows_7 h41 m s40 v43 v44 v45 v46 q42) (q42 (.exit 0) m (puts s40 [(37, (s40 5)), (38, v43), (39, v44), (40, v45), (41, v46)]) h41)
def d_doormanlaw17_HeedKnows_5 (x0 v1 v3 v5 v6 v10 v15 v19 v22 v23 v24 v26 v27 v28 v29 v32 v36 : Value) (h33 : Heap) (q37 : Post) : Prop := loopM (fun m s40 h41 q42 => d_doormanlaw17_HeedKnows_6 s40 h41 m q42) [] (puts (envOf [x0]) [(1, v1), (2, (Value.bool false)), (17, v3), (18, v5), (19, v5), (20, v6), (21, v10), (22, v15), (23, v19), (26, v22), (27, v23), (28, v24), (25, v24), (29, v26), (30, v27), (3, v26), (4, v27), (31, v27), (32, v28), (33, v28), (34, v29), (35, v32), (36, v36), (5, (Value.int IntKind.i64 0))]) h33 (blkM 0 q37)
def d_doormanlaw17_HeedKnows_4 (x0 v1 v3 v5 v6 v10 v15 v19 v22 v23 v24 v26 v27 v28 v29 v32 v36 : Value) (h33 : Heap) (K : Value → Heap → Prop) : Prop := seqM (fun q37 => d_doormanlaw17_HeedKnows_5 x0 v1 v3 v5 v6 v10 v15 v19 v22 v23 v24 v26 v27 v28 v29 v32 v36 h33 q37) (fun m s38 h39 => (retM P [.tmp 2] K) .ret m (puts s38 [(2, (Value.bool true))]) h39) (retM P [.tmp 2] K)
def d_doormanlaw17_HeedKnows_3 (v24 : Value) (h25 : Heap) (K : Value → Heap → Prop) (x0 v1 v3 v5 v6 v10 v15 v19 v22 v23 : Value) : Prop := ov (exV v24 0) fun v26 => ov (exV v24 1) fun v27 => ov (binV BinOp.neq 2 true v27 (Value.int IntKind.i64 0)) fun v28 => gM (isB v28 false) (fun k31 => k31 v26 h25) h25 fun v29 h30 => gM (isB v28 false) (fun k34 => ov (binV BinOp.eql 4 true v29 (Value.pointer none)) fun v35 => k34 v35 h30) h30 fun v32 h33 => ov (pkV v28 (Value.bool true) v32) fun v36 => cdM v36 (K (Value.bool false) h33) (d_doormanlaw17_HeedKnows_4 x0 v1 v3 v5 v6 v10 v15 v19 v22 v23 v24 v26 v27 v28 v29 v32 v36 h33 K)
def d_doormanlaw17_HeedKnows_2 (v1 : Value) (h16 : Heap) (K : Value → Heap → Prop) (x0 v3 v5 v6 v10 v15 v19 : Value) : Prop := ov (faV (some 0) v1) fun v22 => ov (ldV (some (some 7)) v22 h16) fun v23 => callM P fn_hall_New #[v23] h16 fun v24 h25 => d_doormanlaw17_HeedKnows_3 v24 h25 K x0 v1 v3 v5 v6 v10 v15 v19 v22 v23
def d_doormanlaw17_HeedKnows_1 (v3 v1 : Value) (h4 : Heap) (K : Value → Heap → Prop) (x0 : Value) : Prop := ov (unV UnOp.not v3) fun v5 => gM (isB v5 false) (fun k8 => ov (ldV (some (some 10)) v1 h4) fun v9 => k8 v9 h4) h4 fun v6 h7 => gM (isB v5 false) (fun k12 => callM P fn_doormanlaw17_fits #[v6] h7 fun v13 h14 => k12 v13 h14) h7 fun v10 h11 => gM (isB v5 false) (fun k17 => ov (unV UnOp.not v10) fun v18 => k17 v18 h11) h11 fun v15 h16 => ov (pkV v5 (Value.bool true) v15) fun v19 => cdM v19 (callM P fn_doormanlaw17_awake #[] h16 fun v20 h21 => K v20 h21) (d_doormanlaw17_HeedKnows_2 v1 h16 K x0 v3 v5 v6 v10 v15 v19)
def d_doormanlaw17_HeedKnows (x0 : Value) (h : Heap) (K : Value → Heap → Prop) : Prop := nwM (some x0.cells) ty_doormanlaw17_Crew h fun v1 h2 => callM P fn_doormanlaw17_awake #[] h2 fun v3 h4 => d_doormanlaw17_HeedKnows_1 v3 v1 h4 K x0
theorem e_doormanlaw17_HeedKnows {x0 : Value} {h : Heap} {K : Value → Heap → Prop} (hd : d_doormanlaw17_HeedKnows x0 h K) : callM P fn_doormanlaw17_HeedKnows #[x0] h K :=
  call_of good mixed (fn := Tryz.f4) (args := [x0]) Tryz.func4 rfl (by kernel_rfl) (of_decide_eq_true rfl) (B := d_doormanlaw17_HeedKnows x0 h K) (by kernel_rfl) hd
end Go.Proofs.YtcnphhhcknhhaaaGreat
namespace Go.Proofs.YtcnphhhcknhhaaaGreat
open Go Go.Den Go.MapKept
set_option linter.unusedSimpArgs false
set_option linter.unusedVariables false
set_option maxRecDepth 20000
theorem hLen_le {N : Nat} (h : N ≤ 8) (x : OpD) : 1 ≤ hLen N x ∧ hLen N x ≤ 25 := by
  unfold hLen
  split
  · omega
  · split <;> omega
theorem RH.em {T0 T' : Tags} {h0 h' : Heap} {hp m N nm : Nat} {c : Cfg} {B : Nat → Nat} {W : Wd} {M : Tbl} (y : RH T0 h0 hp m N nm c B W M T' h') (j : Nat) : W.em j = W.ms j := by
  unfold Wd.em
  cases h : W.ps j with
  | none => rfl
  | some p => exact (y.r j p h).e
theorem RH.fd {T0 T' : Tags} {h0 h' : Heap} {hp m N nm : Nat} {c : Cfg} {B : Nat → Nat} {W : Wd} {M : Tbl} (y : RH T0 h0 hp m N nm c B W M T' h') {s : Nat} (hs : s < N) : (W.H.ss s).feed = M.fd s ∧ (W.H.ss s).book = M.bk s := by
  have := (y.free hs).e
  simp -implicitDefEqProofs only [Tbl.st, Prod.mk.injEq] at this
  exact ⟨this.2.symm, this.1.symm⟩
theorem short_users {x : OpD} (h : shortB x = true) : x.users.length ≤ 20 := by simp [shortB] at h; exact h.2.1
def HkO (T4 : Tags) (h4 : Heap) (hp N : Nat) (c : Cfg) (k : Nat) (h' : Heap) : Prop := ∃ (T' : Tags) (B : Nat → Nat) (W : Wd) (M : Tbl), RH T4 h4 hp (2400 * k) N k c B W M T' h'
def HkI (T4 : Tags) (h4 : Heap) (hp N : Nat) (c : Cfg) (k : Nat) (B : Nat → Nat) (i : Nat) (h' : Heap) : Prop := ∃ (T' : Tags) (W : Wd) (M : Tbl), RH T4 h4 hp (2400 * k + 40 * i) N (k + 1) c B W M T' h'
def HkA (T4 : Tags) (h4 : Heap) (hp q i m N nm : Nat) (c : Cfg) (B : Nat → Nat) (x : OpD) (M0 : Tbl) (ms0 : Nat → Mine) (j : Nat) (h' : Heap) : Prop := ∃ T', AhI T4 h4 hp q i j m N nm c B x M0 ms0 T' h'
/-- While one counts. -/
def HkC (T4 : Tags) (h4 : Heap) (hp m N nm : Nat) (c : Cfg) (B : Nat → Nat) (W0 : Wd) (M0 : Tbl) (s : Nat) (h' : Heap) : Prop := ∃ T' W, RH T4 h4 hp (m + s) N nm c B W M0 T' h' ∧ W.ms = W0.ms
def cntS (M : Tbl) (k : Int) (s : Nat) : Nat := ((List.range s).map fun s => (M.fd s).count k).sum
theorem cntS_s (M : Tbl) (k : Int) (s : Nat) : cntS M k (s + 1) = cntS M k s + (M.fd s).count k := by simp [cntS, List.range_succ, List.map_append, List.sum_append]
theorem count_le {m : Nat} {f : Feed} (x : FdM m f) (k : Int) : f.count k ≤ m := Nat.le_trans (List.length_filter_le _ _) x.len
set_option maxHeartbeats 8000000 in
theorem heedKnows_ok (c : Cfg) (cw : CfgW c) (ws : List OpD) (hs : List (List OpD)) (ts : List Int) {h : Heap} {wv hv tv : Value} (x : CrX h c ws hs ts wv hv tv) {K : Value → Heap → Prop} (hk : ∀ h', Ext h h' → K (.bool true) h') :
    callM P fn_doormanlaw17_HeedKnows #[.agg (crC c wv hv tv).toArray] h K := by
  apply e_doormanlaw17_HeedKnows
  unfold d_doormanlaw17_HeedKnows
  refine nw_agg fun v1 h1 n1 e1 c1 => ?_
  refine awake17_ok fun h2 e2 => ?_
  have e02 := e1.trans e2
  have wo := x.w.one
  have ho := x.hd.one
  have to := x.t.one
  have ogA : ∀ h', Ext h2 h' → ldV (some (some 10)) (ptr v1) h' = some (.agg (crC c wv hv tv).toArray) := fun h' e => by simp [ld_at (e _ _ (e2 _ _ c1)), crC, cfgC]
  unfold d_doormanlaw17_HeedKnows_1
  simp -implicitDefEqProofs [ogA _ (Ext.refl h2)]
  refine fits17_ok c ws hs ts (x.ext e02) fun h3 b e3 hb => ?_
  have e03 := e02.trans e3
  cases b with
  | false =>
    simp -implicitDefEqProofs
    exact awake17_ok fun h4 e4 => hk _ (e03.trans e4)
  | true =>
  have ft := hb rfl
  simp -implicitDefEqProofs
  unfold d_doormanlaw17_HeedKnows_2
  have c3 := e3 _ _ (e2 _ _ c1)
  have og : ldV (some (some 7)) (ptr v1) h3 = some (.agg (cfgC c).toArray) := by simp [ld_at c3, crC, cfgC]
  simp -implicitDefEqProofs [og]
  refine hallNew_ok c cw (wf_nil h3) g1 (fun hr T4 h4 hp o4 y4 => ?_) (fun hr => by rw [ft.r] at hr; cases hr)
  obtain ⟨hcn, hN⟩ := cfg_nn hr
  have r4 := RH.init cw hr o4.wf y4 (fun _ => 0)
  obtain ⟨N, hNN⟩ : ∃ N, N = c.stripes.toNat := ⟨_, rfl⟩
  rw [← hNN] at r4 hcn hN
  have cst : (N : Int) = c.stripes := hcn
  unfold d_doormanlaw17_HeedKnows_3
  have enil : ∀ p : Nat, binV .eql 4 true (ptr p) (.pointer none) = some (.bool false) := fun _ => rfl
  simp -implicitDefEqProofs [enil]
  unfold d_doormanlaw17_HeedKnows_4
  rw [seqM_eq]
  unfold d_doormanlaw17_HeedKnows_5
  have cb4 : h4 v1 = some (.cells (crC c wv hv tv).toArray ty_doormanlaw17_Crew (0, 0)) ∧ T4 v1 = [] := o4.k.at c3 rfl (by simp [pre])
  have xF : CrX (fz T4 h4) c ws hs ts wv hv tv := by
    have : CrX (fz (fun _ => []) h3) c ws hs ts wv hv tv := by rw [fz_nil]; exact x.ext e03
    exact this.ext (o4.ext (by simp [pre]))
  have e34 : Ext h3 h4 := ext_of_only o4 (by simp [pre])
  have hl := x.hd.len
  have kEnd : ∀ {T' h'}, Only UH T4 h4 T' h' → K (.bool true) h' := fun o => hk _ (e03.trans (ext_of_only ((o4.mono fun _ => UH.i1).trans o) UH.nil))
  have n8 := r4.k.hs.n8
  rw [r4.n] at n8
  have c8s : c.stripes ≤ 8 := by omega
  have cl : ∀ {T' h'}, Only UH T4 h4 T' h' → ∀ {n : Nat} {v : Value}, (crC c wv hv tv)[n]? = some v → cel h' v1 n = some v := fun o n v hv => by
    rw [cel_of (o.see cb4 UH.nil).1]; simpa using hv
  refine loop_on [1, 3] (fun s h' => ∃ k : Nat, HkO T4 h4 hp N c k h' ∧ s 5 = .int .i64 k ∧ k ≤ hs.length) (fun s _ => (hs.length - num (s 5)).toNat) ⟨0, ⟨T4, _, _, _, r4⟩, rfl, by omega⟩ ?_
  rintro s h5 hf5 ⟨k, ⟨T5, B, W5, M5, r5⟩, s5, hk5⟩
  have s1 : s 1 = ptr v1 := by simpa using hf5 1 (by simp)
  have s3 : s 3 = ptr hp := by simpa using hf5 3 (by simp)
  have k4 : hs.length ≤ 4 := ft.h
  have c8 := cl r5.o (n := 8) (v := hv) (by simp [crC, cfgC])
  unfold d_doormanlaw17_HeedKnows_6
  simp -implicitDefEqProofs [s1, c8, hl, s5]
  refine ⟨fun hc => ?_, fun hc => ?_⟩
  rotate_left
  · exact kEnd r5.o
  have hlt : k < hs.length := by omega
  have hwk : IntKind.i64.wrap ((k : Int) + 1) = (k + 1 : Nat) := by rw [wrap64_id (by omega) (by omega)]; omega
  obtain ⟨bk, qk, uk, i1, i2, i3⟩ := OpsR.at xF.hd hlt
  have ul := i3.len
  have lk := ft.lh _ (List.getElem_mem hlt)
  unfold d_doormanlaw17_HeedKnows_7
  rw [seqM_eq]
  unfold d_doormanlaw17_HeedKnows_8
  refine newMine_ok r5.o.wf (g5i k) fun T6 h6 mp o6 n6 z6 => ?_
  have r6 := rh_mine r5 o6 z6
  obtain ⟨B6, hB6⟩ : ∃ B6, B6 = bset B k mp := ⟨_, rfl⟩
  rw [← hB6] at r6
  have hBk : B6 k = mp := by rw [hB6]; exact bset_same _ _ _
  unfold d_doormanlaw17_HeedKnows_9
  refine loop_on [1, 3, 5, 6] (fun s h' => ∃ i : Nat, HkI T4 h4 hp N c k B6 i h' ∧ s 7 = .int .i64 i ∧ i ≤ hs[k].length) (fun s _ => (hs[k].length - num (s 7)).toNat) ⟨0, ⟨T6, _, _, r6⟩, rfl, by omega⟩ ?_
  rintro r h7 hf7 ⟨i, ⟨T7, W7, M7, r7⟩, r7', hi7⟩
  have q1 : r 1 = ptr v1 := by simpa [s1] using hf7 1 (by simp)
  have q3 : r 3 = ptr hp := by simpa [s3] using hf7 3 (by simp)
  have q5 : r 5 = .int .i64 k := by simpa [s5] using hf7 5 (by simp)
  have q6 : r 6 = ptr mp := by simpa using hf7 6 (by simp)
  have c8 := cl r7.o (n := 8) (v := hv) (by simp [crC, cfgC])
  have eF7 : Ext (fz T4 h4) (fz T7 h7) := r7.o.ext UH.nil
  have i2' := i2 _ (eF7.trans (fz_ext _ _))
  unfold d_doormanlaw17_HeedKnows_10
  simp -implicitDefEqProofs [q1, c8, q5, i1, i2', ul, r7']
  refine ⟨fun hc => ?_, fun hc => ?_⟩
  rotate_left
  · simp -implicitDefEqProofs [s1, s3, s5, q1, q3, q5, hwk, -Int.natCast_add]
    exact ⟨⟨k + 1, ⟨T7, B6, W7, M7, r7.mono (by omega)⟩, rfl, by omega⟩, by omega⟩
  have hli : i < hs[k].length := by omega
  have hwi : IntKind.i64.wrap ((i : Int) + 1) = (i + 1 : Nat) := by rw [wrap64_id (by omega) (by omega)]; omega
  obtain ⟨bi, pi, ui, j1, j2, j3, j4⟩ := opsAt i3 hli
  have hsx := ft.sh _ (List.getElem_mem hlt) _ (List.getElem_mem hli)
  unfold d_doormanlaw17_HeedKnows_11
  rw [seqM_eq]
  unfold d_doormanlaw17_HeedKnows_12
  simp -implicitDefEqProofs [q1, c8, q5, i1, i2', r7', j1, j2 _ (eF7.trans (fz_ext _ _))]
  have ou := j3.one
  refine heeding_ok _ ou fun h8 e8 => ?_
  unfold d_doormanlaw17_HeedKnows_13
  have zcOp' : zc P ty_api_Op = some (opC ⟨0, ⟨#[]⟩, 0, 0, 0, 0, []⟩ (.slice none 0 0)).toArray := by kernel_rfl
  rw [zcOp']
  obtain ⟨X, hX⟩ : ∃ X, X = heOp hs[k][i] := ⟨_, rfl⟩
  have Xw : OpW X := by rw [hX]; exact heOp_w j4
  have Xu : X.users = hs[k][i].users := by rw [hX]; rfl
  have Xk : 6 ≤ X.kind ∧ X.kind ≤ 9 := by rw [hX]; exact heOp_k _
  have lx := short_users hsx
  rw [← hX]
  refine nw_st (by simp [opC]) (by simp [opC]) (by simp [opC, ou.1]) fun vb h9 n9 e9 c9 => ?_
  have c9 : h9 vb = some (.cells (opC X ui).toArray ty_api_Op (0, 0)) := by simpa using c9
  have e79 := e8.trans e9
  have r9 := r7.ext e79
  have t9 : T7 vb = [] := r7.o.wf vb (fresh_of e8 n9)
  have u0 : cel h9 vb 0 = some (.int .i64 X.kind) := by simp [cel_of c9, opC]
  simp -implicitDefEqProofs [u0]
  refine ⟨fun h9' => ?_, fun h9' => ?_⟩
  · unfold d_doormanlaw17_HeedKnows_14
    simp -implicitDefEqProofs [s1, s3, s5, q1, q3, q5, q6, r7', hwi, -Int.natCast_add]
    exact ⟨⟨i + 1, ⟨T7, W7, M7, r9.mono (by omega)⟩, rfl, by omega⟩, by omega⟩
  unfold d_doormanlaw17_HeedKnows_15
  have oa : ∀ h', h' vb = some (.cells (opC X ui).toArray ty_api_Op (0, 0)) → ldV (some (some 7)) (ptr vb) h' = some (.agg (opC X ui).toArray) := fun h' hc => by simp [ld_at hc, opC]
  simp -implicitDefEqProofs [oa _ c9, q3, q5, q6]
  have uT : Sl 1 StrR (fz T7 h9) ui X.users := by rw [Xu]; exact j3.ext (@StrR.ext) (eF7.trans (fz_of_ext e79))
  rw [← hBk]
  have rb := r9.base (Only.refl (U := non) r9.o.wf) (fun _ _ h => h) (not_non _)
  refine ah_new rb (by omega) (by omega) X Xw (fun _ => Xk.1) (by rw [Xu]; omega) uT fun Ta ha q a0 => ?_
  rw [hBk]
  have hL := hLen_le (N := N) (by omega) X
  unfold d_doormanlaw17_HeedKnows_16
  rw [seqM_eq]
  unfold d_doormanlaw17_HeedKnows_17
  refine loop_on [1, 3, 5, 6, 7, 8, 9] (fun s h'' => ∃ j : Nat, HkA T7 h9 hp q k (2400 * k + 40 * i) N (k + 1) c B6 X M7 W7.ms j h'' ∧ s 10 = .int .i64 j ∧ j ≤ hLen N X) (fun s _ => (40 - num (s 10)).toNat) ⟨0, ⟨Ta, a0⟩, rfl, by omega⟩ ?_
  rintro t h10 hf10 ⟨j, ⟨T10, a10⟩, t10, hj⟩
  have t1 : t 1 = ptr v1 := by simpa [q1] using hf10 1 (by simp)
  have t3 : t 3 = ptr hp := by simpa [q3] using hf10 3 (by simp)
  have t5 : t 5 = .int .i64 k := by simpa [q5] using hf10 5 (by simp)
  have t6 : t 6 = ptr mp := by simpa [q6] using hf10 6 (by simp)
  have t7 : t 7 = .int .i64 i := by simpa [r7'] using hf10 7 (by simp)
  have t8 : t 8 = ptr vb := by simpa using hf10 8 (by simp)
  have t9' : t 9 = ptr q := by simpa using hf10 9 (by simp)
  have hj40 : (j : Int) < 40 := by omega
  have hwj : IntKind.i64.wrap ((j : Int) + 1) = (j + 1 : Nat) := by rw [wrap64_id (by omega) (by omega)]; omega
  obtain ⟨p10, hp10, hd10⟩ := a10.hpr hj
  unfold d_doormanlaw17_HeedKnows_18
  simp -implicitDefEqProofs [t10, hj40, t9']
  refine hedone_ok hp10 ?_
  rw [hd10]
  by_cases hjl : j = hLen N X
  rotate_left
  · simp -implicitDefEqProofs [hjl]
    unfold d_doormanlaw17_HeedKnows_19
    simp -implicitDefEqProofs only [t9', t3, t10]
    refine ah_step a10 (by omega) (by omega) (by omega) _ fun T11 h11 a11 => ?_
    unfold d_doormanlaw17_HeedKnows_20
    simp -implicitDefEqProofs [q1, q3, q5, q6, r7', t1, t3, t5, t6, t7, t8, t9', t10, hwj, -Int.natCast_add]
    exact ⟨⟨j + 1, ⟨T11, a11⟩, rfl, by omega⟩, by omega⟩
  subst hjl
  simp -implicitDefEqProofs
  obtain ⟨W11, p11, r11, hp11, hd11, hr11, hm11⟩ := ah_done a10
  unfold d_doormanlaw17_HeedKnows_21
  simp -implicitDefEqProofs [t9']
  refine hedone_ok hp11 ?_
  rw [hd11]
  unfold d_doormanlaw17_HeedKnows_22
  simp -implicitDefEqProofs
  unfold d_doormanlaw17_HeedKnows_23
  rw [seqM_eq]
  unfold d_doormanlaw17_HeedKnows_24
  obtain ⟨M11, hM11⟩ : ∃ M11, M11 = (M7.do_ k X).1 := ⟨_, rfl⟩
  rw [← hM11] at r11
  have oB : Only UH T4 h4 T7 h9 := r9.o
  refine loop_on [1, 3, 5, 6, 7, 8] (fun s h'' => ∃ j : Nat, HkC T7 h9 hp (2400 * k + 40 * i + hLen N X) N (k + 1) c B6 W11 M11 j h'' ∧ s 12 = .int .i64 j ∧ s 11 = .int .i64 (cntS M11 k j) ∧ j ≤ N) (fun s _ => (N - num (s 12)).toNat) ⟨0, ⟨T10, W11, r11, rfl⟩, rfl, rfl, by omega⟩ ?_
  rintro u h12 hf12 ⟨j, ⟨T12, W12, r12, hms12⟩, u12, u11, hjN⟩
  have u1 : u 1 = ptr v1 := by simpa [t1] using hf12 1 (by simp)
  have u3 : u 3 = ptr hp := by simpa [t3] using hf12 3 (by simp)
  have u5 : u 5 = .int .i64 k := by simpa [t5] using hf12 5 (by simp)
  have u6 : u 6 = ptr mp := by simpa [t6] using hf12 6 (by simp)
  have u7 : u 7 = .int .i64 i := by simpa [t7] using hf12 7 (by simp)
  have u8 : u 8 = ptr vb := by simpa [t8] using hf12 8 (by simp)
  have c0 : cel h12 v1 0 = some (.int .i64 c.stripes) := cl (oB.trans r12.o) (by simp [crC, cfgC])
  have cnt_le : ∀ j, j ≤ N → cntS M11 k j ≤ 100000 * j := by
    intro j
    induction j with
    | zero => intro _; simp [cntS]
    | succ j ih =>
      intro hj
      have h1 := ih (by omega)
      have h2 := count_le (r12.k.ts.fd j (by rw [r12.k.li.n, r12.n]; omega)) (k : Int)
      rw [cntS_s]; omega
  unfold d_doormanlaw17_HeedKnows_25
  simp -implicitDefEqProofs [u1, c0, u12]
  refine ⟨fun hc => ?_, fun hc => ?_⟩
  · have hjl : j < N := by omega
    unfold d_doormanlaw17_HeedKnows_26
    simp -implicitDefEqProofs only [u3, u5, u12]
    refine hcount_ok k ⟨#[]⟩ r12.o.wf g1 r12.hl (by rw [r12.n]; exact hjl) r12.k.hs (by omega) fun T13 h13 o13 y13 => ?_
    have r13 := rh_did r12 o13 y13
    rw [(r12.fd hjl).1]
    unfold d_doormanlaw17_HeedKnows_27
    have hb := cnt_le (j + 1) (by omega)
    rw [cntS_s] at hb
    have hw1 : IntKind.i64.wrap ((cntS M11 k j : Int) + ((M11.fd j).count k : Nat)) = (cntS M11 k (j + 1) : Nat) := by
      rw [cntS_s, wrap64_id (by omega) (by omega)]; omega
    have hw2 : IntKind.i64.wrap ((j : Int) + 1) = (j + 1 : Nat) := by rw [wrap64_id (by omega) (by omega)]; omega
    simp -implicitDefEqProofs [t1, t3, t5, t6, t7, t8, u1, u3, u5, u6, u7, u8, u11, u12, hw1, hw2, -Int.natCast_add]
    exact ⟨⟨j + 1, ⟨T13, _, r13.mono (by omega), hms12⟩, rfl, rfl, by omega⟩, by omega⟩
  have hjN' : j = N := by omega
  subst hjN'
  have b12 := (r12.o.see ⟨c9, t9⟩ UH.nil).1
  have x1 : cel h12 vb 1 = some (.string X.user) := by simp [cel_of b12, opC]
  have hM11c : M11.c = c := by rw [r12.k.li.c, r12.ec]
  have hM11n : M11.n = j := by rw [r12.k.li.n, r12.n]
  have hcount : cntS M11 k j = (W12.ms k).length := by
    have h1 := r12.k.li.ws.count (i := k) (by omega)
    rw [r12.em] at h1
    rw [← h1]
    unfold Tbl.count cntS
    rw [hM11n]
  have hst := stripeOf_lt (u := X.user) (n := c.stripes) (by omega)
  obtain ⟨su, hsu⟩ : ∃ su : Nat, stripeOf X.user c.stripes = su := ⟨(stripeOf X.user c.stripes).toNat, by omega⟩
  have hsl : su < j := by omega
  have hwatch : (M11.fd su).watching k X.user = mhas (W12.ms k) X.user := by
    have h1 := r12.k.li.ws.watching r12.k.ts (i := k) (by omega) X.user
    rw [r12.em] at h1
    have h2 : M11.stripe X.user = su := by unfold Tbl.stripe; rw [hM11c, hsu]; simp
    rw [h2] at h1; exact h1
  unfold d_doormanlaw17_HeedKnows_28
  simp -implicitDefEqProofs [u3, u8, x1]
  refine hstripe_ok X.user Xw.s1 r12.hl (by rw [r12.ec]; exact c8s) ?_
  rw [r12.ec, hsu]
  unfold d_doormanlaw17_HeedKnows_29
  simp -implicitDefEqProofs [u3, u5, u6, u8, x1]
  refine hcount_ok k X.user r12.o.wf g1 r12.hl (by rw [r12.n]; exact hsl) r12.k.hs (by omega) fun T13 h13 o13 y13 => ?_
  have r13 := rh_did r12 o13 y13
  rw [(r12.fd hsl).1, hwatch]
  have hms13 : MineR T13 h13 [5, k] mp (W12.ms k) := by
    have := r13.ms (j := k) (by omega)
    rw [hBk] at this; exact this
  simp -implicitDefEqProofs [u6]
  refine mcount_ok hms13 ?_
  have c3' : cel h13 v1 3 = some (.int .i64 c.watches) := cl (oB.trans r13.o) (by simp [crC, cfgC])
  have b13 := (r13.o.see ⟨c9, t9⟩ UH.nil).1
  have x13 : cel h13 vb 1 = some (.string X.user) := by simp [cel_of b13, opC]
  have hlm : ((W12.ms k).length : Int) ≤ c.watches := r12.lm k
  have hlm' : ¬ c.watches < ((W12.ms k).length : Int) := by omega
  unfold d_doormanlaw17_HeedKnows_30
  simp -implicitDefEqProofs [u1, u6, u8, u11, hcount, c3', hlm', x13]
  refine mhas_ok hms13 X.user ?_
  simp -implicitDefEqProofs
  unfold d_doormanlaw17_HeedKnows_32
  simp -implicitDefEqProofs [s1, s3, s5, q1, q3, q5, q6, r7', t1, t3, t5, t6, t7, t8, u1, u3, u5, u6, u7, u8, hwi, -Int.natCast_add]
  exact ⟨⟨i + 1, ⟨T13, _, _, (⟨oB.trans r13.o, r13.x, r13.k, r13.r, r13.n, r13.ec, r13.lm, r13.hz⟩ : RH T4 h4 hp _ _ _ _ _ _ _ _ _).mono (by omega)⟩, rfl, by omega⟩, by omega⟩
end Go.Proofs.YtcnphhhcknhhaaaGreat
namespace Go.Proofs.YtcnphhhcknhhaaaGreat
open Go Go.Den
set_option linter.unusedSimpArgs false
set_option linter.unusedVariables false
structure CrewD where
  c : Cfg
  ws : List OpD
  hs : List (List OpD)
  ts : List Int
def CrewR (h : Heap) (c : List Value) (x : CrewD) : Prop := ∃ wv hv tv, c = crC x.c wv hv tv ∧ CrX h x.c x.ws x.hs x.ts wv hv tv ∧ CfgW x.c
theorem rdrCrew : Rdr P 44 CrewR := fun enc W base spare held fuel cs x h => by
  have hl : cs.length = 10 := (struct_fields (P := P) Tryz.underlying44 h).1.trans (by kernel_rfl)
  obtain ⟨_, _, h0⟩ := struct_field (P := P) Tryz.underlying44 h 0 24 0 7 (by kernel_rfl)
  obtain ⟨_, _, h1⟩ := struct_field (P := P) Tryz.underlying44 h 1 40 7 1 (by kernel_rfl)
  obtain ⟨_, _, h2⟩ := struct_field (P := P) Tryz.underlying44 h 2 41 8 1 (by kernel_rfl)
  obtain ⟨_, _, h3⟩ := struct_field (P := P) Tryz.underlying44 h 3 42 9 1 (by kernel_rfl)
  obtain ⟨a0, e0, w0⟩ := rdrCfg _ _ _ _ _ _ _ _ h0
  have rO : Rdr P 40 OpsR := Rdr.slice (P := P) (sz := 7) Tryz.underlying40 (by kernel_rfl) (by decide) rdrOp
  obtain ⟨a1, v1, e1, s1⟩ := rO _ _ _ _ _ _ _ _ h1
  obtain ⟨a2, v2, e2, s2⟩ := Rdr.slice (P := P) (sz := 1) Tryz.underlying41 (by kernel_rfl) (by decide) rO _ _ _ _ _ _ _ _ h2
  obtain ⟨a3, v3, e3, s3⟩ := Rdr.slice (P := P) (sz := 1) Tryz.underlying42 (by kernel_rfl) (by decide) (Rdr.int (P := P) Tryz.underlying5) _ _ _ _ _ _ _ _ h3
  match cs, hl with
  | [x0, x1, x2, x3, x4, x5, x6, x7, x8, x9], _ =>
    simp [cfgC] at e0 e1 e2 e3
    exact ⟨⟨a0, a1, a2, a3⟩, v1, v2, v3, by simp [crC, cfgC, e0, e1, e2, e3], ⟨s1, s2, s3⟩, w0⟩
end Go.Proofs.YtcnphhhcknhhaaaGreat
namespace Go.Proofs.YtcnphhhcknhhaaaGreat
open Go Go.Den
theorem heedKnows_row {x : CrewD} {b0 : Array Value} {h : Heap} {K : Value → Heap → Prop} (hc : CrewR h b0.toList x) (hk : ∀ h', Ext h h' → K (.bool true) h') :
    callM P fn_doormanlaw17_HeedKnows #[.agg b0] h K := by
  obtain ⟨wv, hv, tv, e0, cx, cw⟩ := hc
  have h0 : b0 = (crC x.c wv hv tv).toArray := by rw [← e0]
  rw [h0]
  exact heedKnows_ok x.c cw x.ws x.hs x.ts cx hk
end Go.Proofs.YtcnphhhcknhhaaaGreat
